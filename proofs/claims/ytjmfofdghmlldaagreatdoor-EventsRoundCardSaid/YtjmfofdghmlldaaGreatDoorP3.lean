/- A part of the proof: what it holds is said by each theorem. -/
import Derived.Lib.ItoaNum
import Derived.Test.YtjmfofdghmlldaaGreatDoorP2
set_option linter.unusedVariables false
set_option linter.defProp false
set_option linter.unusedSimpArgs false
namespace Gx.Cf
open Go Go.Proofs
section
variable {R:Type}
def XS (c:CaseD):Prop:=∃ (H:Nat) (res:List Int) (bs:List BusD) (ls:List LineD) (us:List UnitD) (ss:List StoreD) (ts:List TieD) (os:List OutD),
 BaseG H res bs ls us ss ts∧OutsG ls.length us.length os∧(os=[]∨Ca (Ade true H res bs ls us ss ts os)=none)∧c=Ade false H res bs ls us ss ts os
theorem A0d {N:Nat} {l:List Int} {o:Bool} (hN:4096≤N) (f:l.length≤9223372036854775807) {H:Nat} {d:List Int} {bs:List BusD} {ls:List LineD} {us:List UnitD} {ss:List StoreD} {ts:List TieD} (b:BaseG H d bs ls us ss ts) (k:Nat) (i:k≤l.length) :
  ∃ c,XS c∧∀ K:LA→O R,TT N K (Ao l) l.length o (H:Int) d.length bs.length ls.length us.length ss.length (Ao d) (bs.flatMap BusD.av) (ls.flatMap LineD.av) (us.flatMap UnitD.av) (ss.flatMap StoreD.av) (k:Int) ts.length (ts.flatMap TieD.av)=K c.av:=by
 obtain⟨y,j,y0,y1,e,m⟩:=nx (R:=R) (N:=N) (t:=false) (o:=o) f 4 (by omega) (by omega) k i
 obtain⟨n,hn⟩:∃ n:Nat,y=(n:Int):=⟨y.toNat,by omega⟩
 subst hn
 obtain⟨os,a1,a2,a3⟩:=Anu (R:=R) (o:=o) hN f b n N j [] (by omega) e (by simp;omega) ⟨by simp,by simp⟩ (.inl rfl)
 refine⟨_,⟨H,d,bs,ls,us,ss,ts,os,b,a1,a2,rfl⟩,fun K=>?_⟩
 unfold TT dJ
 rw[m]
 simpa using a3 K
theorem A0e {N:Nat} {l:List Int} {o:Bool} (hN:4096≤N) (j:l.length≤9223372036854775807) {H:Nat} {n:List Int} {bs:List BusD} {ls:List LineD} {us:List UnitD} {ss:List StoreD} (b:BaseG H n bs ls us ss []) (k:Nat) (V:k≤l.length) :
  ∃ c,XS c∧∀ K:LA→O R,HQ N K (bs.length:Int) (Ao l) l.length o (H:Int) n.length bs.length ls.length us.length (Ao n) (bs.flatMap BusD.av) (ls.flatMap LineD.av) (us.flatMap UnitD.av) (k:Int) ss.length (ss.flatMap StoreD.av)=K c.av:=by
 have hb:=b.bl;have hH:=b.h
 obtain⟨y50,u,y500,y501,f,i⟩:=nx (R:=R) (N:=N) (t:=false) (o:=o) j 3 (by omega) (by omega) k V
 by_cases T:y50=2
 ·have z:(y50==2)=true:=by simpa using T
  obtain⟨y52,A,y520,y521,v,y⟩:=nx (R:=R) (N:=N) (t:=false) (o:=o) j (bs.length:Int) (by omega) (by omega) u f
  obtain⟨B1,X,d,C,D,hB1⟩:=HP (R:=R) (N:=N) (m:=H) (t:=false) (o:=o) (by omega) j 12 (by omega) (by omega) (by omega) A v
  obtain⟨B2,Y,q,F,G,hB2⟩:=HP (R:=R) (N:=N) (m:=H) (t:=false) (o:=o) (by omega) j 12 (by omega) (by omega) (by omega) X D
  obtain⟨B3,k3,s,I,L,hB3⟩:=HP (R:=R) (N:=N) (m:=H) (t:=false) (o:=o) (by omega) j 40 (by omega) (by omega) (by omega) Y G
  obtain⟨c,M,S⟩:=A0d (R:=R) (o:=o) hN j (ts:=[⟨[116,48],y52,.of B1 false false,.of B2 false false,.of B3 false false⟩]) ⟨b.h,b.rl,b.rr,b.bl,b.bg,b.ll,b.lg,b.ul,b.ug,b.sl,b.sg,by simp,by
   intro x U;simp at U;subst U
   exact⟨rfl,⟨y520,y521⟩,d,C,q,F,s,I⟩⟩ k3 L
  refine⟨c,M,fun K=>?_⟩
  unfold HQ KO
  rw[i,z,ct,y,hB1,hB2,hB3,P0 d.symm,P0 q.symm,P0 s.symm,←S K,←d]
  simp only[d]
  have e:List.flatMap TieD.av [⟨[116,48],y52,.of B1 false false,.of B2 false false,.of B3 false false⟩]=[(.str ([116,48]:List UInt8)),(.int .i64 y52),(.imm (B1.flatMap ZN) H 1 false false),(.imm (B2.flatMap ZN) H 1 false false),(.imm (B3.flatMap ZN) H 1 false false)]:=by
   simp[TieD.av,Sl.av,d,q,s]
  rw[e];rfl
 ·have z:(y50==2)=false:=by simpa using T
  obtain⟨c,M,S⟩:=A0d (R:=R) (o:=o) hN j b u f
  refine⟨c,M,fun K=>?_⟩
  unfold HQ KO
  rw[i,z,cf,←S K];rfl
theorem A0f {N:Nat} {l:List Int} {o:Bool} (hN:4096≤N) (b:l.length≤9223372036854775807) {H:Nat} {d:List Int} {bs:List BusD} {ls:List LineD} (h:1≤H∧H≤3) (rl:d.length=H) (rr:∀ x ∈ d,0≤x∧x<5) (bl:1≤bs.length∧bs.length≤4) (bg:∀ i (h:i<bs.length),BusG i H bs[i]) (ll:ls.length≤7) (lg:∀ i (h:i<ls.length),LineH bs.length i H ls[i]) :
  ∀ (n fuel k:Nat) (us:List UnitD),n<fuel→k≤l.length→us.length+n≤3→1≤us.length+n→(∀ i (h:i<us.length),UnitG i bs.length H us[i]) →
  ∃ c,XS c∧∀ K:LA→O R,Py N K (bs.length:Int) (Ao l) l.length o (H:Int) d.length bs.length (Ao d) (bs.flatMap BusD.av) fuel (n:Int) (k:Int) ls.length us.length (ls.flatMap LineD.av) (us.flatMap UnitD.av)=K c.av
 | 0,fuel+1,k,us,_,U,hn,V,ug=>by
  obtain⟨y34,j,y340,y341,e,f⟩:=nx (R:=R) (N:=N) (t:=false) (o:=o) b 3 (by omega) (by omega) k U
  by_cases h2:y34=2
  ·have X:(y34==2)=true:=by simpa using h2
   obtain⟨y36,Y,y360,y361,m,q⟩:=nx (R:=R) (N:=N) (t:=false) (o:=o) b (bs.length:Int) (by omega) (by omega) j e
   obtain⟨y38,k38,y380,y381,s,v⟩:=nx (R:=R) (N:=N) (t:=false) (o:=o) b 20 (by omega) (by omega) Y m
   obtain⟨y40,k40,y400,y401,y,z⟩:=nx (R:=R) (N:=N) (t:=false) (o:=o) b 8 (by omega) (by omega) k38 s
   obtain⟨y42,k42,y420,y421,A,C⟩:=nx (R:=R) (N:=N) (t:=false) (o:=o) b 8 (by omega) (by omega) k40 y
   obtain⟨y44,k44,y440,y441,D,F⟩:=nx (R:=R) (N:=N) (t:=false) (o:=o) b 4 (by omega) (by omega) k42 A
   obtain⟨y46,k46,y460,y461,G,I⟩:=nx (R:=R) (N:=N) (t:=false) (o:=o) b (y38+1) (by omega) (by omega) k44 D
   obtain⟨y48,k48,y480,y481,L,M⟩:=nx (R:=R) (N:=N) (t:=false) (o:=o) b (y38+1) (by omega) (by omega) k46 G
   obtain⟨c,S,T⟩:=A0e (R:=R) (o:=o) hN b (us:=us) (ss:=[⟨[115,48],y36,y38,y46,y48,y40,y42,⟨1+y44,4⟩⟩]) ⟨h,rl,rr,bl,bg,ll,lg,⟨by omega,by omega⟩,ug,by simp,by
    intro x hx;simp at hx;subst hx
    exact⟨rfl,⟨y360,y361⟩,⟨y380,y381⟩,⟨y460,by simp only;omega⟩,⟨y480,by simp only;omega⟩,⟨y400,y401⟩,⟨y420,y421⟩,by simp only;omega,by simp only;omega,rfl⟩,by simp,by simp⟩ k48 L
   refine⟨c,S,fun K=>?_⟩
   rw[Py];unfold AJ
   rw[show decide (((0:Nat):Int)>0)=false from rfl,cf,f,X,ct,q,v,z,C,F,Px (a:=y38+1) (by omega),I,M,Px (a:=1+y44) (by omega),←T K]
   rfl
  ·have X:(y34==2)=false:=by simpa using h2
   obtain⟨c,S,T⟩:=A0e (R:=R) (o:=o) hN b (us:=us) (ss:=[]) ⟨h,rl,rr,bl,bg,ll,lg,⟨by omega,by omega⟩,ug,by simp,by simp,by simp,by simp⟩ j e
   refine⟨c,S,fun K=>?_⟩
   rw[Py];unfold AJ
   rw[show decide (((0:Nat):Int)>0)=false from rfl,cf,f,X,cf,←T K]
   rfl
 | n+1,fuel+1,k,us,hf,U,hn,V,ug=>by
  obtain⟨u,k1,gu,hk1,hu⟩:=A2a (R:=R) (N:=N) (t:=false) (o:=o) (by omega) b (i:=us.length) (by omega) (nb:=(bs.length:Int)) (H:=(H:Int)) (by omega) (by omega) k U
  obtain⟨c,S,T⟩:=A0f (o:=o) hN b h rl rr bl bg ll lg n fuel k1 (us++[u]) (by omega) hk1 (by simp;omega) (by simp;omega) (dL (P:=fun i u=>UnitG i bs.length H u) ug gu)
  refine⟨c,S,fun K=>?_⟩
  rw[Py];unfold AJ
  have wn:IntKind.wrap .i64 (((n+1:Nat):Int) - 1)=(n:Int):=oQ (by omega)
  have c2:(Nat.ble (us.length+1) 140737488355328&&Nat.ble ((us.length+1)*216) 140737488355328)=true:=by rw[Bq,Bq];simp;omega
  have c3:List.take (us.length*22) (us.flatMap UnitD.av)++u.av=(us++[u]).flatMap UnitD.av:=by rw[Cg Dn _ rfl];simp
  rw[show decide (((n+1:Nat):Int)>0)=true from decide_eq_true (by omega),ct,hu,show((Nat.beq (List.length u.av) 22)&&(Nat.ble 22 22))=true from rfl,ct,c2,ct,wn,←T K,←c3,List.length_append]
  rfl
theorem A56 {N:Nat} {l:List Int} {o:Bool} (hN:4096≤N) (s:l.length≤9223372036854775807) {H:Nat} {b:List Int} {bs:List BusD} (h:1≤H∧H≤3) (rl:b.length=H) (rr:∀ x ∈ b,0≤x∧x<5) (bl:1≤bs.length∧bs.length≤4) (bg:∀ i (h:i<bs.length),BusG i H bs[i]) :
  ∀ (n fuel k:Nat) (ls:List LineD),n<fuel→k≤l.length→ls.length+n≤7→(∀ i (h:i<ls.length),LineH bs.length i H ls[i]) →
  ∃ c,XS c∧∀ K:LA→O R,Pz N K (bs.length:Int) (Ao l) l.length o (H:Int) b.length bs.length (Ao b) (bs.flatMap BusD.av) fuel (n:Int) (k:Int) ls.length (ls.flatMap LineD.av)=K c.av:=by
 have fin:∀ (k:Nat) (ls:List LineD),k≤l.length→ls.length≤7→(∀ i (h:i<ls.length),LineH bs.length i H ls[i])→∃ c,XS c∧∀ K:LA→O R,(Ac N (3:Int) (Ao l) l.length false o (k:Int) (fun y22 y23=>(Py N K (bs.length:Int) (Ao l) l.length o (H:Int) b.length bs.length (Ao b) (bs.flatMap BusD.av) N (IntKind.wrap .i64 ((1:Int)+y22)) y23 ls.length 0 (ls.flatMap LineD.av) [])))=K c.av:=by
  intro k ls q ll lg
  obtain⟨y,C,y0,y1,d,I⟩:=nx (R:=R) (N:=N) (t:=false) (o:=o) s 3 (by omega) (by omega) k q
  obtain⟨n,hn⟩:∃ n:Nat,1+y=(n:Int):=⟨(1+y).toNat,by omega⟩
  obtain⟨c,j,m⟩:=A0f (R:=R) (o:=o) hN s h rl rr bl bg ll lg n N C [] (by omega) d (by simp;omega) (by simp;omega) (by simp)
  refine⟨c,j,fun K=>?_⟩
  rw[I,Px (a:=1+y) (by omega),hn]
  simpa using m K
 intro n
 induction n with
 | zero =>
  intro fuel k ls L q hn lg
  obtain⟨c,j,m⟩:=fin k ls q (by omega) lg
  refine⟨c,j,fun K=>?_⟩
  obtain⟨fuel,rfl⟩:∃ f,fuel=f+1:=⟨fuel - 1,by omega⟩
  rw[Pz];unfold AK
  rw[show decide (((0:Nat):Int)>0)=false from rfl,←m K]
  rfl
 | succ n M =>
  intro fuel k ls L q hn lg
  obtain⟨fuel,rfl⟩:∃ f,fuel=f+1:=⟨fuel - 1,by omega⟩
  by_cases S:bs.length=1
  ·obtain⟨c,j,m⟩:=fin k ls q (by omega) lg
   refine⟨c,j,fun K=>?_⟩
   rw[Pz];unfold AK
   rw[show decide (((n+1:Nat):Int)>0)=true from decide_eq_true (by omega),show decide ((bs.length:Int)>1)=false from decide_eq_false (by omega),←m K]
   rfl
  ·obtain⟨y26,D,y260,y261,u,v⟩:=nx (R:=R) (N:=N) (t:=false) (o:=o) s (bs.length:Int) (by omega) (by omega) k q
   obtain⟨y28,F,y280,y281,z,A⟩:=nx (R:=R) (N:=N) (t:=false) (o:=o) s ((bs.length:Int) - 1) (by omega) (by omega) D u
   have tm:∃ tx:Int,Int.tmod (y26+1+y28) (bs.length:Int)=tx∧0≤tx∧tx<(bs.length:Int)∧y26≠tx:=by
    refine⟨_,rfl,Int.tmod_nonneg _ (by omega),Int.tmod_lt_of_pos _ (by omega),?_⟩
    by_cases G:y26+1+y28<(bs.length:Int)
    ·rw[Int.tmod_eq_of_lt (by omega) G];omega
    ·have:Int.tmod (y26+1+y28) (bs.length:Int)=y26+1+y28 - (bs.length:Int):=by
      have e:y26+1+y28=(y26+1+y28 - (bs.length:Int))+1*(bs.length:Int):=by omega
      rw[Int.tmod_eq_emod_of_nonneg (by omega)]
      conv=>lhs;rw[e]
      rw[Int.add_mul_emod_self_right,Int.emod_eq_of_lt (by omega) (by omega)]
     rw[this];omega
   obtain⟨tx,T,t0,t1,tne⟩:=tm
   obtain⟨x,C,gx,d,U⟩:=Aju (R:=R) (N:=N) (t:=false) (o:=o) s (i:=ls.length) (by omega) y26 tx (H:=(H:Int)) (by omega) F z
   obtain⟨c,j,m⟩:=M fuel C (ls++[x]) (by omega) d (by simp;omega) (dL (P:=fun i x=>LineH bs.length i H x) lg ⟨by rw[gx.fr,gx.tx];exact gx,by rw[gx.fr];exact⟨y260,y261⟩,by rw[gx.tx];exact⟨t0,t1⟩,by rw[gx.fr,gx.tx];exact tne⟩)
   refine⟨c,j,fun K=>?_⟩
   rw[Pz];unfold AK TR
   have wn:IntKind.wrap .i64 (((n+1:Nat):Int) - 1)=(n:Int):=oQ (by omega)
   have V:(Nat.ble (ls.length+1) 140737488355328&&Nat.ble ((ls.length+1)*120) 140737488355328)=true:=by rw[Bq,Bq];simp;omega
   have X:List.take (ls.length*12) (ls.flatMap LineD.av)++x.av=(ls++[x]).flatMap LineD.av:=by rw[Cg Cd _ rfl];simp
   rw[show decide (((n+1:Nat):Int)>0)=true from decide_eq_true (by omega),show decide ((bs.length:Int)>1)=true from decide_eq_true (by omega)]
   simp only[beq_self_eq_true,cond_true]
   rw[v,Px (a:=(bs.length:Int) - 1) (by omega),A,show((bs.length:Int)==0)=false from beq_eq_false_iff_ne.2 (by omega),cf,Px (a:=y26+1) (by omega),Px (a:=y26+1+y28) (by omega),T,U,show((Nat.beq (List.length x.av) 12)&&(Nat.ble 12 12))=true from rfl,ct,V,ct,wn,←m K,←X,List.length_append]
   rfl
theorem A0g {N:Nat} {l:List Int} {o:Bool} (hN:4096≤N) (e:l.length≤9223372036854775807) {H:Nat} {b:List Int} {bs:List BusD} (h:1≤H∧H≤3) (rl:b.length=H) (rr:∀ x ∈ b,0≤x∧x<5) (bl:1≤bs.length∧bs.length≤4) (bg:∀ i (h:i<bs.length),BusG i H bs[i]) :
  ∀ (m j fuel k:Nat) (ls:List LineD),j+1+m=bs.length→m<fuel→k≤l.length→ls.length=j→(∀ i (h:i<ls.length),LineH bs.length i H ls[i]) →
  ∃ c,XS c∧∀ K:LA→O R,Xl N K (Ao l) l.length o (H:Int) b.length bs.length (Ao b) (bs.flatMap BusD.av) fuel (bs.length:Int) ((j+1:Nat):Int) (k:Int) ls.length (ls.flatMap LineD.av)=K c.av
 | 0,j,fuel+1,k,ls,C,_,q,f,lg=>by
  obtain⟨y,s,y0,y1,d,u⟩:=nx (R:=R) (N:=N) (t:=false) (o:=o) e 5 (by omega) (by omega) k q
  obtain⟨n,hn⟩:∃ n:Nat,y=(n:Int):=⟨y.toNat,by omega⟩
  subst hn
  obtain⟨c,v,z⟩:=A56 (R:=R) (o:=o) hN e h rl rr bl bg n N s ls (by omega) d (by omega) lg
  refine⟨c,v,fun K=>?_⟩
  rw[Xl];unfold KP
  rw[Iz (by omega),cf,u];exact z K
 | m+1,j,fuel+1,k,ls,C,L,q,f,lg=>by
  obtain⟨y,s,y0,y1,d,u⟩:=nx (R:=R) (N:=N) (t:=false) (o:=o) e ((j+1:Nat):Int) (by omega) (by omega) k q
  obtain⟨x,D,gx,A,F⟩:=Aju (R:=R) (N:=N) (t:=false) (o:=o) e (i:=ls.length) (by omega) y ((j+1:Nat):Int) (H:=(H:Int)) (by omega) s d
  obtain⟨c,v,z⟩:=A0g (o:=o) hN e h rl rr bl bg m (j+1) fuel D (ls++[x]) (by omega) (by omega) A (by simp[f]) (dL (P:=fun i x=>LineH bs.length i H x) lg ⟨by rw[gx.fr,gx.tx];exact gx,by rw[gx.fr];omega,by rw[gx.tx];omega,by rw[gx.fr,gx.tx];omega⟩)
  refine⟨c,v,fun K=>?_⟩
  rw[Xl];unfold KP
  have G:(Nat.ble (ls.length+1) 140737488355328&&Nat.ble ((ls.length+1)*120) 140737488355328)=true:=by rw[Bq,Bq];simp;omega
  have I:List.take (ls.length*12) (ls.flatMap LineD.av)++x.av=(ls++[x]).flatMap LineD.av:=by rw[Cg Cd _ rfl];simp
  rw[Hh (by omega),ct,u,F,show((Nat.beq (List.length x.av) 12)&&(Nat.ble 12 12))=true from rfl,ct,G,ct,Bp (by omega),←z K,←I,List.length_append]
  rfl
theorem A0h {N:Nat} {l:List Int} {o:Bool} (hN:4096≤N) (q:l.length≤9223372036854775807) {H:Nat} {b:List Int} (h:1≤H∧H≤3) (rl:b.length=H) (rr:∀ x ∈ b,0≤x∧x<5) :
  ∀ (n fuel k:Nat) (bs:List BusD),n<fuel→k≤l.length→bs.length+n≤4→1≤bs.length+n→(∀ i (h:i<bs.length),BusG i H bs[i]) →
  ∃ c,XS c∧∀ K:LA→O R,Nb N K (Ao l) l.length o b.length (Ao b) fuel (n:Int) (k:Int) (H:Int) bs.length (bs.flatMap BusD.av)=K c.av
 | 0,fuel+1,k,bs,_,A,hn,C,bg=>by
  obtain⟨c,f,j⟩:=A0g (R:=R) (o:=o) hN q h rl rr ⟨by omega,by omega⟩ bg (bs.length - 1) 0 N k [] (by omega) (by omega) A rfl (by simp)
  refine⟨c,f,fun K=>?_⟩
  rw[Nb];unfold AL
  rw[show decide (((0:Nat):Int)>0)=false from rfl,cf,←j K]
  rfl
 | n+1,fuel+1,k,bs,V,A,hn,C,bg=>by
  obtain⟨B,M,z,S,D,hB⟩:=HP (R:=R) (N:=N) (m:=H) (t:=false) (o:=o) (by omega) q 14 (by omega) (by omega) (by omega) k A
  obtain⟨y12,u,y120,y121,d,e⟩:=nx (R:=R) (N:=N) (t:=false) (o:=o) q 2 (by omega) (by omega) M D
  have wn:IntKind.wrap .i64 (((n+1:Nat):Int) - 1)=(n:Int):=oQ (by omega)
  have I:(Nat.ble (bs.length+1) 140737488355328&&Nat.ble ((bs.length+1)*48) 140737488355328)=true:=by rw[Bq,Bq];simp;omega
  have T:∀ s:Int,List.take (bs.length*3) (bs.flatMap BusD.av)++[(.str [98,A86.getD bs.length 0]),(.imm (B.flatMap ZN) H 1 false false),(.int .i64 s)]=(bs++[(⟨[98,A86.getD bs.length 0],.of B false false,s⟩:BusD)]).flatMap BusD.av:=fun s=>by
   rw[Cg Lp _ rfl];simp[BusD.av,Sl.av,z]
  have go:∀ (s:Int) (kk:Nat),0≤s→s<300→kk≤l.length→∃ c,XS c∧∀ K:LA→O R,Nb N K (Ao l) l.length o b.length (Ao b) fuel (n:Int) (kk:Int) (H:Int) (bs.length+1) (List.take (bs.length*3) (bs.flatMap BusD.av)++[(.str [98,A86.getD bs.length 0]),(.imm (B.flatMap ZN) H 1 false false),(.int .i64 s)])=K c.av:=by
   intro s kk U s1 F
   have gb:BusG bs.length H (⟨[98,A86.getD bs.length 0],.of B false false,s⟩:BusD):=⟨rfl,z,S,U,s1⟩
   obtain⟨c,f,j⟩:=A0h (o:=o) hN q h rl rr n fuel kk (bs++[(⟨[98,A86.getD bs.length 0],.of B false false,s⟩:BusD)]) (by omega) F (by simp;omega) (by simp;omega) (dL (P:=fun i x=>BusG i H x) bg gb)
   refine⟨c,f,fun K=>?_⟩
   rw[T,←j K,List.length_append]
   rfl
  by_cases L:y12=1
  ·have e1:(y12==1)=true:=by simpa using L
   obtain⟨y14,G,y140,y141,v,y⟩:=nx (R:=R) (N:=N) (t:=false) (o:=o) q 200 (by omega) (by omega) u d
   obtain⟨c,f,j⟩:=go (100+y14) G (by omega) (by omega) v
   refine⟨c,f,fun K=>?_⟩
   rw[Nb];unfold AL
   rw[show decide (((n+1:Nat):Int)>0)=true from decide_eq_true (by omega),ct,Ud (by omega),hB,e,e1,ct,y,I,ct,wn,Px (a:=100+y14) (by omega),P0 z.symm,j]
  ·have e1:(y12==1)=false:=by simpa using L
   obtain⟨c,f,j⟩:=go 0 u (by omega) (by omega) d
   refine⟨c,f,fun K=>?_⟩
   rw[Nb];unfold AL
   rw[show decide (((n+1:Nat):Int)>0)=true from decide_eq_true (by omega),ct,Ud (by omega),hB,e,e1,cf,I,ct,wn,P0 z.symm,j]
theorem pB {N:Nat} {l:List Int} {n:Nat} {t o:Bool} (hn:n=l.length) (hN:4096≤N) (b:l.length≤9223372036854775807):∃ c,XS c∧∀ K:LA→O R,TU N (Ao l) n t o K=K c.av:=by
 subst hn
 obtain⟨y1,q,y10,y11,d,e⟩:=nx (R:=R) (N:=N) (t:=false) (o:=o) b 3 (by omega) (by omega) 0 (by omega)
 obtain⟨H,hH⟩:∃ H:Nat,1+y1=(H:Int):=⟨(1+y1).toNat,by omega⟩
 obtain⟨B,s,k,u,f,hB⟩:=HP (R:=R) (N:=N) (m:=H) (t:=false) (o:=o) (by omega) b 5 (by omega) (by omega) (by omega) q d
 obtain⟨y6,v,y60,y61,i,j⟩:=nx (R:=R) (N:=N) (t:=false) (o:=o) b 4 (by omega) (by omega) s f
 obtain⟨m,x⟩:∃ m:Nat,1+y6=(m:Int):=⟨(1+y6).toNat,by omega⟩
 obtain⟨c,y,A⟩:=A0h (R:=R) (o:=o) hN b (H:=H) (by omega) k u m N v [] (by omega) i (by simp;omega) (by simp;omega) (by simp)
 refine⟨c,y,fun K=>?_⟩
 rw[vR];unfold od
 rw[l7];unfold yT
 have z:Ac N 3 (Ao l) l.length false o 0=Ac (R:=R) N 3 (Ao l) l.length false o ((0:Nat):Int):=rfl
 rw[z,e,Px (a:=1+y1) (by omega),hH,hB,j,Px (a:=1+y6) (by omega),x,←A K,k]
 rfl
end
end Gx.Cf

namespace Gx.Cf
open Go Go.Proofs
section
variable {R:Type}
def C9 (c:CaseD) (p:C6) (k i:Int):LA:=c.av++N_ p k i
theorem Nf {N:Nat} {c:CaseD} {p:C6} {k i d j:Int} {w:Bool} {K:Bool→LA→O R} :
  XQ N d j w (C9 c p k i) K=K w (C9 c p d j):=by
 rw[Aj0];unfold Axz
 rcases p with _ | ⟨⟨a,b,f⟩,e,l⟩
 ·simp[C9,CaseD.av,N_,A5,Cx,Bq,IJ]
 ·have:(e==0)=false:=by simpa using l
  simp[C9,CaseD.av,N_,A5,this]
theorem Aq {N:Nat} {c:CaseD} {p:C6} {k i f e:Int} {ok w:Bool} {K:Bool→LA→O R} (j:e≠0) :
  A3 N ok f e w (C9 c p k i) K=K w (C9 c (nd p ok (k,i,f) ⟨e,j⟩) k i):=by
 rw[vT];unfold Ac4
 rcases p with _ | ⟨⟨a,b,m⟩,l,d⟩
 ·cases ok<;>simp[C9,CaseD.av,N_,A5,nd,Bq,IJ]
 ·have:(l==0)=false:=by simpa using d
  simp[C9,CaseD.av,N_,A5,nd,this]
theorem Fe {N:Nat} {c:CaseD} {p:C6} {k i f n lo hi:Int} {w:Bool} {K:Bool→LA→O R} :
  Bc N f n lo hi w (C9 c p k i) K=K w (C9 c (nd p (Fj lo hi n) (k,i,f) ⟨3,by decide⟩) k i):=by
 rw[j8];unfold lw
 rw[Aq (by decide),Aq (by decide)]
 unfold Fj
 cases h:decide (n≥lo) with
 | true=>simp at h;simp[h]
 | false=>simp at h;simp[show ¬ lo≤n by omega]
end
end Gx.Cf

namespace Gx
open Go Go.Proofs
open IntKind (wrap)
set_option maxRecDepth 100000
noncomputable section
variable {R:Type} (N:Nat)
def MR (N:Nat) (d:Int) (c:Bool) (b:LA) (r0:List UInt8→O R):O R :=
 (B4 3 (b.drop 2) fun e f=>(cond (Ae d f) (Wb (e.drop ((d.toNat)*3)) fun g=>(r0 g)) none))
def Vo:=(Ah (@MR R)).1
theorem PW:@Vo R=@MR R:=(Ah _).2
def XT (c:Bool) (b:LA) (F:KF R):List UInt8→O R:=(fun i=>F (.str i) [(100000,(bN 0 [(.optr 100001 0)])),(100001,(bP c 0 b))])
theorem XU (d:Int) (c:Bool) (b:LA) (F:KF R):C2 [] Dc N 238 [(iv d),(.optr 100000 0)] [(100000,(bN 0 [(.optr 100001 0)])),(100001,(bP c 0 b))] F=(Vo N d c b (XT c b F)):=by
 rw[PW]
 kernel_rfl
def PX (a:LA) (h:Ai) (k:KF R):O R :=
 match a,h with
 | [(.int .i64 d),(.optr 100000 0)],[(100000,⟨false,false,false,false,0,[(.optr 100001 0)],false,none⟩),(100001,⟨false,false,true,c,0,b,false,none⟩)]=>(Vo N d c b (XT c b k))
 | _,_=>none
theorem XV:Am N 238 @PX:=by
 intro R Q a h k j;unfold PX;split;exact Az (XU ..) (XU ..) trivial;exact A2
def xr:=A1 (XV N)
def xt:=C5 (XV N)
def AO (r0:Bool→LA→O R) (b:List UInt8) (f:Int) (k0:Int→Bool→LA→O R) (e:Int) (d:Bool) (c:LA):O R :=
 (cond (decide (e<f)) (As .i64 (c.drop 11) fun m=>(cond (m != 0) (r0 d c) (Vo N e d c (fun o=>(A3 N (!(o==b)) 0 10 d c (fun p q=>(k0 (wrap .i64 (e+1)) p q))))))) (r0 d c))
def P1 (r0:Bool→LA→O R) (b:List UInt8) (f:Int):Nat→Int→Bool→LA→O R
 | 0,_,_,_=>none
 | n+1,e,d,c=>(AO N r0 b f (P1 r0 b f n) e d c)
def pC (r0:Bool→LA→O R) (q0:Int→Int→Bool→LA→O R) (b:List UInt8) (g:Bool) (i:LA):O R :=
 (Vn N b (fun r=>(A3 N r 0 9 g i (fun s l=>(As .i64 (l.drop 9) fun f=>(q0 f 0 s l))))))
def gG:=(Ah (fun (N:Nat) (b:List UInt8) (g:Bool) (i:LA) (r0:Bool→LA→O R)=>(pC N r0 (fun f e d c=>(P1 N r0 b f N e d c)) b g i))).1
theorem v7 (b g i r0):(@gG R N b g i r0)=(pC N r0 (fun f e d c=>(P1 N r0 b f N e d c)) b g i):=by rw[gG,(Ah _).2]
def Aj3:Gm:=[(284,Xn N),(236,De N),(238,xr N)]
def Ax5 (F:KF R):=Ko Tryz.f237 VB (Aj3 N) [100000,100001] N F
def HS (F:KF R):Bool→LA→O R:=(fun t u=>F (.tup []) [(100000,(bP t 0 u)),(100001,(bN 0 [(.optr 100000 0)]))])
def Ax6 (b:List UInt8) (f e:Int) (d:Bool) (c:LA):St:=⟨[(0,(.optr 100000 0)),(1,(.str b)),(2,(.fn 238 [(.optr 100001 0)])),(15,(iv f)),(16,(iv e))],[(100000,(bP d 0 c)),(100001,(bN 0 [(.optr 100000 0)]))]⟩
def Ax7 (F:KF R):=Ax5 N F [1,1,0] []
theorem jc (F:KF R) (b:List UInt8) (f:Int):∀ (n:Nat) (e:Int) (d:Bool) (c:LA),Aj (Ax7 N F) n (Ax6 b f e d c)=(P1 N (HS F) b f n e d c)
 | 0,_,_,_=>by kernel_rfl
 | n+1,e,d,c=>Eq.trans (by kernel_rfl) (Bu (AO N (HS F) b f · e d c) (funext fun e=>funext fun d=>funext fun c=>(jc F b f n e d c)):_)
theorem Adf (b:List UInt8) (g:Bool) (i:LA) (F:KF R):C2 (Aj3 N) VB N 237 [(.optr 100000 0),(.str b),(.fn 238 [(.optr 100001 0)])] [(100000,(bP g 0 i)),(100001,(bN 0 [(.optr 100000 0)]))] F=(gG N b g i (HS F)):=by
 rw[v7]
 exact Eq.trans (by kernel_rfl) (Bu (pC N (HS F) · b g i) (funext fun f=>funext fun e=>funext fun d=>funext fun c=>(Ad ..).trans (jc N F b f N e d c)):_)
def v8 (a:LA) (h:Ai) (k:KF R):O R :=
 match a,h with
 | [(.optr 100000 0),(.str b),(.fn 238 [(.optr 100001 0)])],[(100000,⟨false,false,true,g,0,i,false,none⟩),(100001,⟨false,false,false,false,0,[(.optr 100000 0)],false,none⟩)]=>(gG N b g i (HS k))
 | _,_=>none
theorem Adg:Am N 237 @v8:=by
 intro R Q a h k j;unfold v8;split;exact Az (Adf ..) (Adf ..) ⟨Xo N,Df N,xt N,trivial⟩;exact A2
def Ax8:=A1 (Adg N)
def Ax9:=C5 (Adg N)
def D_ (r0:Bool→LA→O R) (d:LA) (e:Nat) (b:Bool) (k0:Int→Int→Bool→LA→O R) (f c:Int) (g:Bool) (i:LA):O R :=
 (cond (decide (c<f)) (cond (Ae c e) (cond (Nat.ble 3 ((d.drop ((c.toNat)*3)).length)) (cond ((Nat.beq 0 0)&&((Nat.beq (((d.drop ((c.toNat)*3)).take 3).length) 3)&&(Nat.beq 3 3))) (XQ N 1 c g i (fun m o=>(Wb ((d.drop ((c.toNat)*3)).take 3) fun p=>(gG N p m o (fun q r=>(B4 1 (((d.drop ((c.toNat)*3)).take 3).drop 1) fun s t=>(N7 N 1 s t false b 0 1048576 q r (fun u v=>(As .i64 (((d.drop ((c.toNat)*3)).take 3).drop 2) fun w=>(Bc N 2 w 0 1048576 u v (fun x y=>(k0 f (wrap .i64 (c+1)) x y)))))))))))) none) none) none) (r0 g i))
def P2 (r0:Bool→LA→O R) (d:LA) (e:Nat) (b:Bool):Nat→Int→Int→Bool→LA→O R
 | 0,_,_,_,_=>none
 | n+1,f,c,g,i=>(D_ N r0 d e b (P2 r0 d e b n) f c g i)
def gH (N:Nat) (r0:Bool→LA→O R) (q0:LA→Nat→Int→Int→Bool→LA→O R) (b:Bool) (l:LA):O R :=
 (B4 3 (l.drop 2) fun d e=>(q0 d e ((e:Nat):Int) 0 b l))
def HT:=(Ah (fun (N:Nat) (b:Bool) (l:LA) (r0:Bool→LA→O R)=>(gH N r0 (fun d e f c g i=>(P2 N r0 d e b N f c g i)) b l))).1
theorem pD (b l r0):(@HT R N b l r0)=(gH N r0 (fun d e f c g i=>(P2 N r0 d e b N f c g i)) b l):=by rw[HT,(Ah _).2]
def v_:Hints:={ H:=(hS hL (hS hL (hS (hP [1,8,9,10] hL) hL))) }
def Adh:Gm:=[(233,AM N),(237,Ax8 N),(235,TW N),(234,Hs N)]
def As3 (F:KF R):=Ko Tryz.f172 v_ (Adh N) [100000] N F
def AP (F:KF R):Bool→LA→O R:=(fun z aa=>F (.tup []) [(100000,(bP z 0 aa))])
def As4 (d:LA) (e:Nat) (b:Bool) (f c:Int) (g:Bool) (i:LA):St:=⟨[(1,(op 0)),(8,(.imm d e 3 false b)),(9,(iv f)),(10,(iv c))],[(100000,(bP g 0 i)),(300000,(bN 0 [(.optr 100000 0)]))]⟩
def As5 (F:KF R):=As3 N F [1,1,0] []
theorem dM (F:KF R) (d:LA) (e:Nat) (b:Bool):∀ (n:Nat) (f c:Int) (g:Bool) (i:LA),Aj (As5 N F) n (As4 d e b f c g i)=(P2 N (AP F) d e b n f c g i)
 | 0,_,_,_,_=>by kernel_rfl
 | n+1,f,c,g,i=>Eq.trans (by kernel_rfl) (Bu (D_ N (AP F) d e b · f c g i) (funext fun f=>funext fun c=>funext fun g=>funext fun i=>(dM F d e b n f c g i)):_)
theorem va (b:Bool) (l:LA) (F:KF R):C2 (Adh N) v_ N 172 [(.optr 100000 0)] [(100000,(bP b 0 l))] F=(HT N b l (AP F)):=by
 rw[pD]
 exact Eq.trans (by kernel_rfl) (Bu (gH N (AP F) · b l) (funext fun d=>funext fun e=>funext fun f=>funext fun c=>funext fun g=>funext fun i=>(Ad ..).trans (dM N F d e b N f c g i)):_)
def pE (a:LA) (h:Ai) (k:KF R):O R :=
 match a,h with
 | [(.optr 100000 0)],[(100000,⟨false,false,true,b,0,l,false,none⟩)]=>(HT N b l (AP k))
 | _,_=>none
theorem vd:Am N 172 @pE:=by
 intro R Q a h k j;unfold pE;split;exact Az (va ..) (va ..) ⟨AN N,Ax9 N,TX N,Ht N,trivial⟩;exact A2
def As6:=A1 (vd N)
def As7:=C5 (vd N)
def MS (N:Nat) (d:Int) (c:Bool) (b:LA) (r0:List UInt8→O R):O R :=
 (B4 12 (b.drop 3) fun e f=>(cond (Ae d f) (Wb (e.drop ((d.toNat)*12)) fun g=>(r0 g)) none))
def Vp:=(Ah (@MS R)).1
theorem PY:@Vp R=@MS R:=(Ah _).2
def XW (c:Bool) (b:LA) (F:KF R):List UInt8→O R:=(fun i=>F (.str i) [(100000,(bN 0 [(.optr 100001 0)])),(100001,(bP c 0 b))])
theorem XX (d:Int) (c:Bool) (b:LA) (F:KF R):C2 [] Dc N 239 [(iv d),(.optr 100000 0)] [(100000,(bN 0 [(.optr 100001 0)])),(100001,(bP c 0 b))] F=(Vp N d c b (XW c b F)):=by
 rw[PY]
 kernel_rfl
def PZ (a:LA) (h:Ai) (k:KF R):O R :=
 match a,h with
 | [(.int .i64 d),(.optr 100000 0)],[(100000,⟨false,false,false,false,0,[(.optr 100001 0)],false,none⟩),(100001,⟨false,false,true,c,0,b,false,none⟩)]=>(Vp N d c b (XW c b k))
 | _,_=>none
theorem XY:Am N 239 @PZ:=by
 intro R Q a h k j;unfold PZ;split;exact Az (XX ..) (XX ..) trivial;exact A2
def xu:=A1 (XY N)
def xv:=C5 (XY N)
def P3 (r0:Bool→LA→O R) (b:List UInt8) (f:Int) (k0:Int→Bool→LA→O R) (e:Int) (d:Bool) (c:LA):O R :=
 (cond (decide (e<f)) (As .i64 (c.drop 11) fun m=>(cond (m != 0) (r0 d c) (Vp N e d c (fun o=>(A3 N (!(o==b)) 0 10 d c (fun p q=>(k0 (wrap .i64 (e+1)) p q))))))) (r0 d c))
def Hz (r0:Bool→LA→O R) (b:List UInt8) (f:Int):Nat→Int→Bool→LA→O R
 | 0,_,_,_=>none
 | n+1,e,d,c=>(P3 N r0 b f (Hz r0 b f n) e d c)
def KT (r0:Bool→LA→O R) (q0:Int→Int→Bool→LA→O R) (b:List UInt8) (g:Bool) (i:LA):O R :=
 (Vn N b (fun r=>(A3 N r 0 9 g i (fun s l=>(As .i64 (l.drop 9) fun f=>(q0 f 0 s l))))))
def Xp:=(Ah (fun (N:Nat) (b:List UInt8) (g:Bool) (i:LA) (r0:Bool→LA→O R)=>(KT N r0 (fun f e d c=>(Hz N r0 b f N e d c)) b g i))).1
theorem dN (b g i r0):(@Xp R N b g i r0)=(KT N r0 (fun f e d c=>(Hz N r0 b f N e d c)) b g i):=by rw[Xp,(Ah _).2]
def pF:Gm:=[(284,Xn N),(236,De N),(239,xu N)]
def Agr (F:KF R):=Ko Tryz.f237 VB (pF N) [100000,100001] N F
def Sc (F:KF R):Bool→LA→O R:=(fun t u=>F (.tup []) [(100000,(bP t 0 u)),(100001,(bN 0 [(.optr 100000 0)]))])
def Ags (b:List UInt8) (f e:Int) (d:Bool) (c:LA):St:=⟨[(0,(.optr 100000 0)),(1,(.str b)),(2,(.fn 239 [(.optr 100001 0)])),(15,(iv f)),(16,(iv e))],[(100000,(bP d 0 c)),(100001,(bN 0 [(.optr 100000 0)]))]⟩
def Agt (F:KF R):=Agr N F [1,1,0] []
theorem P_ (F:KF R) (b:List UInt8) (f:Int):∀ (n:Nat) (e:Int) (d:Bool) (c:LA),Aj (Agt N F) n (Ags b f e d c)=(Hz N (Sc F) b f n e d c)
 | 0,_,_,_=>by kernel_rfl
 | n+1,e,d,c=>Eq.trans (by kernel_rfl) (Bu (P3 N (Sc F) b f · e d c) (funext fun e=>funext fun d=>funext fun c=>(P_ F b f n e d c)):_)
theorem jd (b:List UInt8) (g:Bool) (i:LA) (F:KF R):C2 (pF N) VB N 237 [(.optr 100000 0),(.str b),(.fn 239 [(.optr 100001 0)])] [(100000,(bP g 0 i)),(100001,(bN 0 [(.optr 100000 0)]))] F=(Xp N b g i (Sc F)):=by
 rw[dN]
 exact Eq.trans (by kernel_rfl) (Bu (KT N (Sc F) · b g i) (funext fun f=>funext fun e=>funext fun d=>funext fun c=>(Ad ..).trans (P_ N F b f N e d c)):_)
def dO (a:LA) (h:Ai) (k:KF R):O R :=
 match a,h with
 | [(.optr 100000 0),(.str b),(.fn 239 [(.optr 100001 0)])],[(100000,⟨false,false,true,g,0,i,false,none⟩),(100001,⟨false,false,false,false,0,[(.optr 100000 0)],false,none⟩)]=>(Xp N b g i (Sc k))
 | _,_=>none
theorem je:Am N 237 @dO:=by
 intro R Q a h k j;unfold dO;split;exact Az (jd ..) (jd ..) ⟨Xo N,Df N,xv N,trivial⟩;exact A2
def Agu:=A1 (je N)
def Agv:=C5 (je N)
def Anv (c d:Int) (e:Bool) (b:LA) (r0:Bool→LA→O R):O R :=
 (cond ((decide (d≥0))==true) (B4 3 (b.drop 2) fun p f=>(A3 N (cond true (decide (d<((f:Nat):Int))) false) c 12 e b (fun g i=>(r0 g i)))) (A3 N false c 12 e b (fun l m=>(r0 l m))))
def TZ:=(Ah (@Anv R)).1
theorem Adi:@TZ R=@Anv R:=(Ah _).2
def A4k:Gm:=[(236,De N)]
def Aj4 (F:KF R):Bool→LA→O R:=(fun n o=>F (.tup []) [(100000,(bP n 0 o))])
theorem Aj5 (c d:Int) (e:Bool) (b:LA) (F:KF R):C2 (A4k N) Dc N 240 [(.optr 100000 0),(iv c),(iv d)] [(100000,(bP e 0 b))] F=(TZ N c d e b (Aj4 F)):=by
 rw[Adi]
 kernel_rfl
def Adj (a:LA) (h:Ai) (k:KF R):O R :=
 match a,h with
 | [(.optr 100000 0),(.int .i64 c),(.int .i64 d)],[(100000,⟨false,false,true,e,0,b,false,none⟩)]=>(TZ N c d e b (Aj4 k))
 | _,_=>none
theorem Aj6:Am N 240 @Adj:=by
 intro R Q a h k j;unfold Adj;split;exact Az (Aj5 ..) (Aj5 ..) ⟨Df N,trivial⟩;exact A2
def gI:=A1 (Aj6 N)
def gJ:=C5 (Aj6 N)
def sZ (N:Nat) (b:LA) (c:Bool) (r0:Bool→O R):O R :=
 (As .i64 (b.drop 1) fun d=>(cond ((decide (d≥1))==true) (As .i64 (b.drop 1) fun e=>(cond ((cond true (decide (e≤1048576)) false)==true) (As .i64 b fun f=>(cond ((cond true (decide (f≥(-1048576))) false)==true) (As .i64 b fun g=>(r0 (cond true (decide (g≤1048576)) false))) (r0 false))) (r0 false))) (r0 false)))
def AQ:=(Ah (@sZ R)).1
theorem pG:@AQ R=@sZ R:=(Ah _).2
def ve (F:KF R):Bool→O R:=(fun i=>F (.bool i) [])
theorem vf (b:LA) (c:Bool) (F:KF R):C2 [] Dc N 241 [(.pagg b c)] [] F=(AQ N b c (ve F)):=by
 rw[pG]
 kernel_rfl
def pH (a:LA) (h:Ai) (k:KF R):O R :=
 match a,h with
 | [(.pagg b c)],[]=>(AQ N b c (ve k))
 | _,_=>none
theorem vg:Am N 241 @pH:=by
 intro R Q a h k j;unfold pH;split;exact Az (vf ..) (vf ..) trivial;exact A2
def vh:=A1 (vg N)
def vj:=C5 (vg N)
def Lt (N:Nat) (r0:Bool→O R) (c:LA) (b:Nat) (d e:Bool) (k0:Int→O R) (f:Int):O R :=
 (cond (decide (f<((b:Nat):Int))) (cond (Ae f b) (As .i64 (c.drop ((f.toNat)*1)) fun g=>(cond (Ae (wrap .i64 (f - 1)) b) (As .i64 (c.drop (((wrap .i64 (f - 1)).toNat)*1)) fun i=>(cond (decide (g≤i)) (r0 false) (k0 (wrap .i64 (f+1))))) none)) none) (r0 true))
def Ft (r0:Bool→O R) (c:LA) (b:Nat) (d e:Bool):Nat→Int→O R
 | 0,_=>none
 | n+1,f=>(Lt N r0 c b d e (Ft r0 c b d e n) f)
def Y3 (N:Nat) (r0:Bool→O R) (q0:Int→O R) (c:LA) (b:Nat) (d e:Bool):O R :=
 (q0 1)
def Ka:=(Ah (fun (N:Nat) (c:LA) (b:Nat) (d e:Bool) (r0:Bool→O R)=>(Y3 N r0 (fun f=>(Ft N r0 c b d e N f)) c b d e))).1
theorem P' (c b d e r0):(@Ka R N c b d e r0)=(Y3 N r0 (fun f=>(Ft N r0 c b d e N f)) c b d e):=by rw[Ka,(Ah _).2]
def xw (F:KF R):=Ko Tryz.f248 Az5 [] [] N F
def Nr (F:KF R):Bool→O R:=(fun l=>F (.bool l) [])
def xx (c:LA) (b:Nat) (d e:Bool) (f:Int):St:=⟨[(0,(.imm c b 1 d e)),(3,(iv f))],[]⟩
def xy (F:KF R):=xw N F [1,0,1,0] []
theorem HU (F:KF R) (c:LA) (b:Nat) (d e:Bool):∀ (n:Nat) (f:Int),Aj (xy N F) n (xx c b d e f)=(Ft N (Nr F) c b d e n f)
 | 0,_=>by kernel_rfl
 | n+1,f=>Eq.trans (by kernel_rfl) (Bu (Lt N (Nr F) c b d e · f) (funext fun f=>(HU F c b d e n f)):_)
theorem XZ (c:LA) (b:Nat) (d e:Bool) (F:KF R):C2 [] Az5 N 248 [(.imm c b 1 d e)] [] F=(Ka N c b d e (Nr F)):=by
 rw[P']
 exact Eq.trans (by kernel_rfl) (Bu (Y3 N (Nr F) · c b d e) (funext fun f=>(Ad ..).trans (HU N F c b d e N f)):_)
def QA (a:LA) (h:Ai) (k:KF R):O R :=
 match a,h with
 | [(.imm c b 1 d e)],[]=>(Ka N c b d e (Nr k))
 | _,_=>none
theorem X_:Am N 248 @QA:=by
 intro R Q a h k j;unfold QA;split;exact Az (XZ ..) (XZ ..) trivial;exact A2
def BM:=A1 (X_ N)
def BN:=C5 (X_ N)
def KU (r0:Bool→LA→O R) (d:Int) (c:LA) (b:Nat) (f e g:Bool) (i:LA) (k0:Int→Int→Bool→LA→O R) (p m:Int) (o:Bool) (l:LA):O R :=
 (cond (decide (m<p)) (cond (Ae m b) (As .i64 (c.drop ((m.toNat)*1)) fun q=>(As .i64 (l.drop 11) fun r=>(cond (r != 0) (r0 o l) (As .i64 l fun s=>(Bc N d q 0 (wrap .i64 (s - 1)) o l (fun t u=>(k0 p (wrap .i64 (m+1)) t u))))))) none) (Ka N c b false e (fun v=>(A3 N v d 11 o l (fun w x=>(r0 w x))))))
def Tr (r0:Bool→LA→O R) (d:Int) (c:LA) (b:Nat) (f e g:Bool) (i:LA):Nat→Int→Int→Bool→LA→O R
 | 0,_,_,_,_=>none
 | n+1,p,m,o,l=>(KU N r0 d c b f e g i (Tr r0 d c b f e g i n) p m o l)
def pI (N:Nat) (r0:Bool→LA→O R) (q0:Int→Int→Bool→LA→O R) (d:Int) (c:LA) (b:Nat) (f e g:Bool) (i:LA):O R :=
 (q0 ((b:Nat):Int) 0 g i)
def T_:=(Ah (fun (N:Nat) (d:Int) (c:LA) (b:Nat) (f e g:Bool) (i:LA) (r0:Bool→LA→O R)=>(pI N r0 (fun p m o l=>(Tr N r0 d c b f e g i N p m o l)) d c b f e g i))).1
theorem vq (d c b f e g i r0):(@T_ R N d c b f e g i r0)=(pI N r0 (fun p m o l=>(Tr N r0 d c b f e g i N p m o l)) d c b f e g i):=by rw[T_,(Ah _).2]
def Adk:Hints:={ H:=(hS (hS hL (hS (hP [0,1,2,8,9,10] hL) hL)) hL) }
def Aj7:Gm:=[(234,Hs N),(248,BM N),(236,De N)]
def Aya (F:KF R):=Ko Tryz.f242 Adk (Aj7 N) [100000] N F
def HV (F:KF R):Bool→LA→O R:=(fun y z=>F (.tup []) [(100000,(bP y 0 z))])
def Ayb (d:Int) (c:LA) (b:Nat) (f e g:Bool) (i:LA) (p m:Int) (o:Bool) (l:LA):St:=⟨[(0,(.optr 100000 0)),(1,(iv d)),(2,(.imm c b 1 f e)),(8,(.imm c b 1 f e)),(9,(iv p)),(10,(iv m))],[(100000,(bP o 0 l))]⟩
def Ayc (F:KF R):=Aya N F [0,1,0] []
theorem jf (F:KF R) (d:Int) (c:LA) (b:Nat) (f e g:Bool) (i:LA):∀ (n:Nat) (p m:Int) (o:Bool) (l:LA),Aj (Ayc N F) n (Ayb d c b f e g i p m o l)=(Tr N (HV F) d c b f e g i n p m o l)
 | 0,_,_,_,_=>by kernel_rfl
 | n+1,p,m,o,l=>Eq.trans (by kernel_rfl) (Bu (KU N (HV F) d c b f e g i · p m o l) (funext fun p=>funext fun m=>funext fun o=>funext fun l=>(jf F d c b f e g i n p m o l)):_)
theorem Adl (d:Int) (c:LA) (b:Nat) (f e g:Bool) (i:LA) (F:KF R):C2 (Aj7 N) Adk N 242 [(.optr 100000 0),(iv d),(.imm c b 1 f e)] [(100000,(bP g 0 i))] F=(T_ N d c b f e g i (HV F)):=by
 rw[vq]
 exact Eq.trans (by kernel_rfl) (Bu (pI N (HV F) · d c b f e g i) (funext fun p=>funext fun m=>funext fun o=>funext fun l=>(Ad ..).trans (jf N F d c b f e g i N p m o l)):_)
def vr (a:LA) (h:Ai) (k:KF R):O R :=
 match a,h with
 | [(.optr 100000 0),(.int .i64 d),(.imm c b 1 f e)],[(100000,⟨false,false,true,g,0,i,false,none⟩)]=>(T_ N d c b f e g i (HV k))
 | _,_=>none
theorem Adm:Am N 242 @vr:=by
 intro R Q a h k j;unfold vr;split;exact Az (Adl ..) (Adl ..) ⟨Ht N,BN N,Df N,trivial⟩;exact A2
def Adn:=A1 (Adm N)
def Ado:=C5 (Adm N)
def dP (k0:Int→Int→Bool→LA→O R) (r0:Bool→LA→O R) (c:LA) (f:Nat) (b:Bool) (d:Int) (g e:LA) (u:Int) (v:Bool) (w:LA):O R :=
 (As .i64 (g.drop 9) fun z=>(Bc N 6 z 0 1048576 v w (fun aa ab=>(As .i64 (g.drop 10) fun ac=>(As .i64 (g.drop 9) fun ad=>(Bc N 7 ac ad 1048576 aa ab (fun ae af=>(B4 1 (g.drop 11) fun ag ah=>(T_ N 8 ag ah false b ae af (fun ai aj=>(k0 d (wrap .i64 (u+1)) ai aj)))))))))))
def T' (k0:Int→Int→Bool→LA→O R) (r0:Bool→LA→O R) (c:LA) (f:Nat) (b:Bool) (d:Int) (g e:LA) (q3:Int→Bool→LA→O R) (r:Int) (s:Bool) (t:LA):O R :=
 (cond (Nat.ble 2 ((g.drop 7).length)) (cond ((!b)||(A0 ((g.drop 7).take 2))) (AQ N ((g.drop 7).take 2) false (fun ak=>(cond (ak==true) (As .i64 (g.drop 7) fun al=>(A3 N (cond true (decide (al≥0)) false) 5 3 s t (fun am an=>(q3 r am an)))) (A3 N false 5 3 s t (fun ao ap=>(q3 r ao ap)))))) none) none)
def dQ (k0:Int→Int→Bool→LA→O R) (r0:Bool→LA→O R) (c:LA) (f:Nat) (b:Bool) (d:Int) (g e:LA) (r:Int) (s:Bool) (t:LA):O R:=(T' N k0 r0 c f b d g e (fun u v w=>(dP N k0 r0 c f b d g e u v w)) r s t)
def UA (k0:Int→Int→Bool→LA→O R) (r0:Bool→LA→O R) (c:LA) (f:Nat) (b:Bool) (d:Int) (e:LA) (q2:Int→Bool→LA→O R) (o:Int) (p:Bool) (q g:LA):O R :=
 (cond (Nat.ble 2 ((g.drop 5).length)) (cond ((!b)||(A0 ((g.drop 5).take 2))) (AQ N ((g.drop 5).take 2) false (fun aq=>(cond (aq==true) (As .i64 (g.drop 5) fun ar=>(A3 N (cond true (decide (ar≤0)) false) 4 3 p q (fun au av=>(q2 o au av)))) (A3 N false 4 3 p q (fun aw ax=>(q2 o aw ax)))))) none) none)
def KV (k0:Int→Int→Bool→LA→O R) (r0:Bool→LA→O R) (c:LA) (f:Nat) (b:Bool) (d:Int) (e:LA) (o:Int) (p:Bool) (q g:LA):O R:=(UA N k0 r0 c f b d e (fun r s t=>(dQ N k0 r0 c f b d g e r s t)) o p q g)
def EA (r0:Bool→LA→O R) (c:LA) (f:Nat) (b:Bool) (e:LA) (k0:Int→Int→Bool→LA→O R) (q1:Int→Bool→LA→LA→O R) (d i:Int) (l:Bool) (m:LA):O R :=
 (cond (decide (i<d)) (cond (Ae i f) (cond (Nat.ble 12 ((c.drop ((i.toNat)*12)).length)) (cond ((Nat.beq 0 0)&&((Nat.beq (((c.drop ((i.toNat)*12)).take 12).length) 12)&&(Nat.beq 12 12))) (XQ N 2 i l m (fun ay az=>(Wb ((c.drop ((i.toNat)*12)).take 12) fun ba=>(Xp N ba ay az (fun bb bc=>(As .i64 (((c.drop ((i.toNat)*12)).take 12).drop 1) fun bd=>(TZ N 1 bd bb bc (fun be bf=>(As .i64 (((c.drop ((i.toNat)*12)).take 12).drop 2) fun bg=>(TZ N 2 bg be bf (fun bh bi=>(As .i64 (((c.drop ((i.toNat)*12)).take 12).drop 2) fun bj=>(As .i64 (((c.drop ((i.toNat)*12)).take 12).drop 1) fun bk=>(A3 N (bj != bk) 2 1 bh bi (fun x y=>(cond (Nat.ble 2 ((((c.drop ((i.toNat)*12)).take 12).drop 3).length)) (cond ((!b)||(A0 ((((c.drop ((i.toNat)*12)).take 12).drop 3).take 2))) (AQ N ((((c.drop ((i.toNat)*12)).take 12).drop 3).take 2) false (fun bl=>(cond (bl==true) (As .i64 (((c.drop ((i.toNat)*12)).take 12).drop 3) fun bm=>(A3 N (cond true (decide (bm>0)) false) 3 3 x y (fun bn bo=>(q1 i bn bo ((c.drop ((i.toNat)*12)).take 12))))) (A3 N false 3 3 x y (fun bp bq=>(q1 i bp bq ((c.drop ((i.toNat)*12)).take 12))))))) none) none)))))))))))))))) none) none) none) (r0 l m))
def Mb (r0:Bool→LA→O R) (c:LA) (f:Nat) (b:Bool) (e:LA):Nat→Int→Int→Bool→LA→O R
 | 0,_,_,_,_=>none
 | n+1,d,i,l,m=>(EA N r0 c f b e (Mb r0 c f b e n) (fun o p q g=>(KV N (Mb r0 c f b e n) r0 c f b d e o p q g)) d i l m)
def gK (N:Nat) (r0:Bool→LA→O R) (q0:LA→Nat→Int→Int→Bool→LA→O R) (b:Bool) (e:LA):O R :=
 (B4 12 (e.drop 3) fun c f=>(q0 c f ((f:Nat):Int) 0 b e))
def HW:=(Ah (fun (N:Nat) (b:Bool) (e:LA) (r0:Bool→LA→O R)=>(gK N r0 (fun c f d i l m=>(Mb N r0 c f b e N d i l m)) b e))).1
theorem pJ (b e r0):(@HW R N b e r0)=(gK N r0 (fun c f d i l m=>(Mb N r0 c f b e N d i l m)) b e):=by rw[HW,(Ah _).2]
def vt:Hints:={ H:=(hS hL (hS hL (hS (hP [1,8,9,10] (hS hL (hS hL (hS (hS (hS hL (hS hL (hS hL (hS hL (hS hL (hS hL (hJ [1,3,8,9,10] hL (hJ [1,3,8,9,10] hL (hJ [1,3,8,9,10] hL hL))))))))) hL) hL)))) hL))) }
def Adp:Gm:=[(233,AM N),(237,Agu N),(240,gI N),(236,De N),(241,vh N),(234,Hs N),(242,Adn N)]
def KW (F:KF R):=Ko Tryz.f173 vt (Adp N) [100000] N F
def Gs (F:KF R):Bool→LA→O R:=(fun br bs=>F (.tup []) [(100000,(bP br 0 bs))])
def As8 (c:LA) (f:Nat) (b:Bool) (d:Int) (g e:LA) (u:Int) (v:Bool) (w:LA):St:=⟨[(1,(op 0)),(3,(op 1)),(8,(.imm c f 12 false b)),(9,(iv d)),(10,(iv u))],[(100000,(bP v 0 w)),(300000,(bN 0 [(.optr 100000 0)])),(300001,(bP b 0 g))]⟩
def As9 (F:KF R) (Q0:St→O R):=KW N F [1,1,0,0,1,1,0,0,1,1,1,1,1,1,1,1,1] [Q0]
def Ata (c:LA) (f:Nat) (b:Bool) (d:Int) (g e:LA) (r:Int) (s:Bool) (t:LA):St:=⟨[(1,(op 0)),(3,(op 1)),(8,(.imm c f 12 false b)),(9,(iv d)),(10,(iv r))],[(100000,(bP s 0 t)),(300000,(bN 0 [(.optr 100000 0)])),(300001,(bP b 0 g))]⟩
def Atb (F:KF R) (Q0:St→O R):=KW N F [1,1,0,0,1,1,0,0,1,1,1,1,1,1,1,1] [Q0]
def Atc (c:LA) (f:Nat) (b:Bool) (d:Int) (e:LA) (o:Int) (p:Bool) (q g:LA):St:=⟨[(1,(op 0)),(3,(op 1)),(8,(.imm c f 12 false b)),(9,(iv d)),(10,(iv o))],[(100000,(bP p 0 q)),(300000,(bN 0 [(.optr 100000 0)])),(300001,(bP b 0 g))]⟩
def Atd (F:KF R) (Q0:St→O R):=KW N F [1,1,0,0,1,1,0,0,1,1,1,1,1,1,1] [Q0]
def Ue (c:LA) (f:Nat) (b:Bool) (e:LA) (d i:Int) (l:Bool) (m:LA):St:=⟨[(1,(op 0)),(8,(.imm c f 12 false b)),(9,(iv d)),(10,(iv i))],[(100000,(bP l 0 m)),(300000,(bN 0 [(.optr 100000 0)]))]⟩
def vu (F:KF R):=KW N F [1,1,0] []
theorem Adq (Q0:St→O R) (F:KF R) (c:LA) (f:Nat) (b:Bool) (d:Int) (g e:LA):∀ (u:Int) (v:Bool) (w:LA),B9 (As9 N F Q0) (As8 c f b d g e u v w)=(dP N (fun d i l m=>Q0 (Ue c f b e d i l m)) (Gs F) c f b d g e u v w):=by
 intro u v w
 kernel_rfl
theorem Adr (Q0:St→O R) (F:KF R) (c:LA) (f:Nat) (b:Bool) (d:Int) (g e:LA):∀ (r:Int) (s:Bool) (t:LA),B9 (Atb N F Q0) (Ata c f b d g e r s t)=(dQ N (fun d i l m=>Q0 (Ue c f b e d i l m)) (Gs F) c f b d g e r s t):=by
 intro r s t
 exact Eq.trans (by kernel_rfl) (Bu (T' N (fun d i l m=>Q0 (Ue c f b e d i l m)) (Gs F) c f b d g e · r s t) (funext fun u=>funext fun v=>funext fun w=>(A4 ..).trans (Adq N Q0 F c f b d g e u v w)):_)
theorem Ads (Q0:St→O R) (F:KF R) (c:LA) (f:Nat) (b:Bool) (d:Int) (e:LA):∀ (o:Int) (p:Bool) (q g:LA),B9 (Atd N F Q0) (Atc c f b d e o p q g)=(KV N (fun d i l m=>Q0 (Ue c f b e d i l m)) (Gs F) c f b d e o p q g):=by
 intro o p q g
 exact Eq.trans (by kernel_rfl) (Bu (UA N (fun d i l m=>Q0 (Ue c f b e d i l m)) (Gs F) c f b d e · o p q g) (funext fun r=>funext fun s=>funext fun t=>(A4 ..).trans (Adr N Q0 F c f b d g e r s t)):_)
theorem dR (F:KF R) (c:LA) (f:Nat) (b:Bool) (e:LA):∀ (n:Nat) (d i:Int) (l:Bool) (m:LA),Aj (vu N F) n (Ue c f b e d i l m)=(Mb N (Gs F) c f b e n d i l m)
 | 0,_,_,_,_=>by kernel_rfl
 | n+1,d,i,l,m=>have e0:=(funext fun d=>funext fun i=>funext fun l=>funext fun m=>(dR F c f b e n d i l m))
  Eq.trans (by kernel_rfl) (NY (EA N (Gs F) c f b e · · d i l m) e0 (funext fun o=>funext fun p=>funext fun q=>funext fun g=>(A4 ..).trans ((Ads N (Aj (vu N F) n) F c f b d e o p q g).trans (Bu (KV N · (Gs F) c f b d e o p q g) e0))):_)
theorem vw (b:Bool) (e:LA) (F:KF R):C2 (Adp N) vt N 173 [(.optr 100000 0)] [(100000,(bP b 0 e))] F=(HW N b e (Gs F)):=by
 rw[pJ]
 exact Eq.trans (by kernel_rfl) (Bu (gK N (Gs F) · b e) (funext fun c=>funext fun f=>funext fun d=>funext fun i=>funext fun l=>funext fun m=>(Ad ..).trans (dR N F c f b e N d i l m)):_)
def pK (a:LA) (h:Ai) (k:KF R):O R :=
 match a,h with
 | [(.optr 100000 0)],[(100000,⟨false,false,true,b,0,e,false,none⟩)]=>(HW N b e (Gs k))
 | _,_=>none
theorem vz:Am N 173 @pK:=by
 intro R Q a h k j;unfold pK;split;exact Az (vw ..) (vw ..) ⟨AN N,Agv N,gJ N,Df N,vj N,Ht N,Ado N,trivial⟩;exact A2
def Ate:=A1 (vz N)
def Atf:=C5 (vz N)
def MT (N:Nat) (d:Int) (c:Bool) (b:LA) (r0:List UInt8→O R):O R :=
 (B4 22 (b.drop 4) fun e f=>(cond (Ae d f) (Wb (e.drop ((d.toNat)*22)) fun g=>(r0 g)) none))
def Vq:=(Ah (@MT R)).1
theorem QB:@Vq R=@MT R:=(Ah _).2
def X' (c:Bool) (b:LA) (F:KF R):List UInt8→O R:=(fun i=>F (.str i) [(100000,(bN 0 [(.optr 100001 0)])),(100001,(bP c 0 b))])
theorem YA (d:Int) (c:Bool) (b:LA) (F:KF R):C2 [] Dc N 243 [(iv d),(.optr 100000 0)] [(100000,(bN 0 [(.optr 100001 0)])),(100001,(bP c 0 b))] F=(Vq N d c b (X' c b F)):=by
 rw[QB]
 kernel_rfl
def QC (a:LA) (h:Ai) (k:KF R):O R :=
 match a,h with
 | [(.int .i64 d),(.optr 100000 0)],[(100000,⟨false,false,false,false,0,[(.optr 100001 0)],false,none⟩),(100001,⟨false,false,true,c,0,b,false,none⟩)]=>(Vq N d c b (X' c b k))
 | _,_=>none
theorem YB:Am N 243 @QC:=by
 intro R Q a h k j;unfold QC;split;exact Az (YA ..) (YA ..) trivial;exact A2
def xz:=A1 (YB N)
def yA:=C5 (YB N)
def P4 (r0:Bool→LA→O R) (b:List UInt8) (f:Int) (k0:Int→Bool→LA→O R) (e:Int) (d:Bool) (c:LA):O R :=
 (cond (decide (e<f)) (As .i64 (c.drop 11) fun m=>(cond (m != 0) (r0 d c) (Vq N e d c (fun o=>(A3 N (!(o==b)) 0 10 d c (fun p q=>(k0 (wrap .i64 (e+1)) p q))))))) (r0 d c))
def H0 (r0:Bool→LA→O R) (b:List UInt8) (f:Int):Nat→Int→Bool→LA→O R
 | 0,_,_,_=>none
 | n+1,e,d,c=>(P4 N r0 b f (H0 r0 b f n) e d c)
def KX (r0:Bool→LA→O R) (q0:Int→Int→Bool→LA→O R) (b:List UInt8) (g:Bool) (i:LA):O R :=
 (Vn N b (fun r=>(A3 N r 0 9 g i (fun s l=>(As .i64 (l.drop 9) fun f=>(q0 f 0 s l))))))
def Xq:=(Ah (fun (N:Nat) (b:List UInt8) (g:Bool) (i:LA) (r0:Bool→LA→O R)=>(KX N r0 (fun f e d c=>(H0 N r0 b f N e d c)) b g i))).1
theorem dS (b g i r0):(@Xq R N b g i r0)=(KX N r0 (fun f e d c=>(H0 N r0 b f N e d c)) b g i):=by rw[Xq,(Ah _).2]
def pL:Gm:=[(284,Xn N),(236,De N),(243,xz N)]
def Agw (F:KF R):=Ko Tryz.f237 VB (pL N) [100000,100001] N F
def Sd (F:KF R):Bool→LA→O R:=(fun t u=>F (.tup []) [(100000,(bP t 0 u)),(100001,(bN 0 [(.optr 100000 0)]))])
def Agx (b:List UInt8) (f e:Int) (d:Bool) (c:LA):St:=⟨[(0,(.optr 100000 0)),(1,(.str b)),(2,(.fn 243 [(.optr 100001 0)])),(15,(iv f)),(16,(iv e))],[(100000,(bP d 0 c)),(100001,(bN 0 [(.optr 100000 0)]))]⟩
def Agy (F:KF R):=Agw N F [1,1,0] []
theorem QD (F:KF R) (b:List UInt8) (f:Int):∀ (n:Nat) (e:Int) (d:Bool) (c:LA),Aj (Agy N F) n (Agx b f e d c)=(H0 N (Sd F) b f n e d c)
 | 0,_,_,_=>by kernel_rfl
 | n+1,e,d,c=>Eq.trans (by kernel_rfl) (Bu (P4 N (Sd F) b f · e d c) (funext fun e=>funext fun d=>funext fun c=>(QD F b f n e d c)):_)
theorem jg (b:List UInt8) (g:Bool) (i:LA) (F:KF R):C2 (pL N) VB N 237 [(.optr 100000 0),(.str b),(.fn 243 [(.optr 100001 0)])] [(100000,(bP g 0 i)),(100001,(bN 0 [(.optr 100000 0)]))] F=(Xq N b g i (Sd F)):=by
 rw[dS]
 exact Eq.trans (by kernel_rfl) (Bu (KX N (Sd F) · b g i) (funext fun f=>funext fun e=>funext fun d=>funext fun c=>(Ad ..).trans (QD N F b f N e d c)):_)
def dT (a:LA) (h:Ai) (k:KF R):O R :=
 match a,h with
 | [(.optr 100000 0),(.str b),(.fn 243 [(.optr 100001 0)])],[(100000,⟨false,false,true,g,0,i,false,none⟩),(100001,⟨false,false,false,false,0,[(.optr 100000 0)],false,none⟩)]=>(Xq N b g i (Sd k))
 | _,_=>none
theorem jh:Am N 237 @dT:=by
 intro R Q a h k j;unfold dT;split;exact Az (jg ..) (jg ..) ⟨Xo N,Df N,yA N,trivial⟩;exact A2
def Agz:=A1 (jh N)
def Ag0:=C5 (jh N)
end
end Gx

namespace Gx
open Go Go.Proofs
open IntKind (wrap)
set_option maxRecDepth 100000
noncomputable section
variable {R:Type} (N:Nat)
def Ns (r0:Bool→LA→O R) (d:Int) (c:Bool) (b:LA) (k1:Int→Bool→LA→O R) (g:Int) (p:Bool) (q:LA):O R :=
 (B4 2 (b.drop 4) fun av v=>(cond (decide (g<((v:Nat):Int))) (B4 2 (b.drop 4) fun w x=>(cond (Ae g x) (As .i64 ((w.drop ((g.toNat)*2)).drop 1) fun y=>(B4 2 (b.drop 4) fun z aa=>(cond (Ae (wrap .i64 (g - 1)) aa) (As .i64 ((z.drop (((wrap .i64 (g - 1)).toNat)*2)).drop 1) fun ab=>(A3 N (decide (y≥ab)) 4 11 p q (fun ac ad=>(k1 (wrap .i64 (g+1)) ac ad)))) none))) none)) (As .i64 (b.drop 3) fun ae=>(As .i64 (b.drop 2) fun af=>(A3 N (d==(wrap .i64 (ae - af))) 4 4 p q (fun ag ah=>(r0 ag ah)))))))
def I3 (r0:Bool→LA→O R) (d:Int) (c:Bool) (b:LA):Nat→Int→Bool→LA→O R
 | 0,_,_,_=>none
 | n+1,g,p,q=>(Ns N r0 d c b (I3 r0 d c b n) g p q)
def Tc (r0:Bool→LA→O R) (f:LA) (i:Nat) (c:Bool) (b:LA) (k0:Int→Int→Int→Bool→LA→O R) (q1:Int→Bool→LA→O R) (d l e:Int) (m:Bool) (o:LA):O R :=
 (cond (decide (e<l)) (cond (Ae e i) (cond (Nat.ble 2 ((f.drop ((e.toNat)*2)).length)) (cond ((!c)||(A0 ((f.drop ((e.toNat)*2)).take 2))) (cond ((Nat.beq (((f.drop ((e.toNat)*2)).take 2).length) 2)&&((Nat.ble 2 2)&&(!false))) (As .i64 (setCells [(.int .i64 0),(.int .i64 0)] 0 ((f.drop ((e.toNat)*2)).take 2)) fun ai=>(Bc N 4 ai 1 1048576 m o (fun aj ak=>(As .i64 ((setCells [(.int .i64 0),(.int .i64 0)] 0 ((f.drop ((e.toNat)*2)).take 2)).drop 1) fun al=>(Bc N 4 al (-1048576) 1048576 aj ak (fun am an=>(As .i64 (setCells [(.int .i64 0),(.int .i64 0)] 0 ((f.drop ((e.toNat)*2)).take 2)) fun ao=>(k0 (wrap .i64 (d+ao)) l (wrap .i64 (e+1)) am an)))))))) none) none) none) none) (q1 1 m o))
def I4 (r0:Bool→LA→O R) (f:LA) (i:Nat) (c:Bool) (b:LA):Nat→Int→Int→Int→Bool→LA→O R
 | 0,_,_,_,_,_=>none
 | n+1,d,l,e,m,o=>(Tc N r0 f i c b (I4 r0 f i c b n) (fun g p q=>(I3 N r0 d c b N g p q)) d l e m o)
def EB (r0:Bool→LA→O R) (q0:LA→Nat→Int→Int→Int→Bool→LA→O R) (b:LA) (c r:Bool) (s:LA):O R :=
 (B4 2 (b.drop 4) fun aw ap=>(A3 N (decide (((ap:Nat):Int)≤8)) 4 8 r s (fun u t=>(As .i64 (t.drop 11) fun aq=>(cond (aq != 0) (r0 u t) (B4 2 (b.drop 4) fun f i=>(q0 f i 0 ((i:Nat):Int) 0 u t)))))))
def P5:=(Ah (fun (N:Nat) (b:LA) (c r:Bool) (s:LA) (r0:Bool→LA→O R)=>(EB N r0 (fun f i d l e m o=>(I4 N r0 f i c b N d l e m o)) b c r s))).1
theorem YC (b c r s r0):(@P5 R N b c r s r0)=(EB N r0 (fun f i d l e m o=>(I4 N r0 f i c b N d l e m o)) b c r s):=by rw[P5,(Ah _).2]
def dU:Hints:={ H:=(hS hL (hS hL (hS hL (hS hL (hS (hS hL (hS (hP [0,3,4,20,21,22] hL) hL)) (hS (hS hL (hS (hP [0,3,4,7] hL) hL)) hL)))))) }
def ji:Gm:=[(236,De N),(234,Hs N)]
def dV (F:KF R):=Ko Tryz.f244 dU (ji N) [100000] N F
def I5 (F:KF R):Bool→LA→O R:=(fun ar au=>F (.tup []) [(100000,(bP ar 0 au))])
def Adt (d:Int) (c:Bool) (b:LA) (g:Int) (p:Bool) (q:LA):St:=⟨[(0,(.optr 100000 0)),(3,(op 0)),(4,(iv d)),(7,(iv g))],[(100000,(bP p 0 q)),(300000,(bP c 0 b))]⟩
def Adu (F:KF R):=dV N F [1,1,1,1,1,0,1,0] []
def Adv (f:LA) (i:Nat) (c:Bool) (b:LA) (d l e:Int) (m:Bool) (o:LA):St:=⟨[(0,(.optr 100000 0)),(3,(op 0)),(4,(iv d)),(20,(.imm f i 2 false c)),(21,(iv l)),(22,(iv e))],[(100000,(bP m 0 o)),(300000,(bP c 0 b))]⟩
def Adw (F:KF R):=dV N F [1,1,1,1,0,1,0] []
theorem KY (F:KF R) (d:Int) (c:Bool) (b:LA):∀ (n:Nat) (g:Int) (p:Bool) (q:LA),Aj (Adu N F) n (Adt d c b g p q)=(I3 N (I5 F) d c b n g p q)
 | 0,_,_,_=>by kernel_rfl
 | n+1,g,p,q=>Eq.trans (by kernel_rfl) (Bu (Ns N (I5 F) d c b · g p q) (funext fun g=>funext fun p=>funext fun q=>(KY F d c b n g p q)):_)
theorem KZ (F:KF R) (f:LA) (i:Nat) (c:Bool) (b:LA):∀ (n:Nat) (d l e:Int) (m:Bool) (o:LA),Aj (Adw N F) n (Adv f i c b d l e m o)=(I4 N (I5 F) f i c b n d l e m o)
 | 0,_,_,_,_,_=>by kernel_rfl
 | n+1,d,l,e,m,o=>Eq.trans (by kernel_rfl) (NY (Tc N (I5 F) f i c b · · d l e m o) (funext fun d=>funext fun l=>funext fun e=>funext fun m=>funext fun o=>(KZ F f i c b n d l e m o)) (funext fun g=>funext fun p=>funext fun q=>(Ad ..).trans (KY N F d c b N g p q)):_)
theorem dW (b:LA) (c r:Bool) (s:LA) (F:KF R):C2 (ji N) dU N 244 [(.optr 100000 0),(.pagg b c)] [(100000,(bP r 0 s))] F=(P5 N b c r s (I5 F)):=by
 rw[YC]
 exact Eq.trans (by kernel_rfl) (Bu (EB N (I5 F) · b c r s) (funext fun f=>funext fun i=>funext fun d=>funext fun l=>funext fun e=>funext fun m=>funext fun o=>(Ad ..).trans (KZ N F f i c b N d l e m o)):_)
def YD (a:LA) (h:Ai) (k:KF R):O R :=
 match a,h with
 | [(.optr 100000 0),(.pagg b c)],[(100000,⟨false,false,true,r,0,s,false,none⟩)]=>(P5 N b c r s (I5 k))
 | _,_=>none
theorem dX:Am N 244 @YD:=by
 intro R Q a h k j;unfold YD;split;exact Az (dW ..) (dW ..) ⟨Df N,Ht N,trivial⟩;exact A2
def Adx:=A1 (dX N)
def Ady:=C5 (dX N)
def dY (k0:Int→Int→Bool→LA→O R) (r0:Bool→LA→O R) (b:LA) (g:Nat) (c:Bool) (e:Int) (i f:LA) (u:Int) (v:Bool) (w:LA):O R :=
 (As .i64 (i.drop 19) fun ab=>(cond (ab==2) (As .i64 (i.drop 21) fun ac=>(As .i64 (i.drop 2) fun ad=>(As .i64 (i.drop 3) fun ae=>(Bc N 21 ac ad ae v w (fun af ag=>(k0 e (wrap .i64 (u+1)) af ag)))))) (As .i64 (i.drop 21) fun ah=>(Bc N 21 ah 0 0 v w (fun ai aj=>(k0 e (wrap .i64 (u+1)) ai aj))))))
def UB (k0:Int→Int→Bool→LA→O R) (r0:Bool→LA→O R) (b:LA) (g:Nat) (c:Bool) (e:Int) (i f:LA) (q3:Int→Bool→LA→O R) (r:Int) (s:Bool) (t:LA):O R :=
 (As .i64 (i.drop 20) fun ak=>(Bc N 20 ak 1 48 s t (fun z aa=>(As .i64 (i.drop 19) fun al=>(cond ((al != 1)==false) (As .i64 (i.drop 20) fun am=>(As .i64 (i.drop 12) fun an=>(A3 N (cond false true (decide (am≤an))) 20 3 z aa (fun ao ap=>(q3 r ao ap))))) (A3 N true 20 3 z aa (fun aq ar=>(q3 r aq ar))))))))
def dZ (k0:Int→Int→Bool→LA→O R) (r0:Bool→LA→O R) (b:LA) (g:Nat) (c:Bool) (e:Int) (i f:LA) (r:Int) (s:Bool) (t:LA):O R:=(UB N k0 r0 b g c e i f (fun u v w=>(dY N k0 r0 b g c e i f u v w)) r s t)
def UC (k0:Int→Int→Bool→LA→O R) (r0:Bool→LA→O R) (b:LA) (g:Nat) (c:Bool) (e:Int) (f:LA) (q2:Int→Bool→LA→O R) (o:Int) (p:Bool) (q i:LA):O R :=
 (As .i64 (i.drop 19) fun au=>(cond ((au != 1)==false) (As .i64 (i.drop 12) fun av=>(A3 N (cond false true (av != 0)) 19 16 p q (fun aw ax=>(q2 o aw ax)))) (A3 N true 19 16 p q (fun ay az=>(q2 o ay az)))))
def K_ (k0:Int→Int→Bool→LA→O R) (r0:Bool→LA→O R) (b:LA) (g:Nat) (c:Bool) (e:Int) (f:LA) (o:Int) (p:Bool) (q i:LA):O R:=(UC N k0 r0 b g c e f (fun r s t=>(dZ N k0 r0 b g c e i f r s t)) o p q i)
def EC (r0:Bool→LA→O R) (b:LA) (g:Nat) (c:Bool) (f:LA) (k0:Int→Int→Bool→LA→O R) (q1:Int→Bool→LA→LA→O R) (e d:Int) (l:Bool) (m:LA):O R :=
 (cond (decide (d<e)) (cond (Ae d g) (cond (Nat.ble 22 ((b.drop ((d.toNat)*22)).length)) (cond ((Nat.beq 0 0)&&((Nat.beq (((b.drop ((d.toNat)*22)).take 22).length) 22)&&(Nat.beq 22 22))) (XQ N 3 d l m (fun ba bb=>(Wb ((b.drop ((d.toNat)*22)).take 22) fun bc=>(Xq N bc ba bb (fun bd be=>(As .i64 (((b.drop ((d.toNat)*22)).take 22).drop 1) fun bf=>(TZ N 1 bf bd be (fun bg bh=>(As .i64 (((b.drop ((d.toNat)*22)).take 22).drop 2) fun bi=>(Bc N 2 bi 0 1048576 bg bh (fun bj bk=>(As .i64 (((b.drop ((d.toNat)*22)).take 22).drop 3) fun bl=>(As .i64 (((b.drop ((d.toNat)*22)).take 22).drop 2) fun bm=>(Bc N 3 bl bm 1048576 bj bk (fun bn bo=>(cond (Nat.ble 22 (((b.drop ((d.toNat)*22)).take 22).length)) (P5 N (((b.drop ((d.toNat)*22)).take 22).take 22) c bn bo (fun bp bq=>(As .i64 (((b.drop ((d.toNat)*22)).take 22).drop 5) fun br=>(Bc N 5 br 0 1048576 bp bq (fun bs bt=>(As .i64 (((b.drop ((d.toNat)*22)).take 22).drop 6) fun bu=>(Bc N 6 bu 0 1048576 bs bt (fun bv bw=>(As .i64 (((b.drop ((d.toNat)*22)).take 22).drop 7) fun bx=>(Bc N 7 bx 0 1048576 bv bw (fun bz ca=>(As .i64 (((b.drop ((d.toNat)*22)).take 22).drop 8) fun cb=>(As .i64 (((b.drop ((d.toNat)*22)).take 22).drop 2) fun cc=>(As .i64 (((b.drop ((d.toNat)*22)).take 22).drop 3) fun cd=>(Bc N 8 cb cc cd bz ca (fun ce cf=>(As .i64 (((b.drop ((d.toNat)*22)).take 22).drop 9) fun cg=>(As .i64 (((b.drop ((d.toNat)*22)).take 22).drop 2) fun ch=>(As .i64 (((b.drop ((d.toNat)*22)).take 22).drop 3) fun ci=>(Bc N 9 cg ch ci ce cf (fun cj ck=>(As .i64 (((b.drop ((d.toNat)*22)).take 22).drop 10) fun cl=>(Bc N 10 cl 0 24 cj ck (fun cm cn=>(As .i64 (((b.drop ((d.toNat)*22)).take 22).drop 11) fun co=>(Bc N 11 co 0 24 cm cn (fun cp cq=>(As .i64 (((b.drop ((d.toNat)*22)).take 22).drop 12) fun cr=>(Bc N 12 cr 0 24 cp cq (fun cs ct=>(As .i64 (((b.drop ((d.toNat)*22)).take 22).drop 13) fun cu=>(Bc N 13 cu 0 1048576 cs ct (fun cv cw=>(As .i64 (((b.drop ((d.toNat)*22)).take 22).drop 14) fun cx=>(Bc N 14 cx 0 1048576 cv cw (fun cy cz=>(As .i64 (((b.drop ((d.toNat)*22)).take 22).drop 15) fun da=>(Bc N 15 da 0 24 cy cz (fun db dc=>(As .i64 (((b.drop ((d.toNat)*22)).take 22).drop 16) fun dd=>(Bc N 16 dd 0 1048576 db dc (fun de df=>(As .i64 (((b.drop ((d.toNat)*22)).take 22).drop 17) fun dg=>(Bc N 17 dg 0 1048576 de df (fun dh di=>(B4 1 (((b.drop ((d.toNat)*22)).take 22).drop 18) fun dj dk=>(T_ N 18 dj dk false c dh di (fun x y=>(As .i64 (((b.drop ((d.toNat)*22)).take 22).drop 19) fun dl=>(cond ((dl==0)==false) (As .i64 (((b.drop ((d.toNat)*22)).take 22).drop 19) fun dm=>(cond ((cond false true (dm==1))==false) (As .i64 (((b.drop ((d.toNat)*22)).take 22).drop 19) fun dn=>(A3 N (cond false true (dn==2)) 19 12 x y (fun dp dq=>(q1 d dp dq ((b.drop ((d.toNat)*22)).take 22))))) (A3 N true 19 12 x y (fun dr ds=>(q1 d dr ds ((b.drop ((d.toNat)*22)).take 22)))))) (A3 N true 19 12 x y (fun dt du=>(q1 d dt du ((b.drop ((d.toNat)*22)).take 22)))))))))))))))))))))))))))))))))))))))))))))))))))))) none)))))))))))))))) none) none) none) (r0 l m))
def Mc (r0:Bool→LA→O R) (b:LA) (g:Nat) (c:Bool) (f:LA):Nat→Int→Int→Bool→LA→O R
 | 0,_,_,_,_=>none
 | n+1,e,d,l,m=>(EC N r0 b g c f (Mc r0 b g c f n) (fun o p q i=>(K_ N (Mc r0 b g c f n) r0 b g c e f o p q i)) e d l m)
def gL (N:Nat) (r0:Bool→LA→O R) (q0:LA→Nat→Int→Int→Bool→LA→O R) (c:Bool) (f:LA):O R :=
 (B4 22 (f.drop 4) fun b g=>(q0 b g ((g:Nat):Int) 0 c f))
def HX:=(Ah (fun (N:Nat) (c:Bool) (f:LA) (r0:Bool→LA→O R)=>(gL N r0 (fun b g e d l m=>(Mc N r0 b g c f N e d l m)) c f))).1
theorem pM (c f r0):(@HX R N c f r0)=(gL N r0 (fun b g e d l m=>(Mc N r0 b g c f N e d l m)) c f):=by rw[HX,(Ah _).2]
def wB:Hints:={ H:=(hS hL (hS hL (hS (hP [1,8,9,10] (hS hL (hS hL (hS (hS (hS hL (hS hL (hS hL (hS hL (hS hL (hS hL (hS hL (hS hL (hS hL (hS hL (hS hL (hS hL (hS hL (hS hL (hS hL (hS hL (hS hL (hS hL (hS hL (hS hL (hS hL (hJ [1,3,8,9,10] hL (hJ [1,3,8,9,10] hL (hS hL (hJ [1,3,8,9,10] hL hL))))))))))))))))))))))))) hL) hL)))) hL))) }
def Adz:Gm:=[(233,AM N),(237,Agz N),(240,gI N),(234,Hs N),(244,Adx N),(242,Adn N),(236,De N)]
def K' (F:KF R):=Ko Tryz.f174 wB (Adz N) [100000] N F
def Gt (F:KF R):Bool→LA→O R:=(fun dv dw=>F (.tup []) [(100000,(bP dv 0 dw))])
def Atg (b:LA) (g:Nat) (c:Bool) (e:Int) (i f:LA) (u:Int) (v:Bool) (w:LA):St:=⟨[(1,(op 0)),(3,(op 1)),(8,(.imm b g 22 false c)),(9,(iv e)),(10,(iv u))],[(100000,(bP v 0 w)),(300000,(bN 0 [(.optr 100000 0)])),(300001,(bP c 0 i))]⟩
def Ath (F:KF R) (Q0:St→O R):=K' N F [1,1,0,0,1,1,0,0,1,1,1,1,1,1,1,1,1,1,1,1,1,1,1,1,1,1,1,1,1,1,1,1,1] [Q0]
def Ati (b:LA) (g:Nat) (c:Bool) (e:Int) (i f:LA) (r:Int) (s:Bool) (t:LA):St:=⟨[(1,(op 0)),(3,(op 1)),(8,(.imm b g 22 false c)),(9,(iv e)),(10,(iv r))],[(100000,(bP s 0 t)),(300000,(bN 0 [(.optr 100000 0)])),(300001,(bP c 0 i))]⟩
def Atj (F:KF R) (Q0:St→O R):=K' N F [1,1,0,0,1,1,0,0,1,1,1,1,1,1,1,1,1,1,1,1,1,1,1,1,1,1,1,1,1,1,1] [Q0]
def Atk (b:LA) (g:Nat) (c:Bool) (e:Int) (f:LA) (o:Int) (p:Bool) (q i:LA):St:=⟨[(1,(op 0)),(3,(op 1)),(8,(.imm b g 22 false c)),(9,(iv e)),(10,(iv o))],[(100000,(bP p 0 q)),(300000,(bN 0 [(.optr 100000 0)])),(300001,(bP c 0 i))]⟩
def Atl (F:KF R) (Q0:St→O R):=K' N F [1,1,0,0,1,1,0,0,1,1,1,1,1,1,1,1,1,1,1,1,1,1,1,1,1,1,1,1,1,1] [Q0]
def Uf (b:LA) (g:Nat) (c:Bool) (f:LA) (e d:Int) (l:Bool) (m:LA):St:=⟨[(1,(op 0)),(8,(.imm b g 22 false c)),(9,(iv e)),(10,(iv d))],[(100000,(bP l 0 m)),(300000,(bN 0 [(.optr 100000 0)]))]⟩
def wC (F:KF R):=K' N F [1,1,0] []
theorem Ad0 (Q0:St→O R) (F:KF R) (b:LA) (g:Nat) (c:Bool) (e:Int) (i f:LA):∀ (u:Int) (v:Bool) (w:LA),B9 (Ath N F Q0) (Atg b g c e i f u v w)=(dY N (fun e d l m=>Q0 (Uf b g c f e d l m)) (Gt F) b g c e i f u v w):=by
 intro u v w
 kernel_rfl
theorem Ad1 (Q0:St→O R) (F:KF R) (b:LA) (g:Nat) (c:Bool) (e:Int) (i f:LA):∀ (r:Int) (s:Bool) (t:LA),B9 (Atj N F Q0) (Ati b g c e i f r s t)=(dZ N (fun e d l m=>Q0 (Uf b g c f e d l m)) (Gt F) b g c e i f r s t):=by
 intro r s t
 exact Eq.trans (by kernel_rfl) (Bu (UB N (fun e d l m=>Q0 (Uf b g c f e d l m)) (Gt F) b g c e i f · r s t) (funext fun u=>funext fun v=>funext fun w=>(A4 ..).trans (Ad0 N Q0 F b g c e i f u v w)):_)
theorem Ad2 (Q0:St→O R) (F:KF R) (b:LA) (g:Nat) (c:Bool) (e:Int) (f:LA):∀ (o:Int) (p:Bool) (q i:LA),B9 (Atl N F Q0) (Atk b g c e f o p q i)=(K_ N (fun e d l m=>Q0 (Uf b g c f e d l m)) (Gt F) b g c e f o p q i):=by
 intro o p q i
 exact Eq.trans (by kernel_rfl) (Bu (UC N (fun e d l m=>Q0 (Uf b g c f e d l m)) (Gt F) b g c e f · o p q i) (funext fun r=>funext fun s=>funext fun t=>(A4 ..).trans (Ad1 N Q0 F b g c e i f r s t)):_)
theorem d3 (F:KF R) (b:LA) (g:Nat) (c:Bool) (f:LA):∀ (n:Nat) (e d:Int) (l:Bool) (m:LA),Aj (wC N F) n (Uf b g c f e d l m)=(Mc N (Gt F) b g c f n e d l m)
 | 0,_,_,_,_=>by kernel_rfl
 | n+1,e,d,l,m=>have e0:=(funext fun e=>funext fun d=>funext fun l=>funext fun m=>(d3 F b g c f n e d l m))
  Eq.trans (by kernel_rfl) (NY (EC N (Gt F) b g c f · · e d l m) e0 (funext fun o=>funext fun p=>funext fun q=>funext fun i=>(A4 ..).trans ((Ad2 N (Aj (wC N F) n) F b g c e f o p q i).trans (Bu (K_ N · (Gt F) b g c e f o p q i) e0))):_)
theorem wD (c:Bool) (f:LA) (F:KF R):C2 (Adz N) wB N 174 [(.optr 100000 0)] [(100000,(bP c 0 f))] F=(HX N c f (Gt F)):=by
 rw[pM]
 exact Eq.trans (by kernel_rfl) (Bu (gL N (Gt F) · c f) (funext fun b=>funext fun g=>funext fun e=>funext fun d=>funext fun l=>funext fun m=>(Ad ..).trans (d3 N F b g c f N e d l m)):_)
def pN (a:LA) (h:Ai) (k:KF R):O R :=
 match a,h with
 | [(.optr 100000 0)],[(100000,⟨false,false,true,c,0,f,false,none⟩)]=>(HX N c f (Gt k))
 | _,_=>none
theorem wE:Am N 174 @pN:=by
 intro R Q a h k j;unfold pN;split;exact Az (wD ..) (wD ..) ⟨AN N,Ag0 N,gJ N,Ht N,Ady N,Ado N,Df N,trivial⟩;exact A2
def Atm:=A1 (wE N)
def Atn:=C5 (wE N)
def HY (N:Nat) (d:Int) (c:Bool) (b:LA) (r0:List UInt8→O R):O R :=
 (B4 9 (b.drop 5) fun e f=>(cond (Ae d f) (Wb (e.drop ((d.toNat)*9)) fun g=>(r0 g)) none))
def Se:=(Ah (@HY R)).1
theorem LB:@Se R=@HY R:=(Ah _).2
def QE (c:Bool) (b:LA) (F:KF R):List UInt8→O R:=(fun i=>F (.str i) [(100000,(bN 0 [(.optr 100001 0)])),(100001,(bP c 0 b))])
theorem QF (d:Int) (c:Bool) (b:LA) (F:KF R):C2 [] Dc N 245 [(iv d),(.optr 100000 0)] [(100000,(bN 0 [(.optr 100001 0)])),(100001,(bP c 0 b))] F=(Se N d c b (QE c b F)):=by
 rw[LB]
 kernel_rfl
def LC (a:LA) (h:Ai) (k:KF R):O R :=
 match a,h with
 | [(.int .i64 d),(.optr 100000 0)],[(100000,⟨false,false,false,false,0,[(.optr 100001 0)],false,none⟩),(100001,⟨false,false,true,c,0,b,false,none⟩)]=>(Se N d c b (QE c b k))
 | _,_=>none
theorem QG:Am N 245 @LC:=by
 intro R Q a h k j;unfold LC;split;exact Az (QF ..) (QF ..) trivial;exact A2
def s4:=A1 (QG N)
def s5:=C5 (QG N)
def P6 (r0:Bool→LA→O R) (b:List UInt8) (f:Int) (k0:Int→Bool→LA→O R) (e:Int) (d:Bool) (c:LA):O R :=
 (cond (decide (e<f)) (As .i64 (c.drop 11) fun m=>(cond (m != 0) (r0 d c) (Se N e d c (fun o=>(A3 N (!(o==b)) 0 10 d c (fun p q=>(k0 (wrap .i64 (e+1)) p q))))))) (r0 d c))
def H1 (r0:Bool→LA→O R) (b:List UInt8) (f:Int):Nat→Int→Bool→LA→O R
 | 0,_,_,_=>none
 | n+1,e,d,c=>(P6 N r0 b f (H1 r0 b f n) e d c)
def LD (r0:Bool→LA→O R) (q0:Int→Int→Bool→LA→O R) (b:List UInt8) (g:Bool) (i:LA):O R :=
 (Vn N b (fun r=>(A3 N r 0 9 g i (fun s l=>(As .i64 (l.drop 9) fun f=>(q0 f 0 s l))))))
def Xr:=(Ah (fun (N:Nat) (b:List UInt8) (g:Bool) (i:LA) (r0:Bool→LA→O R)=>(LD N r0 (fun f e d c=>(H1 N r0 b f N e d c)) b g i))).1
theorem d4 (b g i r0):(@Xr R N b g i r0)=(LD N r0 (fun f e d c=>(H1 N r0 b f N e d c)) b g i):=by rw[Xr,(Ah _).2]
def pO:Gm:=[(284,Xn N),(236,De N),(245,s4 N)]
def Ag1 (F:KF R):=Ko Tryz.f237 VB (pO N) [100000,100001] N F
def Sf (F:KF R):Bool→LA→O R:=(fun t u=>F (.tup []) [(100000,(bP t 0 u)),(100001,(bN 0 [(.optr 100000 0)]))])
def Ag2 (b:List UInt8) (f e:Int) (d:Bool) (c:LA):St:=⟨[(0,(.optr 100000 0)),(1,(.str b)),(2,(.fn 245 [(.optr 100001 0)])),(15,(iv f)),(16,(iv e))],[(100000,(bP d 0 c)),(100001,(bN 0 [(.optr 100000 0)]))]⟩
def Ag3 (F:KF R):=Ag1 N F [1,1,0] []
theorem QH (F:KF R) (b:List UInt8) (f:Int):∀ (n:Nat) (e:Int) (d:Bool) (c:LA),Aj (Ag3 N F) n (Ag2 b f e d c)=(H1 N (Sf F) b f n e d c)
 | 0,_,_,_=>by kernel_rfl
 | n+1,e,d,c=>Eq.trans (by kernel_rfl) (Bu (P6 N (Sf F) b f · e d c) (funext fun e=>funext fun d=>funext fun c=>(QH F b f n e d c)):_)
theorem jj (b:List UInt8) (g:Bool) (i:LA) (F:KF R):C2 (pO N) VB N 237 [(.optr 100000 0),(.str b),(.fn 245 [(.optr 100001 0)])] [(100000,(bP g 0 i)),(100001,(bN 0 [(.optr 100000 0)]))] F=(Xr N b g i (Sf F)):=by
 rw[d4]
 exact Eq.trans (by kernel_rfl) (Bu (LD N (Sf F) · b g i) (funext fun f=>funext fun e=>funext fun d=>funext fun c=>(Ad ..).trans (QH N F b f N e d c)):_)
def d5 (a:LA) (h:Ai) (k:KF R):O R :=
 match a,h with
 | [(.optr 100000 0),(.str b),(.fn 245 [(.optr 100001 0)])],[(100000,⟨false,false,true,g,0,i,false,none⟩),(100001,⟨false,false,false,false,0,[(.optr 100000 0)],false,none⟩)]=>(Xr N b g i (Sf k))
 | _,_=>none
theorem jk:Am N 237 @d5:=by
 intro R Q a h k j;unfold d5;split;exact Az (jj ..) (jj ..) ⟨Xo N,Df N,s5 N,trivial⟩;exact A2
def Ag4:=A1 (jk N)
def Ag5:=C5 (jk N)
def Y4 (r0:Bool→LA→O R) (c:LA) (f:Nat) (d:Bool) (k0:Int→Int→Bool→LA→O R) (e b:Int) (g:Bool) (i:LA):O R :=
 (cond (decide (b<e)) (cond (Ae b f) (cond (Nat.ble 9 ((c.drop ((b.toNat)*9)).length)) (cond ((Nat.beq 0 0)&&((Nat.beq (((c.drop ((b.toNat)*9)).take 9).length) 9)&&(Nat.beq 9 9))) (XQ N 4 b g i (fun p q=>(Wb ((c.drop ((b.toNat)*9)).take 9) fun r=>(Xr N r p q (fun s t=>(As .i64 (((c.drop ((b.toNat)*9)).take 9).drop 1) fun u=>(TZ N 1 u s t (fun v w=>(As .i64 (((c.drop ((b.toNat)*9)).take 9).drop 2) fun x=>(Bc N 2 x 0 1048576 v w (fun y z=>(As .i64 (((c.drop ((b.toNat)*9)).take 9).drop 3) fun aa=>(As .i64 (((c.drop ((b.toNat)*9)).take 9).drop 2) fun ab=>(Bc N 3 aa 0 ab y z (fun ac ad=>(As .i64 (((c.drop ((b.toNat)*9)).take 9).drop 4) fun ae=>(As .i64 (((c.drop ((b.toNat)*9)).take 9).drop 2) fun af=>(Bc N 4 ae 0 af ac ad (fun ag ah=>(As .i64 (((c.drop ((b.toNat)*9)).take 9).drop 5) fun ai=>(Bc N 5 ai 0 1048576 ag ah (fun aj ak=>(As .i64 (((c.drop ((b.toNat)*9)).take 9).drop 6) fun al=>(Bc N 6 al 0 1048576 aj ak (fun m o=>(cond (Nat.ble 2 ((((c.drop ((b.toNat)*9)).take 9).drop 7).length)) (cond ((!d)||(A0 ((((c.drop ((b.toNat)*9)).take 9).drop 7).take 2))) (cond ((Nat.beq (((((c.drop ((b.toNat)*9)).take 9).drop 7).take 2).length) 2)&&((Nat.ble 2 2)&&(!false))) (cond (Nat.ble 2 ((setCells [(.int .i64 0),(.int .i64 0)] 0 ((((c.drop ((b.toNat)*9)).take 9).drop 7).take 2)).length)) (AQ N ((setCells [(.int .i64 0),(.int .i64 0)] 0 ((((c.drop ((b.toNat)*9)).take 9).drop 7).take 2)).take 2) false (fun am=>(cond (am==true) (As .i64 (setCells [(.int .i64 0),(.int .i64 0)] 0 ((((c.drop ((b.toNat)*9)).take 9).drop 7).take 2)) fun an=>(cond ((cond true (decide (an>0)) false)==true) (As .i64 (setCells [(.int .i64 0),(.int .i64 0)] 0 ((((c.drop ((b.toNat)*9)).take 9).drop 7).take 2)) fun ao=>(As .i64 ((setCells [(.int .i64 0),(.int .i64 0)] 0 ((((c.drop ((b.toNat)*9)).take 9).drop 7).take 2)).drop 1) fun ap=>(A3 N (cond true (decide (ao≤ap)) false) 7 3 m o (fun aq ar=>(k0 e (wrap .i64 (b+1)) aq ar))))) (A3 N false 7 3 m o (fun au av=>(k0 e (wrap .i64 (b+1)) au av))))) (A3 N false 7 3 m o (fun aw ax=>(k0 e (wrap .i64 (b+1)) aw ax)))))) none) none) none) none)))))))))))))))))))))))))) none) none) none) (r0 g i))
def Ng (r0:Bool→LA→O R) (c:LA) (f:Nat) (d:Bool):Nat→Int→Int→Bool→LA→O R
 | 0,_,_,_,_=>none
 | n+1,e,b,g,i=>(Y4 N r0 c f d (Ng r0 c f d n) e b g i)
def UD (N:Nat) (r0:Bool→LA→O R) (q0:LA→Nat→Int→Int→Bool→LA→O R) (d:Bool) (l:LA):O R :=
 (B4 9 (l.drop 5) fun c f=>(q0 c f ((f:Nat):Int) 0 d l))
def Xs:=(Ah (fun (N:Nat) (d:Bool) (l:LA) (r0:Bool→LA→O R)=>(UD N r0 (fun c f e b g i=>(Ng N r0 c f d N e b g i)) d l))).1
theorem jl (d l r0):(@Xs R N d l r0)=(UD N r0 (fun c f e b g i=>(Ng N r0 c f d N e b g i)) d l):=by rw[Xs,(Ah _).2]
def pP:Hints:={ H:=(hS hL (hS hL (hS (hP [1,9,10,11] hL) hL))) }
def wF:Gm:=[(233,AM N),(237,Ag4 N),(240,gI N),(234,Hs N),(241,vh N),(236,De N)]
def Anw (F:KF R):=Ko Tryz.f175 pP (wF N) [100000] N F
def Vr (F:KF R):Bool→LA→O R:=(fun ay az=>F (.tup []) [(100000,(bP ay 0 az))])
def Anx (c:LA) (f:Nat) (d:Bool) (e b:Int) (g:Bool) (i:LA):St:=⟨[(1,(op 0)),(9,(.imm c f 9 false d)),(10,(iv e)),(11,(iv b))],[(100000,(bP g 0 i)),(300000,(bN 0 [(.optr 100000 0)]))]⟩
def Anz (F:KF R):=Anw N F [1,1,0] []
theorem YE (F:KF R) (c:LA) (f:Nat) (d:Bool):∀ (n:Nat) (e b:Int) (g:Bool) (i:LA),Aj (Anz N F) n (Anx c f d e b g i)=(Ng N (Vr F) c f d n e b g i)
 | 0,_,_,_,_=>by kernel_rfl
 | n+1,e,b,g,i=>Eq.trans (by kernel_rfl) (Bu (Y4 N (Vr F) c f d · e b g i) (funext fun e=>funext fun b=>funext fun g=>funext fun i=>(YE F c f d n e b g i)):_)
theorem pQ (d:Bool) (l:LA) (F:KF R):C2 (wF N) pP N 175 [(.optr 100000 0)] [(100000,(bP d 0 l))] F=(Xs N d l (Vr F)):=by
 rw[jl]
 exact Eq.trans (by kernel_rfl) (Bu (UD N (Vr F) · d l) (funext fun c=>funext fun f=>funext fun e=>funext fun b=>funext fun g=>funext fun i=>(Ad ..).trans (YE N F c f d N e b g i)):_)
def jm (a:LA) (h:Ai) (k:KF R):O R :=
 match a,h with
 | [(.optr 100000 0)],[(100000,⟨false,false,true,d,0,l,false,none⟩)]=>(Xs N d l (Vr k))
 | _,_=>none
theorem pR:Am N 175 @jm:=by
 intro R Q a h k j;unfold jm;split;exact Az (pQ ..) (pQ ..) ⟨AN N,Ag5 N,gJ N,Ht N,vj N,Df N,trivial⟩;exact A2
def An0:=A1 (pR N)
def An1:=C5 (pR N)
def UE (N:Nat) (d:Int) (c:Bool) (b:LA) (r0:List UInt8→O R):O R :=
 (B4 5 (b.drop 6) fun e f=>(cond (Ae d f) (Wb (e.drop ((d.toNat)*5)) fun g=>(r0 g)) none))
def AR:=(Ah (@UE R)).1
theorem YF:@AR R=@UE R:=(Ah _).2
def d6 (c:Bool) (b:LA) (F:KF R):List UInt8→O R:=(fun i=>F (.str i) [(100000,(bN 0 [(.optr 100001 0)])),(100001,(bP c 0 b))])
theorem d7 (d:Int) (c:Bool) (b:LA) (F:KF R):C2 [] Dc N 246 [(iv d),(.optr 100000 0)] [(100000,(bN 0 [(.optr 100001 0)])),(100001,(bP c 0 b))] F=(AR N d c b (d6 c b F)):=by
 rw[YF]
 kernel_rfl
def YG (a:LA) (h:Ai) (k:KF R):O R :=
 match a,h with
 | [(.int .i64 d),(.optr 100000 0)],[(100000,⟨false,false,false,false,0,[(.optr 100001 0)],false,none⟩),(100001,⟨false,false,true,c,0,b,false,none⟩)]=>(AR N d c b (d6 c b k))
 | _,_=>none
theorem d8:Am N 246 @YG:=by
 intro R Q a h k j;unfold YG;split;exact Az (d7 ..) (d7 ..) trivial;exact A2
def Ad3:=A1 (d8 N)
def Ad4:=C5 (d8 N)
def P7 (r0:Bool→LA→O R) (b:List UInt8) (f:Int) (k0:Int→Bool→LA→O R) (e:Int) (d:Bool) (c:LA):O R :=
 (cond (decide (e<f)) (As .i64 (c.drop 11) fun m=>(cond (m != 0) (r0 d c) (AR N e d c (fun o=>(A3 N (!(o==b)) 0 10 d c (fun p q=>(k0 (wrap .i64 (e+1)) p q))))))) (r0 d c))
def H2 (r0:Bool→LA→O R) (b:List UInt8) (f:Int):Nat→Int→Bool→LA→O R
 | 0,_,_,_=>none
 | n+1,e,d,c=>(P7 N r0 b f (H2 r0 b f n) e d c)
def LE (r0:Bool→LA→O R) (q0:Int→Int→Bool→LA→O R) (b:List UInt8) (g:Bool) (i:LA):O R :=
 (Vn N b (fun r=>(A3 N r 0 9 g i (fun s l=>(As .i64 (l.drop 9) fun f=>(q0 f 0 s l))))))
def Xt:=(Ah (fun (N:Nat) (b:List UInt8) (g:Bool) (i:LA) (r0:Bool→LA→O R)=>(LE N r0 (fun f e d c=>(H2 N r0 b f N e d c)) b g i))).1
theorem d9 (b g i r0):(@Xt R N b g i r0)=(LE N r0 (fun f e d c=>(H2 N r0 b f N e d c)) b g i):=by rw[Xt,(Ah _).2]
def pS:Gm:=[(284,Xn N),(236,De N),(246,Ad3 N)]
def Ag6 (F:KF R):=Ko Tryz.f237 VB (pS N) [100000,100001] N F
def Sg (F:KF R):Bool→LA→O R:=(fun t u=>F (.tup []) [(100000,(bP t 0 u)),(100001,(bN 0 [(.optr 100000 0)]))])
def Ag7 (b:List UInt8) (f e:Int) (d:Bool) (c:LA):St:=⟨[(0,(.optr 100000 0)),(1,(.str b)),(2,(.fn 246 [(.optr 100001 0)])),(15,(iv f)),(16,(iv e))],[(100000,(bP d 0 c)),(100001,(bN 0 [(.optr 100000 0)]))]⟩
def Ag8 (F:KF R):=Ag6 N F [1,1,0] []
theorem QI (F:KF R) (b:List UInt8) (f:Int):∀ (n:Nat) (e:Int) (d:Bool) (c:LA),Aj (Ag8 N F) n (Ag7 b f e d c)=(H2 N (Sg F) b f n e d c)
 | 0,_,_,_=>by kernel_rfl
 | n+1,e,d,c=>Eq.trans (by kernel_rfl) (Bu (P7 N (Sg F) b f · e d c) (funext fun e=>funext fun d=>funext fun c=>(QI F b f n e d c)):_)
theorem jn (b:List UInt8) (g:Bool) (i:LA) (F:KF R):C2 (pS N) VB N 237 [(.optr 100000 0),(.str b),(.fn 246 [(.optr 100001 0)])] [(100000,(bP g 0 i)),(100001,(bN 0 [(.optr 100000 0)]))] F=(Xt N b g i (Sg F)):=by
 rw[d9]
 exact Eq.trans (by kernel_rfl) (Bu (LE N (Sg F) · b g i) (funext fun f=>funext fun e=>funext fun d=>funext fun c=>(Ad ..).trans (QI N F b f N e d c)):_)
def d_ (a:LA) (h:Ai) (k:KF R):O R :=
 match a,h with
 | [(.optr 100000 0),(.str b),(.fn 246 [(.optr 100001 0)])],[(100000,⟨false,false,true,g,0,i,false,none⟩),(100001,⟨false,false,false,false,0,[(.optr 100000 0)],false,none⟩)]=>(Xt N b g i (Sg k))
 | _,_=>none
theorem jo:Am N 237 @d_:=by
 intro R Q a h k j;unfold d_;split;exact Az (jn ..) (jn ..) ⟨Xo N,Df N,Ad4 N,trivial⟩;exact A2
def Ag9:=A1 (jo N)
def Aha:=C5 (jo N)
def LF (r0:Bool→LA→O R) (d:LA) (e:Nat) (b:Bool) (k0:Int→Int→Bool→LA→O R) (f c:Int) (g:Bool) (i:LA):O R :=
 (cond (decide (c<f)) (cond (Ae c e) (cond (Nat.ble 5 ((d.drop ((c.toNat)*5)).length)) (cond ((Nat.beq 0 0)&&((Nat.beq (((d.drop ((c.toNat)*5)).take 5).length) 5)&&(Nat.beq 5 5))) (XQ N 5 c g i (fun m o=>(Wb ((d.drop ((c.toNat)*5)).take 5) fun p=>(Xt N p m o (fun q r=>(As .i64 (((d.drop ((c.toNat)*5)).take 5).drop 1) fun s=>(TZ N 1 s q r (fun t u=>(B4 1 (((d.drop ((c.toNat)*5)).take 5).drop 2) fun v w=>(N7 N 2 v w false b 0 1048576 t u (fun x y=>(B4 1 (((d.drop ((c.toNat)*5)).take 5).drop 3) fun z aa=>(N7 N 3 z aa false b 0 1048576 x y (fun ab ac=>(B4 1 (((d.drop ((c.toNat)*5)).take 5).drop 4) fun ad ae=>(N7 N 4 ad ae false b (-1048576) 1048576 ab ac (fun af ag=>(k0 f (wrap .i64 (c+1)) af ag)))))))))))))))))) none) none) none) (r0 g i))
def Ts (r0:Bool→LA→O R) (d:LA) (e:Nat) (b:Bool):Nat→Int→Int→Bool→LA→O R
 | 0,_,_,_,_=>none
 | n+1,f,c,g,i=>(LF N r0 d e b (Ts r0 d e b n) f c g i)
def pT (N:Nat) (r0:Bool→LA→O R) (q0:LA→Nat→Int→Int→Bool→LA→O R) (b:Bool) (l:LA):O R :=
 (B4 5 (l.drop 6) fun d e=>(q0 d e ((e:Nat):Int) 0 b l))
def UF:=(Ah (fun (N:Nat) (b:Bool) (l:LA) (r0:Bool→LA→O R)=>(pT N r0 (fun d e f c g i=>(Ts N r0 d e b N f c g i)) b l))).1
theorem wG (b l r0):(@UF R N b l r0)=(pT N r0 (fun d e f c g i=>(Ts N r0 d e b N f c g i)) b l):=by rw[UF,(Ah _).2]
def Ad5:Hints:={ H:=(hS hL (hS hL (hS (hP [1,8,9,10] hL) hL))) }
def Aj8:Gm:=[(233,AM N),(237,Ag9 N),(240,gI N),(235,TW N)]
def Ayd (F:KF R):=Ko Tryz.f176 Ad5 (Aj8 N) [100000] N F
def HZ (F:KF R):Bool→LA→O R:=(fun ah ai=>F (.tup []) [(100000,(bP ah 0 ai))])
def Aye (d:LA) (e:Nat) (b:Bool) (f c:Int) (g:Bool) (i:LA):St:=⟨[(1,(op 0)),(8,(.imm d e 5 false b)),(9,(iv f)),(10,(iv c))],[(100000,(bP g 0 i)),(300000,(bN 0 [(.optr 100000 0)]))]⟩
def Ayf (F:KF R):=Ayd N F [1,1,0] []
theorem jq (F:KF R) (d:LA) (e:Nat) (b:Bool):∀ (n:Nat) (f c:Int) (g:Bool) (i:LA),Aj (Ayf N F) n (Aye d e b f c g i)=(Ts N (HZ F) d e b n f c g i)
 | 0,_,_,_,_=>by kernel_rfl
 | n+1,f,c,g,i=>Eq.trans (by kernel_rfl) (Bu (LF N (HZ F) d e b · f c g i) (funext fun f=>funext fun c=>funext fun g=>funext fun i=>(jq F d e b n f c g i)):_)
theorem Ad6 (b:Bool) (l:LA) (F:KF R):C2 (Aj8 N) Ad5 N 176 [(.optr 100000 0)] [(100000,(bP b 0 l))] F=(UF N b l (HZ F)):=by
 rw[wG]
 exact Eq.trans (by kernel_rfl) (Bu (pT N (HZ F) · b l) (funext fun d=>funext fun e=>funext fun f=>funext fun c=>funext fun g=>funext fun i=>(Ad ..).trans (jq N F d e b N f c g i)):_)
def wH (a:LA) (h:Ai) (k:KF R):O R :=
 match a,h with
 | [(.optr 100000 0)],[(100000,⟨false,false,true,b,0,l,false,none⟩)]=>(UF N b l (HZ k))
 | _,_=>none
theorem Ad7:Am N 176 @wH:=by
 intro R Q a h k j;unfold wH;split;exact Az (Ad6 ..) (Ad6 ..) ⟨AN N,Aha N,gJ N,TX N,trivial⟩;exact A2
def Ayg:=A1 (Ad7 N)
def Ayh:=C5 (Ad7 N)
def BO (N:Nat) (d:Int) (c:Bool) (b:LA) (r0:List UInt8→O R):O R :=
 (B4 4 (b.drop 7) fun e f=>(cond (Ae d f) (Wb (e.drop ((d.toNat)*4)) fun g=>(r0 g)) none))
def P8:=(Ah (@BO R)).1
theorem H_:@P8 R=@BO R:=(Ah _).2
def LG (c:Bool) (b:LA) (F:KF R):List UInt8→O R:=(fun i=>F (.str i) [(100000,(bN 0 [(.optr 100001 0)])),(100001,(bP c 0 b))])
theorem LH (d:Int) (c:Bool) (b:LA) (F:KF R):C2 [] Dc N 247 [(iv d),(.optr 100000 0)] [(100000,(bN 0 [(.optr 100001 0)])),(100001,(bP c 0 b))] F=(P8 N d c b (LG c b F)):=by
 rw[H_]
 kernel_rfl
def H' (a:LA) (h:Ai) (k:KF R):O R :=
 match a,h with
 | [(.int .i64 d),(.optr 100000 0)],[(100000,⟨false,false,false,false,0,[(.optr 100001 0)],false,none⟩),(100001,⟨false,false,true,c,0,b,false,none⟩)]=>(P8 N d c b (LG c b k))
 | _,_=>none
theorem LI:Am N 247 @H':=by
 intro R Q a h k j;unfold H';split;exact Az (LH ..) (LH ..) trivial;exact A2
def pU:=A1 (LI N)
def pV:=C5 (LI N)
end
end Gx

namespace Gx
open Go Go.Proofs
open IntKind (wrap)
set_option maxRecDepth 100000
noncomputable section
variable {R:Type} (N:Nat)
def P9 (r0:Bool→LA→O R) (b:List UInt8) (f:Int) (k0:Int→Bool→LA→O R) (e:Int) (d:Bool) (c:LA):O R :=
 (cond (decide (e<f)) (As .i64 (c.drop 11) fun m=>(cond (m != 0) (r0 d c) (P8 N e d c (fun o=>(A3 N (!(o==b)) 0 10 d c (fun p q=>(k0 (wrap .i64 (e+1)) p q))))))) (r0 d c))
def H3 (r0:Bool→LA→O R) (b:List UInt8) (f:Int):Nat→Int→Bool→LA→O R
 | 0,_,_,_=>none
 | n+1,e,d,c=>(P9 N r0 b f (H3 r0 b f n) e d c)
def LJ (r0:Bool→LA→O R) (q0:Int→Int→Bool→LA→O R) (b:List UInt8) (g:Bool) (i:LA):O R :=
 (Vn N b (fun r=>(A3 N r 0 9 g i (fun s l=>(As .i64 (l.drop 9) fun f=>(q0 f 0 s l))))))
def Xu:=(Ah (fun (N:Nat) (b:List UInt8) (g:Bool) (i:LA) (r0:Bool→LA→O R)=>(LJ N r0 (fun f e d c=>(H3 N r0 b f N e d c)) b g i))).1
theorem dx (b g i r0):(@Xu R N b g i r0)=(LJ N r0 (fun f e d c=>(H3 N r0 b f N e d c)) b g i):=by rw[Xu,(Ah _).2]
def pW:Gm:=[(284,Xn N),(236,De N),(247,pU N)]
def Ahb (F:KF R):=Ko Tryz.f237 VB (pW N) [100000,100001] N F
def Sh (F:KF R):Bool→LA→O R:=(fun t u=>F (.tup []) [(100000,(bP t 0 u)),(100001,(bN 0 [(.optr 100000 0)]))])
def Ahc (b:List UInt8) (f e:Int) (d:Bool) (c:LA):St:=⟨[(0,(.optr 100000 0)),(1,(.str b)),(2,(.fn 247 [(.optr 100001 0)])),(15,(iv f)),(16,(iv e))],[(100000,(bP d 0 c)),(100001,(bN 0 [(.optr 100000 0)]))]⟩
def Ahd (F:KF R):=Ahb N F [1,1,0] []
theorem QJ (F:KF R) (b:List UInt8) (f:Int):∀ (n:Nat) (e:Int) (d:Bool) (c:LA),Aj (Ahd N F) n (Ahc b f e d c)=(H3 N (Sh F) b f n e d c)
 | 0,_,_,_=>by kernel_rfl
 | n+1,e,d,c=>Eq.trans (by kernel_rfl) (Bu (P9 N (Sh F) b f · e d c) (funext fun e=>funext fun d=>funext fun c=>(QJ F b f n e d c)):_)
theorem jr (b:List UInt8) (g:Bool) (i:LA) (F:KF R):C2 (pW N) VB N 237 [(.optr 100000 0),(.str b),(.fn 247 [(.optr 100001 0)])] [(100000,(bP g 0 i)),(100001,(bN 0 [(.optr 100000 0)]))] F=(Xu N b g i (Sh F)):=by
 rw[dx]
 exact Eq.trans (by kernel_rfl) (Bu (LJ N (Sh F) · b g i) (funext fun f=>funext fun e=>funext fun d=>funext fun c=>(Ad ..).trans (QJ N F b f N e d c)):_)
def dy (a:LA) (h:Ai) (k:KF R):O R :=
 match a,h with
 | [(.optr 100000 0),(.str b),(.fn 247 [(.optr 100001 0)])],[(100000,⟨false,false,true,g,0,i,false,none⟩),(100001,⟨false,false,false,false,0,[(.optr 100000 0)],false,none⟩)]=>(Xu N b g i (Sh k))
 | _,_=>none
theorem js:Am N 237 @dy:=by
 intro R Q a h k j;unfold dy;split;exact Az (jr ..) (jr ..) ⟨Xo N,Df N,pV N,trivial⟩;exact A2
def Ahe:=A1 (js N)
def Ahf:=C5 (js N)
def ED (r0:Bool→LA→O R) (i:LA) (m:Nat) (b:Bool) (k2:Int→Int→Bool→LA→O R) (s f:Int) (t:Bool) (u:LA):O R :=
 (cond (decide (f<s)) (cond (Ae f m) (cond (Nat.ble 3 ((i.drop ((f.toNat)*3)).length)) (cond ((!b)||(A0 ((i.drop ((f.toNat)*3)).take 3))) (cond ((Nat.beq (((i.drop ((f.toNat)*3)).take 3).length) 3)&&((Nat.ble 3 3)&&(!false))) (As .i64 ((setCells [(.int .i64 0),(.int .i64 0),(.int .i64 0)] 0 ((i.drop ((f.toNat)*3)).take 3)).drop 1) fun ab=>(Bc N 3 ab 0 1048576 t u (fun ac ad=>(As .i64 ((setCells [(.int .i64 0),(.int .i64 0),(.int .i64 0)] 0 ((i.drop ((f.toNat)*3)).take 3)).drop 2) fun ae=>(Bc N 3 ae 0 1048576 ac ad (fun af ag=>(k2 s (wrap .i64 (f+1)) af ag))))))) none) none) none) none) (r0 t u))
def Ug (r0:Bool→LA→O R) (i:LA) (m:Nat) (b:Bool):Nat→Int→Int→Bool→LA→O R
 | 0,_,_,_,_=>none
 | n+1,s,f,t,u=>(ED N r0 i m b (Ug r0 i m b n) s f t u)
def EE (r0:Bool→LA→O R) (g:LA) (o:Nat) (b:Bool) (c:LA) (k1:Nat→Int→Int→Bool→LA→LA→O R) (q2:LA→Nat→Int→Int→Bool→LA→O R) (e:Nat) (p d:Int) (q:Bool) (l r:LA):O R :=
 (cond (decide (d<p)) (cond (Ae d o) (cond (Nat.ble 3 ((g.drop ((d.toNat)*3)).length)) (cond ((!b)||(A0 ((g.drop ((d.toNat)*3)).take 3))) (cond ((Nat.beq (((g.drop ((d.toNat)*3)).take 3).length) 3)&&((Nat.ble 3 3)&&(!false))) (As .i64 (setCells [(.int .i64 0),(.int .i64 0),(.int .i64 0)] 0 ((g.drop ((d.toNat)*3)).take 3)) fun ah=>(cond ((decide (ah≥0))==true) (As .i64 (setCells [(.int .i64 0),(.int .i64 0),(.int .i64 0)] 0 ((g.drop ((d.toNat)*3)).take 3)) fun ai=>(B4 22 (l.drop 4) fun bf aj=>(A3 N (cond true (decide (ai<((aj:Nat):Int))) false) 3 12 q l (fun ak al=>(As .i64 (setCells [(.int .i64 0),(.int .i64 0),(.int .i64 0)] 0 ((g.drop ((d.toNat)*3)).take 3)) fun am=>(cond ((Nat.ble (e+1) 140737488355328)&&(Nat.ble ((e+1)*8) 140737488355328)) (k1 (e+1) p (wrap .i64 (d+1)) ak al ((r.take (e*1))++[(.int .i64 am)])) none)))))) (A3 N false 3 12 q l (fun an ao=>(As .i64 (setCells [(.int .i64 0),(.int .i64 0),(.int .i64 0)] 0 ((g.drop ((d.toNat)*3)).take 3)) fun ap=>(cond ((Nat.ble (e+1) 140737488355328)&&(Nat.ble ((e+1)*8) 140737488355328)) (k1 (e+1) p (wrap .i64 (d+1)) an ao ((r.take (e*1))++[(.int .i64 ap)])) none)))))) none) none) none) none) (Ka N (r.take (e*1)) e false true (fun aq=>(A3 N aq 3 11 q l (fun ar au=>(B4 3 (c.drop 3) fun i m=>(q2 i m ((m:Nat):Int) 0 ar au)))))))
def Qa (r0:Bool→LA→O R) (g:LA) (o:Nat) (b:Bool) (c:LA):Nat→Nat→Int→Int→Bool→LA→LA→O R
 | 0,_,_,_,_,_,_=>none
 | n+1,e,p,d,q,l,r=>(EE N r0 g o b c (Qa r0 g o b c n) (fun i m s f t u=>(Ug N r0 i m b N s f t u)) e p d q l r)
def UG (r0:Bool→LA→O R) (b:Bool) (c:LA) (q1:LA→Nat→Nat→Int→Int→Bool→LA→LA→O R) (v:Bool) (w:LA):O R :=
 (B4 3 (c.drop 3) fun bg av=>(A3 N (decide (((av:Nat):Int)≤16)) 3 8 v w (fun aa z=>(As .i64 (z.drop 11) fun aw=>(cond (aw != 0) (r0 aa z) (B4 3 (c.drop 3) fun g o=>(q1 g o 0 ((o:Nat):Int) 0 aa z [])))))))
def LK (r0:Bool→LA→O R) (b:Bool) (c:LA) (v:Bool) (w:LA):O R:=(UG N r0 b c (fun g o e p d q l r=>(Qa N r0 g o b c N e p d q l r)) v w)
def gM (r0:Bool→LA→O R) (q0:Bool→LA→O R) (c:LA) (b x:Bool) (y:LA):O R :=
 (B4 3 (c.drop 3) fun bh ax=>(cond ((((ax:Nat):Int)==0)==false) (aT (c.drop 2) fun ay=>(A3 N (cond false true ay) 3 16 x y (fun az ba=>(q0 az ba)))) (A3 N true 3 16 x y (fun bb bc=>(q0 bb bc)))))
def QK:=(Ah (fun (N:Nat) (c:LA) (b x:Bool) (y:LA) (r0:Bool→LA→O R)=>(gM N r0 (fun v w=>(LK N r0 b c v w)) c b x y))).1
theorem pX (c b x y r0):(@QK R N c b x y r0)=(gM N r0 (fun v w=>(LK N r0 b c v w)) c b x y):=by rw[QK,(Ah _).2]
def wI:Hints:={ H:=(hS hL (hJ [0,3] hL (hS hL (hS hL (hS hL (hS (hS hL (hS (hP [0,3,4,31,32,33] hL) hL)) (hS hL (hS hL (hS (hP [0,64,65,66] hL) hL))))))))),nils:=[(4,1)] }
def Ad8:Gm:=[(236,De N),(248,BM N),(234,Hs N)]
def dz (F:KF R):=Ko Tryz.f249 wI (Ad8 N) [100000] N F
def Kb (F:KF R):Bool→LA→O R:=(fun bd be=>F (.tup []) [(100000,(bP bd 0 be))])
def Ato (i:LA) (m:Nat) (b:Bool) (s f:Int) (t:Bool) (u:LA):St:=⟨[(0,(.optr 100000 0)),(64,(.imm i m 3 false b)),(65,(iv s)),(66,(iv f))],[(100000,(bP t 0 u))]⟩
def Atp (F:KF R):=dz N F [1,1,1,1,1,1,1,1,0] []
def Atq (g:LA) (o:Nat) (b:Bool) (c:LA) (e:Nat) (p d:Int) (q:Bool) (l r:LA):St:=⟨[(0,(.optr 100000 0)),(3,(op 0)),(4,(.own 300001 0 e)),(31,(.imm g o 3 false b)),(32,(iv p)),(33,(iv d))],[(100000,(bP q 0 l)),(300000,(bP b 0 c)),(300001,(bQ 1 r))]⟩
def Atr (F:KF R):=dz N F [1,1,1,1,1,0,1,0] []
def Ats (b:Bool) (c:LA) (v:Bool) (w:LA):St:=⟨[(0,(.optr 100000 0)),(3,(op 0))],[(100000,(bP v 0 w)),(300000,(bP b 0 c))]⟩
def Att (F:KF R):=dz N F [1,1] []
theorem eA (F:KF R) (i:LA) (m:Nat) (b:Bool):∀ (n:Nat) (s f:Int) (t:Bool) (u:LA),Aj (Atp N F) n (Ato i m b s f t u)=(Ug N (Kb F) i m b n s f t u)
 | 0,_,_,_,_=>by kernel_rfl
 | n+1,s,f,t,u=>Eq.trans (by kernel_rfl) (Bu (ED N (Kb F) i m b · s f t u) (funext fun s=>funext fun f=>funext fun t=>funext fun u=>(eA F i m b n s f t u)):_)
theorem eC (F:KF R) (g:LA) (o:Nat) (b:Bool) (c:LA):∀ (n e:Nat) (p d:Int) (q:Bool) (l r:LA),Aj (Atr N F) n (Atq g o b c e p d q l r)=(Qa N (Kb F) g o b c n e p d q l r)
 | 0,_,_,_,_,_,_=>by kernel_rfl
 | n+1,e,p,d,q,l,r=>Eq.trans (by kernel_rfl) (NY (EE N (Kb F) g o b c · · e p d q l r) (funext fun e=>funext fun p=>funext fun d=>funext fun q=>funext fun l=>funext fun r=>(eC F g o b c n e p d q l r)) (funext fun i=>funext fun m=>funext fun s=>funext fun f=>funext fun t=>funext fun u=>(Ad ..).trans (eA N F i m b N s f t u)):_)
theorem Ad9 (F:KF R) (b:Bool) (c:LA):∀ (v:Bool) (w:LA),B9 (Att N F) (Ats b c v w)=(LK N (Kb F) b c v w):=by
 intro v w
 exact Eq.trans (by kernel_rfl) (Bu (UG N (Kb F) b c · v w) (funext fun g=>funext fun o=>funext fun e=>funext fun p=>funext fun d=>funext fun q=>funext fun l=>funext fun r=>(Ad ..).trans (eC N F g o b c N e p d q l r)):_)
theorem wJ (c:LA) (b x:Bool) (y:LA) (F:KF R):C2 (Ad8 N) wI N 249 [(.optr 100000 0),(.pagg c b)] [(100000,(bP x 0 y))] F=(QK N c b x y (Kb F)):=by
 rw[pX]
 exact Eq.trans (by kernel_rfl) (Bu (gM N (Kb F) · c b x y) (funext fun v=>funext fun w=>(A4 ..).trans (Ad9 N F b c v w)):_)
def pY (a:LA) (h:Ai) (k:KF R):O R :=
 match a,h with
 | [(.optr 100000 0),(.pagg c b)],[(100000,⟨false,false,true,x,0,y,false,none⟩)]=>(QK N c b x y (Kb k))
 | _,_=>none
theorem wK:Am N 249 @pY:=by
 intro R Q a h k j;unfold pY;split;exact Az (wJ ..) (wJ ..) ⟨Df N,BN N,Ht N,trivial⟩;exact A2
def Atu:=A1 (wK N)
def Atv:=C5 (wK N)
def Vs (k0:Int→Int→Bool→LA→O R) (r0:Bool→LA→O R) (c:LA) (f:Nat) (b:Bool) (e:Int) (u:LA) (q:Nat) (i d:LA) (k2:Int→Int→Int→Bool→LA→O R) (r s o:Int) (t:Bool) (p:LA):O R :=
 (cond (decide (o<s)) (cond (Ae o q) (As .i64 (u.drop ((o.toNat)*1)) fun y=>(cond ((decide (y≥0))==true) (B4 12 (p.drop 3) fun bb ab=>(A3 N (cond true (decide (y<((ab:Nat):Int))) false) 1 12 t p (fun ac ad=>(k2 r s (wrap .i64 (o+1)) ac ad)))) (A3 N false 1 12 t p (fun ae af=>(k2 r s (wrap .i64 (o+1)) ae af))))) none) (B4 1 (i.drop 1) fun ag ah=>(Ka N ag ah false b (fun ai=>(A3 N ai 1 11 t p (fun aj ak=>(cond (Nat.ble 4 (i.length)) (QK N (i.take 4) b aj ak (fun al am=>(k0 e (wrap .i64 (r+1)) al am))) none)))))))
def N8 (k0:Int→Int→Bool→LA→O R) (r0:Bool→LA→O R) (c:LA) (f:Nat) (b:Bool) (e:Int) (u:LA) (q:Nat) (i d:LA):Nat→Int→Int→Int→Bool→LA→O R
 | 0,_,_,_,_,_=>none
 | n+1,r,s,o,t,p=>(Vs N k0 r0 c f b e u q i d (N8 k0 r0 c f b e u q i d n) r s o t p)
def Vt (N:Nat) (k0:Int→Int→Bool→LA→O R) (r0:Bool→LA→O R) (c:LA) (f:Nat) (b:Bool) (e:Int) (d:LA) (q2:LA→Nat→Int→Int→Int→Bool→LA→O R) (x:Int) (w:Bool) (v i:LA):O R :=
 (As .i64 (v.drop 11) fun an=>(cond (an != 0) (r0 w v) (B4 1 (i.drop 1) fun u q=>(q2 u q x ((q:Nat):Int) 0 w v))))
def Si (k0:Int→Int→Bool→LA→O R) (r0:Bool→LA→O R) (c:LA) (f:Nat) (b:Bool) (e:Int) (d:LA) (x:Int) (w:Bool) (v i:LA):O R:=(Vt N k0 r0 c f b e d (fun u q r s o t p=>(N8 N k0 r0 c f b e u q i d N r s o t p)) x w v i)
def Qb (r0:Bool→LA→O R) (c:LA) (f:Nat) (b:Bool) (d:LA) (k0:Int→Int→Bool→LA→O R) (q1:Int→Bool→LA→LA→O R) (e g:Int) (l:Bool) (m:LA):O R :=
 (cond (decide (g<e)) (cond (Ae g f) (cond (Nat.ble 4 ((c.drop ((g.toNat)*4)).length)) (cond ((Nat.beq 0 0)&&((Nat.beq (((c.drop ((g.toNat)*4)).take 4).length) 4)&&(Nat.beq 4 4))) (XQ N 6 g l m (fun ao ap=>(Wb ((c.drop ((g.toNat)*4)).take 4) fun aq=>(Xu N aq ao ap (fun z aa=>(B4 1 (((c.drop ((g.toNat)*4)).take 4).drop 1) fun bc ar=>(cond ((((ar:Nat):Int)==1)==false) (B4 1 (((c.drop ((g.toNat)*4)).take 4).drop 1) fun bd au=>(A3 N (cond false true (((au:Nat):Int)==2)) 1 4 z aa (fun av aw=>(q1 g av aw ((c.drop ((g.toNat)*4)).take 4))))) (A3 N true 1 4 z aa (fun ax ay=>(q1 g ax ay ((c.drop ((g.toNat)*4)).take 4))))))))))) none) none) none) (r0 l m))
def E2 (r0:Bool→LA→O R) (c:LA) (f:Nat) (b:Bool) (d:LA):Nat→Int→Int→Bool→LA→O R
 | 0,_,_,_,_=>none
 | n+1,e,g,l,m=>(Qb N r0 c f b d (E2 r0 c f b d n) (fun x w v i=>(Si N (E2 r0 c f b d n) r0 c f b e d x w v i)) e g l m)
def LL (N:Nat) (r0:Bool→LA→O R) (q0:LA→Nat→Int→Int→Bool→LA→O R) (b:Bool) (d:LA):O R :=
 (B4 4 (d.drop 7) fun c f=>(q0 c f ((f:Nat):Int) 0 b d))
def Tt:=(Ah (fun (N:Nat) (b:Bool) (d:LA) (r0:Bool→LA→O R)=>(LL N r0 (fun c f e g l m=>(E2 N r0 c f b d N e g l m)) b d))).1
theorem eD (b d r0):(@Tt R N b d r0)=(LL N r0 (fun c f e g l m=>(E2 N r0 c f b d N e g l m)) b d):=by rw[Tt,(Ah _).2]
def jt:Hints:={ H:=(hS hL (hS hL (hS (hP [1,10,11,12] (hS hL (hS hL (hS (hS (hS hL (hS hL (hS hL (hJ [1,3,10,11,12] hL (hS hL (hS (hS hL (hS (hP [1,3,10,11,12,43,44,45] hL) hL)) hL)))))) hL) hL)))) hL))) }
def pZ:Gm:=[(233,AM N),(237,Ahe N),(236,De N),(248,BM N),(249,Atu N)]
def MU (F:KF R):=Ko Tryz.f177 jt (pZ N) [100000] N F
def E3 (F:KF R):Bool→LA→O R:=(fun az ba=>F (.tup []) [(100000,(bP az 0 ba))])
def Ahg (c:LA) (f:Nat) (b:Bool) (e:Int) (u:LA) (q:Nat) (i d:LA) (r s o:Int) (t:Bool) (p:LA):St:=⟨[(1,(op 0)),(3,(op 1)),(10,(.imm c f 4 false b)),(11,(iv e)),(12,(iv r)),(43,(.imm u q 1 false b)),(44,(iv s)),(45,(iv o))],[(100000,(bP t 0 p)),(300000,(bN 0 [(.optr 100000 0)])),(300001,(bP b 0 i))]⟩
def Ahh (F:KF R) (Q0:St→O R):=MU N F [1,1,0,0,1,1,0,0,1,1,1,1,1,0,1,0] [Q0]
def Ahi (c:LA) (f:Nat) (b:Bool) (e:Int) (d:LA) (x:Int) (w:Bool) (v i:LA):St:=⟨[(1,(op 0)),(3,(op 1)),(10,(.imm c f 4 false b)),(11,(iv e)),(12,(iv x))],[(100000,(bP w 0 v)),(300000,(bN 0 [(.optr 100000 0)])),(300001,(bP b 0 i))]⟩
def Ahj (F:KF R) (Q0:St→O R):=MU N F [1,1,0,0,1,1,0,0,1,1,1,1] [Q0]
def Sj (c:LA) (f:Nat) (b:Bool) (d:LA) (e g:Int) (l:Bool) (m:LA):St:=⟨[(1,(op 0)),(10,(.imm c f 4 false b)),(11,(iv e)),(12,(iv g))],[(100000,(bP l 0 m)),(300000,(bN 0 [(.optr 100000 0)]))]⟩
def ju (F:KF R):=MU N F [1,1,0] []
theorem QL (Q0:St→O R) (F:KF R) (c:LA) (f:Nat) (b:Bool) (e:Int) (u:LA) (q:Nat) (i d:LA):∀ (n:Nat) (r s o:Int) (t:Bool) (p:LA),Aj (Ahh N F Q0) n (Ahg c f b e u q i d r s o t p)=(N8 N (fun e g l m=>Q0 (Sj c f b d e g l m)) (E3 F) c f b e u q i d n r s o t p)
 | 0,_,_,_,_,_=>by kernel_rfl
 | n+1,r,s,o,t,p=>Eq.trans (by kernel_rfl) (Bu (Vs N (fun e g l m=>Q0 (Sj c f b d e g l m)) (E3 F) c f b e u q i d · r s o t p) (funext fun r=>funext fun s=>funext fun o=>funext fun t=>funext fun p=>(QL Q0 F c f b e u q i d n r s o t p)):_)
theorem s6 (Q0:St→O R) (F:KF R) (c:LA) (f:Nat) (b:Bool) (e:Int) (d:LA):∀ (x:Int) (w:Bool) (v i:LA),B9 (Ahj N F Q0) (Ahi c f b e d x w v i)=(Si N (fun e g l m=>Q0 (Sj c f b d e g l m)) (E3 F) c f b e d x w v i):=by
 intro x w v i
 exact Eq.trans (by kernel_rfl) (Bu (Vt N (fun e g l m=>Q0 (Sj c f b d e g l m)) (E3 F) c f b e d · x w v i) (funext fun u=>funext fun q=>funext fun r=>funext fun s=>funext fun o=>funext fun t=>funext fun p=>(Ad ..).trans (QL N Q0 F c f b e u q i d N r s o t p)):_)
theorem QM (F:KF R) (c:LA) (f:Nat) (b:Bool) (d:LA):∀ (n:Nat) (e g:Int) (l:Bool) (m:LA),Aj (ju N F) n (Sj c f b d e g l m)=(E2 N (E3 F) c f b d n e g l m)
 | 0,_,_,_,_=>by kernel_rfl
 | n+1,e,g,l,m=>have e0:=(funext fun e=>funext fun g=>funext fun l=>funext fun m=>(QM F c f b d n e g l m))
  Eq.trans (by kernel_rfl) (NY (Qb N (E3 F) c f b d · · e g l m) e0 (funext fun x=>funext fun w=>funext fun v=>funext fun i=>(A4 ..).trans ((s6 N (Aj (ju N F) n) F c f b e d x w v i).trans (Bu (Si N · (E3 F) c f b e d x w v i) e0))):_)
theorem jv (b:Bool) (d:LA) (F:KF R):C2 (pZ N) jt N 177 [(.optr 100000 0)] [(100000,(bP b 0 d))] F=(Tt N b d (E3 F)):=by
 rw[eD]
 exact Eq.trans (by kernel_rfl) (Bu (LL N (E3 F) · b d) (funext fun c=>funext fun f=>funext fun e=>funext fun g=>funext fun l=>funext fun m=>(Ad ..).trans (QM N F c f b d N e g l m)):_)
def eE (a:LA) (h:Ai) (k:KF R):O R :=
 match a,h with
 | [(.optr 100000 0)],[(100000,⟨false,false,true,b,0,d,false,none⟩)]=>(Tt N b d (E3 k))
 | _,_=>none
theorem jw:Am N 177 @eE:=by
 intro R Q a h k j;unfold eE;split;exact Az (jv ..) (jv ..) ⟨AN N,Ahf N,Df N,BN N,Atv N,trivial⟩;exact A2
def Ahk:=A1 (jw N)
def Ahl:=C5 (jw N)
def Fy (N:Nat) (r0:Int→O R) (c:LA) (b:Nat) (e f:Bool) (d:Int) (k0:Int→Int→O R) (i g:Int):O R :=
 (cond (decide (g<i)) (cond (Ae g b) (As .i64 (c.drop ((g.toNat)*1)) fun l=>(cond (d==l) (r0 g) (k0 i (wrap .i64 (g+1))))) none) (r0 (-1)))
def Cc (r0:Int→O R) (c:LA) (b:Nat) (e f:Bool) (d:Int):Nat→Int→Int→O R
 | 0,_,_=>none
 | n+1,i,g=>(Fy N r0 c b e f d (Cc r0 c b e f d n) i g)
def Hu (N:Nat) (r0:Int→O R) (q0:Int→Int→O R) (c:LA) (b:Nat) (e f:Bool) (d:Int):O R :=
 (q0 ((b:Nat):Int) 0)
def F3:=(Ah (fun (N:Nat) (c:LA) (b:Nat) (e f:Bool) (d:Int) (r0:Int→O R)=>(Hu N r0 (fun i g=>(Cc N r0 c b e f d N i g)) c b e f d))).1
theorem Rg (c b e f d r0):(@F3 R N c b e f d r0)=(Hu N r0 (fun i g=>(Cc N r0 c b e f d N i g)) c b e f d):=by rw[F3,(Ah _).2]
def MV (F:KF R):=Ko Tryz.f303 iQ [] [] N F
def Ef (F:KF R):Int→O R:=(fun m=>F (iv m) [])
def MW (c:LA) (b:Nat) (e f:Bool) (d i g:Int):St:=⟨[(0,(.imm c b 1 e f)),(1,(iv d)),(7,(iv i)),(8,(iv g))],[]⟩
def MX (F:KF R):=MV N F [1,0,1,0] []
theorem Ow (F:KF R) (c:LA) (b:Nat) (e f:Bool) (d:Int):∀ (n:Nat) (i g:Int),Aj (MX N F) n (MW c b e f d i g)=(Cc N (Ef F) c b e f d n i g)
 | 0,_,_=>by kernel_rfl
 | n+1,i,g=>Eq.trans (by kernel_rfl) (Bu (Fy N (Ef F) c b e f d · i g) (funext fun i=>funext fun g=>(Ow F c b e f d n i g)):_)
theorem Sk (c:LA) (b:Nat) (e f:Bool) (d:Int) (F:KF R):C2 [] iQ N 303 [(.imm c b 1 e f),(iv d)] [] F=(F3 N c b e f d (Ef F)):=by
 rw[Rg]
 exact Eq.trans (by kernel_rfl) (Bu (Hu N (Ef F) · c b e f d) (funext fun i=>funext fun g=>(Ad ..).trans (Ow N F c b e f d N i g)):_)
def Rh (a:LA) (h:Ai) (k:KF R):O R :=
 match a,h with
 | [(.imm c b 1 e f),(.int .i64 d)],[]=>(F3 N c b e f d (Ef k))
 | _,_=>none
theorem Sm:Am N 303 @Rh:=by
 intro R Q a h k j;unfold Rh;split;exact Az (Sk ..) (Sk ..) trivial;exact A2
def MY:=A1 (Sm N)
def MZ:=C5 (Sm N)
def Jn (b:LA) (c:Nat) (f d:Bool) (e:Int) (r0:Bool→O R):O R :=
 (F3 N b c false d e (fun g=>(r0 (decide (g≥0)))))
def Db:=(Ah (@Jn R)).1
theorem Nt:@Db R=@Jn R:=(Ah _).2
def IA:Gm:=[(303,MY N)]
def Ox (F:KF R):Bool→O R:=(fun i=>F (.bool i) [])
theorem Oy (b:LA) (c:Nat) (f d:Bool) (e:Int) (F:KF R):C2 (IA N) Dc N 285 [(.imm b c 1 f d),(iv e)] [] F=(Db N b c f d e (Ox F)):=by
 rw[Nt]
 kernel_rfl
def Nu (a:LA) (h:Ai) (k:KF R):O R :=
 match a,h with
 | [(.imm b c 1 f d),(.int .i64 e)],[]=>(Db N b c f d e (Ox k))
 | _,_=>none
theorem Oz:Am N 285 @Nu:=by
 intro R Q a h k j;unfold Nu;split;exact Az (Oy ..) (Oy ..) ⟨MZ N,trivial⟩;exact A2
def O0:=A1 (Oz N)
def O1:=C5 (Oz N)
def Y5 (r0:Nat→LA→O R) (b:Int) (f:LA) (g:Nat) (c:Bool) (k0:Nat→Int→Int→LA→O R) (e:Nat) (i d:Int) (l:LA):O R :=
 (cond (decide (d<i)) (cond (Ae d g) (cond (Nat.ble 12 ((f.drop ((d.toNat)*12)).length)) (cond ((Nat.beq 0 0)&&((Nat.beq (((f.drop ((d.toNat)*12)).take 12).length) 12)&&(Nat.beq 12 12))) (B4 1 (((f.drop ((d.toNat)*12)).take 12).drop 11) fun o p=>(Db N o p false c b (fun q=>(cond (!q) (cond ((Nat.ble (e+1) 140737488355328)&&(Nat.ble ((e+1)*8) 140737488355328)) (k0 (e+1) i (wrap .i64 (d+1)) ((l.take (e*1))++[(.int .i64 d)])) none) (k0 e i (wrap .i64 (d+1)) l))))) none) none) none) (r0 e l))
def Nh (r0:Nat→LA→O R) (b:Int) (f:LA) (g:Nat) (c:Bool):Nat→Nat→Int→Int→LA→O R
 | 0,_,_,_,_=>none
 | n+1,e,i,d,l=>(Y5 N r0 b f g c (Nh r0 b f g c n) e i d l)
def UH (N:Nat) (r0:Nat→LA→O R) (q0:LA→Nat→Nat→Int→Int→LA→O R) (m:LA) (c:Bool) (b:Int):O R :=
 (B4 12 (m.drop 3) fun f g=>(q0 f g 0 ((g:Nat):Int) 0 []))
def FM:=(Ah (fun (N:Nat) (m:LA) (c:Bool) (b:Int) (r0:Nat→LA→O R)=>(UH N r0 (fun f g e i d l=>(Nh N r0 b f g c N e i d l)) m c b))).1
theorem jx (m c b r0):(@FM R N m c b r0)=(UH N r0 (fun f g e i d l=>(Nh N r0 b f g c N e i d l)) m c b):=by rw[FM,(Ah _).2]
def p6:Hints:={ H:=(hS hL (hS hL (hS (hS hL (hS (hP [1,5,9,10,11] hL) hL)) hL))),nils:=[(4,1),(5,1)],modes:=[(2,1)] }
def wL:Gm:=[(285,O0 N)]
def An2 (F:KF R):=Ko Tryz.f250 p6 (wL N) [] N F
def Vu (F:KF R):Nat→LA→O R:=(fun r s=>F (.own 300000 0 r) (hq [(bQ 1 s)]))
def An3 (b:Int) (f:LA) (g:Nat) (c:Bool) (e:Nat) (i d:Int) (l:LA):St:=⟨[(1,(iv b)),(5,(.own 300000 0 e)),(9,(.imm f g 12 false c)),(10,(iv i)),(11,(iv d))],(hq [(bQ 1 l)])⟩
def An4 (F:KF R):=An2 N F [1,1,0,1,0] []
theorem YH (F:KF R) (b:Int) (f:LA) (g:Nat) (c:Bool):∀ (n e:Nat) (i d:Int) (l:LA),Aj (An4 N F) n (An3 b f g c e i d l)=(Nh N (Vu F) b f g c n e i d l)
 | 0,_,_,_,_=>by kernel_rfl
 | n+1,e,i,d,l=>Eq.trans (by kernel_rfl) (Bu (Y5 N (Vu F) b f g c · e i d l) (funext fun e=>funext fun i=>funext fun d=>funext fun l=>(YH F b f g c n e i d l)):_)
theorem p7 (m:LA) (c:Bool) (b:Int) (F:KF R):C2 (wL N) p6 N 250 [(.pagg m c),(iv b)] [] F=(FM N m c b (Vu F)):=by
 rw[jx]
 exact Eq.trans (by kernel_rfl) (Bu (UH N (Vu F) · m c b) (funext fun f=>funext fun g=>funext fun e=>funext fun i=>funext fun d=>funext fun l=>(Ad ..).trans (YH N F b f g c N e i d l)):_)
def jy (a:LA) (h:Ai) (k:KF R):O R :=
 match a,h with
 | [(.pagg m c),(.int .i64 b)],[]=>(FM N m c b (Vu k))
 | _,_=>none
theorem p8:Am N 250 @jy:=by
 intro R Q a h k j;unfold jy;split;exact Az (p7 ..) (p7 ..) ⟨O1 N,trivial⟩;exact A2
def An5:=A1 (p8 N)
def An6:=C5 (p8 N)
def G8 (N:Nat) (r0:O R) (b:Int) (k0:O R):O R :=
 r0
def Di (r0:O R) (b:Int):Nat→O R
 | 0=>none
 | n+1=>(G8 N r0 b (Di r0 b n))
def Fz (N:Nat) (r0:O R) (q0:O R) (b:Int):O R :=
 q0
def Eg:=(Ah (fun (N:Nat) (b:Int) (r0:O R)=>(Fz N r0 (Di N r0 b N) b))).1
theorem Nv (b r0):(@Eg R N b r0)=(Fz N r0 (Di N r0 b N) b):=by rw[Eg,(Ah _).2]
def EF (F:KF R):=Ko Tryz.f303 iQ [] [] N F
def Dj (F:KF R):O R:=F (iv (-1)) []
def EG (b:Int):St:=⟨[(0,.nsl),(1,(iv b)),(7,(iv 0)),(8,(iv 0))],[]⟩
def EH (F:KF R):=EF N F [1,0,1,0] []
theorem Lu (F:KF R) (b:Int):∀ (n:Nat) ,Aj (EH N F) n (EG b)=(Di N (Dj F) b n)
 | 0=>by kernel_rfl
 | n+1=>Eq.trans (by kernel_rfl) (Bu (G8 N (Dj F) b ·) (Lu F b n):_)
theorem O2 (b:Int) (F:KF R):C2 [] iQ N 303 [.nsl,(iv b)] [] F=(Eg N b (Dj F)):=by
 rw[Nv]
 exact Eq.trans (by kernel_rfl) (Bu (Fz N (Dj F) · b) ((Ad ..).trans (Lu N F b N)):_)
def Nw (a:LA) (h:Ai) (k:KF R):O R :=
 match a,h with
 | [.nsl,(.int .i64 b)],[]=>(Eg N b (Dj k))
 | _,_=>none
theorem O3:Am N 303 @Nw:=by
 intro R Q a h k j;unfold Nw;split;exact Az (O2 ..) (O2 ..) trivial;exact A2
def EI:=A1 (O3 N)
def EJ:=C5 (O3 N)
def G9 (b:Int) (r0:O R):O R :=
 (Eg N b r0)
def Dk:=(Ah (@G9 R)).1
theorem Kz:@Dk R=@G9 R:=(Ah _).2
def AS:Gm:=[(303,EI N)]
def Lv (F:KF R):O R:=F (.bool false) []
theorem Lw (b:Int) (F:KF R):C2 (AS N) Dc N 285 [.nsl,(iv b)] [] F=(Dk N b (Lv F)):=by
 rw[Kz]
 kernel_rfl
def K3 (a:LA) (h:Ai) (k:KF R):O R :=
 match a,h with
 | [.nsl,(.int .i64 b)],[]=>(Dk N b (Lv k))
 | _,_=>none
theorem Lx:Am N 285 @K3:=by
 intro R Q a h k j;unfold K3;split;exact Az (Lw ..) (Lw ..) ⟨EJ N,trivial⟩;exact A2
def Xv:=A1 (Lx N)
def Xw:=C5 (Lx N)
end
end Gx

namespace Gx.Cf
open Go Go.Proofs
section
variable {R:Type}
theorem LM {N:Nat} {l:List Int} {t o:Bool} {K:Bool→O R} (hs:l.length<4611686018427387904):∀ (m j fuel:Nat),j+1+m=l.length→m<fuel →
  Ft N K (Ao l) l.length t o fuel ((j+1:Nat):Int)=K (lh (l.drop j))
 | 0,j,fuel+1,c,_=>by
  rw[Ft];unfold Lt
  rw[Iz (by omega),cf,B7 (by omega),C1 (by omega),TC]
 | m+1,j,fuel+1,c,d=>by
  rw[Ft];unfold Lt
  have h:j+1<l.length:=by omega
  have h':j<l.length:=by omega
  rw[Hh h,ct,Ab h,ct,Z7 h,oQ (by omega),Ab h',ct,Z7 h',Bp (by omega),LM hs m (j+1) fuel (by omega) (by omega),B7 h',B7 h,FI]
  by_cases b:l[j+1]≤l[j]
  ·have:¬ l[j]<l[j+1]:=by omega
   simp[b,this]
  ·have:l[j]<l[j+1]:=by omega
   simp[b,this]
theorem Vv {N:Nat} {l:List Int} {n:Nat} {t o:Bool} {K:Bool→O R} (hn:n=l.length) (hs:Fq l.length N):Ka N (Ao l) n t o K=K (lh l):=by
 subst hn
 rw[P'];unfold Y3
 rcases l with _ | ⟨a,r⟩
 ·have hN:=hs.1
  rcases N with _ | N
  ·simp at hN
  ·dsimp only;rw[Ft];unfold Lt;simp[oP]
 ·have:=LM (R:=R) (N:=N) (t:=t) (o:=o) (K:=K) hs.2 r.length 0 N (by simp;omega) (by have:=hs.1;simp at this;omega)
  simpa using this
theorem Aea {N:Nat} {v:Int} {l:List Int} {t o:Bool} {K:Int→O R} (hs:l.length<4611686018427387904):∀ (m j fuel:Nat),j+m=l.length→m<fuel →
  ∃ r:Int,(decide (r≥0)=(l.drop j).contains v)∧Cc N K (Ao l) l.length t o v fuel (l.length:Int) (j:Int)=K r
 | 0,j,fuel+1,b,_=>by
  rw[Cc];unfold Fy
  rw[Iz (by omega),cf,C1 (by omega)];exact⟨-1,by simp,rfl⟩
 | m+1,j,fuel+1,b,c=>by
  rw[Cc];unfold Fy
  have h:j<l.length:=by omega
  rw[Hh h,ct,Ab h,ct,Z7 h,Bp (by omega),B7 h,List.contains_cons]
  cases d:v==l[j] with
  | true=>exact⟨j,by simp,rfl⟩
  | false=>simpa using Aea hs m (j+1) fuel (by omega) (by omega)
theorem jz {N:Nat} {v:Int} {l:List Int} {n:Nat} {t o:Bool} {K:Bool→O R} (hn:n=l.length) (hs:Fq l.length N):Db N (Ao l) n t o v K=K (l.contains v):=by
 subst hn
 rw[Nt];unfold Jn
 rw[Rg];unfold Hu
 obtain⟨r,b,c⟩:=Aea (R:=R) (N:=N) (v:=v) (t:=false) (o:=o) (K:=fun y1=>K (decide (y1≥0))) hs.2 l.length 0 N (by omega) hs.1
 simp only[List.drop_zero] at b
 rw[←b]
 simpa using c
theorem An7 {N:Nat} {v:Int} {K:O R} (hN:8≤N):Dk N v K=K:=by
 rw[Kz];unfold G9
 rw[Nv];unfold Fz
 rcases N with _ | N
 ·omega
 ·rw[Di];unfold G8;rfl
end
end Gx.Cf

namespace Gx.Cf
open Go Go.Proofs
section
variable {R:Type}
theorem Ly {c:CaseD} {p:C6} {k i:Int} {f:Int→O R}:As .i64 (List.drop 11 (C9 c p k i)) f=f (Bt p):=by
 rcases p with _ | ⟨⟨a,b,d⟩,e,j⟩<;>simp[C9,CaseD.av,N_,A5,Bt]
theorem s7 {c:CaseD} {k i:Int} {f:Int→O R}:As .i64 (List.drop 9 (C9 c none k i)) f=f i:=by simp[C9,CaseD.av,N_,A5]
theorem p9 {c:CaseD} {p:C6} {k i:Int} {f:Int→O R}:As .i64 (C9 c p k i) f=f c.hours:=by simp[C9,CaseD.av,A5]
theorem Ayi {c:CaseD} {p:C6} {k i:Int} {f:LA→Nat→O R}:B4 1 (List.drop 1 (C9 c p k i)) f=f (Ao c.reserve.l) c.reserve.l.length:=by simp[C9,CaseD.av,Ey,Fi]
theorem p_ {c:CaseD} {p:C6} {k i:Int} {f:LA→Nat→O R}:B4 3 (List.drop 2 (C9 c p k i)) f=f (c.buses.l.flatMap BusD.av) c.buses.l.length:=by simp[C9,CaseD.av,Ey]
theorem pa {c:CaseD} {p:C6} {k i:Int} {f:LA→Nat→O R}:B4 12 (List.drop 3 (C9 c p k i)) f=f (c.lines.l.flatMap LineD.av) c.lines.l.length:=by simp[C9,CaseD.av,Ey]
theorem pb {c:CaseD} {p:C6} {k i:Int} {f:LA→Nat→O R}:B4 22 (List.drop 4 (C9 c p k i)) f=f (c.units.l.flatMap UnitD.av) c.units.l.length:=by simp[C9,CaseD.av,Ey]
theorem s8 {c:CaseD} {p:C6} {k i:Int} {f:LA→Nat→O R}:B4 9 (List.drop 5 (C9 c p k i)) f=f (c.stores.l.flatMap StoreD.av) c.stores.l.length:=by simp[C9,CaseD.av,Ey]
theorem An8 {c:CaseD} {p:C6} {k i:Int} {f:LA→Nat→O R}:B4 5 (List.drop 6 (C9 c p k i)) f=f (c.ties.l.flatMap TieD.av) c.ties.l.length:=by simp[C9,CaseD.av,Ey]
theorem yX {c:CaseD} {p:C6} {k i:Int} {f:LA→Nat→O R}:B4 4 (List.drop 7 (C9 c p k i)) f=f (c.outs.l.flatMap OutD.av) c.outs.l.length:=by simp[C9,CaseD.av,Ey]
theorem eF {N:Nat} {c:CaseD} {k i f lo hi:Int} {l:List Int} {t o w:Bool} {K:Bool→LA→O R} (hs:l.length<4611686018427387904):∀ (m j fuel:Nat) (p:C6),j+m=l.length→m<fuel →
  Nd N K f lo hi (Ao l) l.length t o fuel (l.length:Int) (j:Int) w (C9 c p k i)=K w (C9 c (nd p ((l.drop j).all (Fj lo hi)) (k,i,f) ⟨3,by decide⟩) k i)
 | 0,j,fuel+1,p,b,_=>by
  rw[Nd];unfold Y2
  rw[Iz (by omega),cf,C1 (by omega),List.all_nil,Gh]
 | m+1,j,fuel+1,p,b,n=>by
  rw[Nd];unfold Y2
  have h:j<l.length:=by omega
  rw[Hh h,ct,Ab h,ct,Z7 h,Ly,Fe,Bp (by omega),eF hs m (j+1) fuel _ (by omega) (by omega),B7 h,List.all_cons,Rf]
  rcases p with _ | ⟨x,e,d⟩
  ·simp[Bt]
  ·have:(e != 0)=true:=by simpa using d
   simp[Bt,this,nd]
theorem Qc {N:Nat} {c:CaseD} {p:C6} {k i f lo hi:Int} {l:List Int} {n:Nat} {t o w:Bool} {K:Bool→LA→O R} (hn:n=l.length) (hs:Fq l.length N) :
  N7 N f (Ao l) n t o lo hi w (C9 c p k i) K=K w (C9 c (jZ c.hours l lo hi (k,i,f) p) k i):=by
 subst hn
 rw[j_];unfold TV
 rw[p9,Aq (by decide)]
 have:=eF (R:=R) (N:=N) (c:=c) (k:=k) (i:=i) (f:=f) (lo:=lo) (hi:=hi) (t:=t) (o:=o) (w:=w) (K:=K) hs.2 l.length 0 N (nd p ((l.length:Int)==c.hours) (k,i,f) ⟨4,by decide⟩) (by omega) hs.1
 simpa[jZ] using this
theorem pc {N:Nat} {c:CaseD} {k i f:Int} {l:List Int} {t o w w0:Bool} {h0:LA} {K:Bool→LA→O R} (hs:Fq l.length N):∀ (m j fuel:Nat) (p:C6),j+m=l.length→m<fuel →
  Tr N K f (Ao l) l.length t o w0 h0 fuel (l.length:Int) (j:Int) w (C9 c p k i)=K w (C9 c (nd (nd p ((l.drop j).all (Fj 0 (IntKind.wrap .i64 (c.hours - 1)))) (k,i,f) ⟨3,by decide⟩) (lh l) (k,i,f) ⟨11,by decide⟩) k i)
 | 0,j,fuel+1,p,b,_=>by
  rw[Tr];unfold KU
  rw[Iz (by omega),cf,C1 (by omega),List.all_nil,Gh,Vv rfl hs,Aq (by decide)]
 | m+1,j,fuel+1,p,b,q=>by
  rw[Tr];unfold KU
  have h:j<l.length:=by omega
  have d:=hs.2
  rw[Hh h,ct,Ab h,ct,Z7 h,Ly,p9,Fe,Bp (by omega),pc hs m (j+1) fuel _ (by omega) (by omega),B7 h,List.all_cons,Rf]
  rcases p with _ | ⟨x,e,n⟩
  ·simp[Bt]
  ·have:(e != 0)=true:=by simpa using n
   simp[Bt,this,nd]
theorem pd {N:Nat} {c:CaseD} {p:C6} {k i f:Int} {l:List Int} {n:Nat} {t o w:Bool} {K:Bool→LA→O R} (hn:n=l.length) (hs:Fq l.length N) :
  T_ N f (Ao l) n t o w (C9 c p k i) K=K w (C9 c (dB c.hours l (k,i,f) p) k i):=by
 subst hn
 rw[vq];unfold pI
 have:=pc (R:=R) (N:=N) (c:=c) (k:=k) (i:=i) (f:=f) (t:=t) (o:=o) (w:=w) (w0:=w) (h0:=C9 c p k i) (K:=K) hs l.length 0 N p (by omega) hs.1
 simpa[dB] using this
theorem LN {N:Nat} {c:CaseD} {p:C6} {k i f b:Int} {w:Bool} {K:Bool→LA→O R} :
  TZ N f b w (C9 c p k i) K=K w (C9 c (nd p (XF c b) (k,i,f) ⟨12,by decide⟩) k i):=by
 rw[Adi];unfold Anv
 rw[p_,Aq (by decide),Aq (by decide)]
 unfold XF
 cases h:decide (b≥0) with
 | true=>simp at h;simp[h]
 | false=>simp at h;simp[show ¬ 0≤b by omega]
theorem kA {N:Nat} {f:FracD} {o:Bool} {K:Bool→O R}:AQ N [.int .i64 f.num,.int .i64 f.den] o K=K (Jm f):=by
 rw[pG];unfold sZ
 simp only[List.drop_succ_cons,List.drop_zero,A5]
 unfold Jm Fj
 by_cases b:1≤f.den<;>by_cases c:f.den≤1048576<;>by_cases d:-1048576≤f.num<;>simp[b,c,d]
theorem pe {N:Nat} {s:List UInt8} {K:Bool→O R} (hs:s.length<4611686018427387904):∀ (m j fuel:Nat),j+m=s.length→m<fuel →
  Xm N K s fuel (s.length:Int) (j:Int)=K ((s.drop j).all Axh)
 | 0,j,fuel+1,b,_=>by
  rw[Xm];unfold KS
  rw[Iz (by omega),cf,C1 (by omega)];rfl
 | m+1,j,fuel+1,b,k=>by
  rw[Xm];unfold KS
  have h:j<s.length:=by omega
  rw[Hh h,ct,Ab h,ct,Bp (by omega),pe hs m (j+1) fuel (by omega) (by omega),B7 h,List.all_cons,Am7 h]
  unfold Axh sT
  generalize s[j].toNat=v
  generalize (s.drop (j+1)).all _=r
  by_cases c:97≤v<;>by_cases d:v≤122<;>by_cases e:48≤v<;>by_cases f:v≤57<;>by_cases i:v=95 <;>
   simp[c,d,e,f,show((v:Int)<97)↔¬ 97≤v by omega,show((v:Int)<48)↔¬ 48≤v by omega,show((122:Int)<v)↔¬ v≤122 by omega,show((57:Int)<v)↔¬ v≤57 by omega,show((v:Int) != 95)=!decide (v=95) by (by_cases v=95<;>simp_all<;>omega),i]
theorem Rb {N:Nat} {s:List UInt8} {K:Bool→O R} (hN:64≤N):Vn N s K=K (G7 s):=by
 rw[vZ];unfold pA TY dK
 dsimp only
 unfold G7
 by_cases b:1≤s.length
 ·by_cases c:s.length≤16
  ·have d:=pe (R:=R) (N:=N) (s:=s) (K:=K) (by omega) s.length 0 N (by omega) (by omega)
   simp only[List.drop_zero,Int.natCast_zero] at d
   rw[d]
   have h0:Ae 0 s.length=true:=Ab (i:=0) (by omega)
   rw[h0]
   simp only[b,c,show(decide ((s.length:Int)<1))=false by simp;omega,show(decide ((s.length:Int)>16))=false by simp;omega,decide_true,cond_true,cond_false,beq_self_eq_true]
   cases s==[99,111,114,114,101,99,116,105,118,101]
   ·unfold sT
    generalize (List.getD s 0 0).toNat=v
    by_cases e:97≤v<;>by_cases f:v≤122<;>simp[e,f,show((v:Int)<97)↔¬ 97≤v by omega,show((122:Int)<v)↔¬ v≤122 by omega]
   ·simp
  ·simp[b,c,show((s.length:Int)<1)↔¬ 1≤s.length by omega,show((16:Int)<s.length)↔¬ s.length≤16 by omega]
 ·simp[b,show((s.length:Int)<1)↔¬ 1≤s.length by omega]
end
end Gx.Cf

namespace Gx.Cf
open Go Go.Proofs
section
variable {R:Type}
theorem pf {N:Nat} {c:CaseD} {p:C6} {k i:Int} {w:Bool} {j:Nat} {K:List UInt8→O R} (h:j<c.buses.l.length):Vo N (j:Int) w (C9 c p k i) K=K c.buses.l[j].name:=by
 rw[PW];unfold MR
 rw[p_,Ab h,ct,Int.toNat_natCast,Ax Lp _ _ h]
 simp[BusD.av,Et]
theorem pg {N:Nat} {c:CaseD} {k i:Int} {s:List UInt8} {w:Bool} {K:Bool→LA→O R} {n:Nat} (hn:n≤c.buses.l.length) (hs:n<4611686018427387904):∀ (m j fuel:Nat) (p:C6),j+m=n→m<fuel →
  P1 N K s (n:Int) fuel (j:Int) w (C9 c p k i)=K w (C9 c (nd p ((((c.buses.l.map (·.name)).take n).drop j).all fun x=>!(x==s)) (k,i,0) ⟨10,by decide⟩) k i)
 | 0,j,fuel+1,p,b,_=>by
  rw[P1];unfold AO
  rw[Iz (by omega),cf,C1 (by simp;omega),List.all_nil,Gh]
 | m+1,j,fuel+1,p,b,t=>by
  rw[P1];unfold AO
  have h:j<c.buses.l.length:=by omega
  have d:j<((c.buses.l.map (·.name)).take n).length:=by simp;omega
  rw[Hh (by omega),ct,Ly,pf h,Aq (by decide),Bp (by omega),pg hn hs m (j+1) fuel _ (by omega) (by omega),B7 d,List.all_cons,Rf]
  have e:((c.buses.l.map (·.name)).take n)[j]=c.buses.l[j].name:=by simp
  rw[e]
  rcases p with _ | ⟨x,f,q⟩
  ·simp[Bt]
  ·have:(f != 0)=true:=by simpa using q
   simp[Bt,this,nd]
theorem An9 {N:Nat} {c:CaseD} {p:C6} {k:Int} {n:Nat} {s:List UInt8} {w:Bool} {K:Bool→LA→O R} (hN:64≤N) (hn:n≤c.buses.l.length) (hs:Fq n N) :
  gG N s w (C9 c p k (n:Int)) K=K w (C9 c (Hj ((c.buses.l.map (·.name)).take n) k n s p) k n):=by
 rw[v7];unfold pC
 rw[Rb hN,Aq (by decide)]
 unfold Hj
 cases m:nd p (G7 s) (k,(n:Int),0) ⟨9,by decide⟩ with
 | none =>
  rw[s7]
  have:=pg (R:=R) (N:=N) (c:=c) (k:=k) (i:=n) (s:=s) (w:=w) (K:=K) hn hs.2 n 0 N none (by omega) hs.1
  simpa using this
 | some x =>
  obtain⟨⟨a,b,f⟩,e,d⟩:=x
  have j:∀ g:Int→O R,As .i64 (List.drop 9 (C9 c (some ((a,b,f),⟨e,d⟩)) k n)) g=g b:=by intro g;simp[C9,CaseD.av,N_,A5]
  rw[j,SE]
  rcases N with _ | N
  ·omega
  ·dsimp only
   rw[P1];unfold AO
   rw[Ly]
   have:(e != 0)=true:=by simpa using d
   cases decide (0<b)<;>simp[Bt,this]
theorem ph {N:Nat} {c:CaseD} {p:C6} {k i:Int} {w:Bool} {j:Nat} {K:List UInt8→O R} (h:j<c.lines.l.length):Vp N (j:Int) w (C9 c p k i) K=K c.lines.l[j].name:=by
 rw[PY];unfold MS
 rw[pa,Ab h,ct,Int.toNat_natCast,Ax Cd _ _ h]
 simp[LineD.av,Et]
theorem YI {N:Nat} {c:CaseD} {k i:Int} {s:List UInt8} {w:Bool} {K:Bool→LA→O R} {n:Nat} (hn:n≤c.lines.l.length) (hs:n<4611686018427387904):∀ (m j fuel:Nat) (p:C6),j+m=n→m<fuel →
  Hz N K s (n:Int) fuel (j:Int) w (C9 c p k i)=K w (C9 c (nd p ((((c.lines.l.map (·.name)).take n).drop j).all fun x=>!(x==s)) (k,i,0) ⟨10,by decide⟩) k i)
 | 0,j,fuel+1,p,b,_=>by
  rw[Hz];unfold P3
  rw[Iz (by omega),cf,C1 (by simp;omega),List.all_nil,Gh]
 | m+1,j,fuel+1,p,b,t=>by
  rw[Hz];unfold P3
  have h:j<c.lines.l.length:=by omega
  have d:j<((c.lines.l.map (·.name)).take n).length:=by simp;omega
  rw[Hh (by omega),ct,Ly,ph h,Aq (by decide),Bp (by omega),YI hn hs m (j+1) fuel _ (by omega) (by omega),B7 d,List.all_cons,Rf]
  have e:((c.lines.l.map (·.name)).take n)[j]=c.lines.l[j].name:=by simp
  rw[e]
  rcases p with _ | ⟨x,f,q⟩
  ·simp[Bt]
  ·have:(f != 0)=true:=by simpa using q
   simp[Bt,this,nd]
theorem yB {N:Nat} {c:CaseD} {p:C6} {k:Int} {n:Nat} {s:List UInt8} {w:Bool} {K:Bool→LA→O R} (hN:64≤N) (hn:n≤c.lines.l.length) (hs:Fq n N) :
  Xp N s w (C9 c p k (n:Int)) K=K w (C9 c (Hj ((c.lines.l.map (·.name)).take n) k n s p) k n):=by
 rw[dN];unfold KT
 rw[Rb hN,Aq (by decide)]
 unfold Hj
 cases m:nd p (G7 s) (k,(n:Int),0) ⟨9,by decide⟩ with
 | none =>
  rw[s7]
  have:=YI (R:=R) (N:=N) (c:=c) (k:=k) (i:=n) (s:=s) (w:=w) (K:=K) hn hs.2 n 0 N none (by omega) hs.1
  simpa using this
 | some x =>
  obtain⟨⟨a,b,f⟩,e,d⟩:=x
  have j:∀ g:Int→O R,As .i64 (List.drop 9 (C9 c (some ((a,b,f),⟨e,d⟩)) k n)) g=g b:=by intro g;simp[C9,CaseD.av,N_,A5]
  rw[j,SE]
  rcases N with _ | N
  ·omega
  ·dsimp only
   rw[Hz];unfold P3
   rw[Ly]
   have:(e != 0)=true:=by simpa using d
   cases decide (0<b)<;>simp[Bt,this]
theorem pi {N:Nat} {c:CaseD} {p:C6} {k i:Int} {w:Bool} {j:Nat} {K:List UInt8→O R} (h:j<c.units.l.length):Vq N (j:Int) w (C9 c p k i) K=K c.units.l[j].name:=by
 rw[QB];unfold MT
 rw[pb,Ab h,ct,Int.toNat_natCast,Ax Dn _ _ h]
 simp[UnitD.av,Et]
theorem YJ {N:Nat} {c:CaseD} {k i:Int} {s:List UInt8} {w:Bool} {K:Bool→LA→O R} {n:Nat} (hn:n≤c.units.l.length) (hs:n<4611686018427387904):∀ (m j fuel:Nat) (p:C6),j+m=n→m<fuel →
  H0 N K s (n:Int) fuel (j:Int) w (C9 c p k i)=K w (C9 c (nd p ((((c.units.l.map (·.name)).take n).drop j).all fun x=>!(x==s)) (k,i,0) ⟨10,by decide⟩) k i)
 | 0,j,fuel+1,p,b,_=>by
  rw[H0];unfold P4
  rw[Iz (by omega),cf,C1 (by simp;omega),List.all_nil,Gh]
 | m+1,j,fuel+1,p,b,t=>by
  rw[H0];unfold P4
  have h:j<c.units.l.length:=by omega
  have d:j<((c.units.l.map (·.name)).take n).length:=by simp;omega
  rw[Hh (by omega),ct,Ly,pi h,Aq (by decide),Bp (by omega),YJ hn hs m (j+1) fuel _ (by omega) (by omega),B7 d,List.all_cons,Rf]
  have e:((c.units.l.map (·.name)).take n)[j]=c.units.l[j].name:=by simp
  rw[e]
  rcases p with _ | ⟨x,f,q⟩
  ·simp[Bt]
  ·have:(f != 0)=true:=by simpa using q
   simp[Bt,this,nd]
theorem yC {N:Nat} {c:CaseD} {p:C6} {k:Int} {n:Nat} {s:List UInt8} {w:Bool} {K:Bool→LA→O R} (hN:64≤N) (hn:n≤c.units.l.length) (hs:Fq n N) :
  Xq N s w (C9 c p k (n:Int)) K=K w (C9 c (Hj ((c.units.l.map (·.name)).take n) k n s p) k n):=by
 rw[dS];unfold KX
 rw[Rb hN,Aq (by decide)]
 unfold Hj
 cases m:nd p (G7 s) (k,(n:Int),0) ⟨9,by decide⟩ with
 | none =>
  rw[s7]
  have:=YJ (R:=R) (N:=N) (c:=c) (k:=k) (i:=n) (s:=s) (w:=w) (K:=K) hn hs.2 n 0 N none (by omega) hs.1
  simpa using this
 | some x =>
  obtain⟨⟨a,b,f⟩,e,d⟩:=x
  have j:∀ g:Int→O R,As .i64 (List.drop 9 (C9 c (some ((a,b,f),⟨e,d⟩)) k n)) g=g b:=by intro g;simp[C9,CaseD.av,N_,A5]
  rw[j,SE]
  rcases N with _ | N
  ·omega
  ·dsimp only
   rw[H0];unfold P4
   rw[Ly]
   have:(e != 0)=true:=by simpa using d
   cases decide (0<b)<;>simp[Bt,this]
theorem lx {N:Nat} {c:CaseD} {p:C6} {k i:Int} {w:Bool} {j:Nat} {K:List UInt8→O R} (h:j<c.stores.l.length):Se N (j:Int) w (C9 c p k i) K=K c.stores.l[j].name:=by
 rw[LB];unfold HY
 rw[s8,Ab h,ct,Int.toNat_natCast,Ax F9 _ _ h]
 simp[StoreD.av,Et]
theorem YK {N:Nat} {c:CaseD} {k i:Int} {s:List UInt8} {w:Bool} {K:Bool→LA→O R} {n:Nat} (hn:n≤c.stores.l.length) (hs:n<4611686018427387904):∀ (m j fuel:Nat) (p:C6),j+m=n→m<fuel →
  H1 N K s (n:Int) fuel (j:Int) w (C9 c p k i)=K w (C9 c (nd p ((((c.stores.l.map (·.name)).take n).drop j).all fun x=>!(x==s)) (k,i,0) ⟨10,by decide⟩) k i)
 | 0,j,fuel+1,p,b,_=>by
  rw[H1];unfold P6
  rw[Iz (by omega),cf,C1 (by simp;omega),List.all_nil,Gh]
 | m+1,j,fuel+1,p,b,t=>by
  rw[H1];unfold P6
  have h:j<c.stores.l.length:=by omega
  have d:j<((c.stores.l.map (·.name)).take n).length:=by simp;omega
  rw[Hh (by omega),ct,Ly,lx h,Aq (by decide),Bp (by omega),YK hn hs m (j+1) fuel _ (by omega) (by omega),B7 d,List.all_cons,Rf]
  have e:((c.stores.l.map (·.name)).take n)[j]=c.stores.l[j].name:=by simp
  rw[e]
  rcases p with _ | ⟨x,f,q⟩
  ·simp[Bt]
  ·have:(f != 0)=true:=by simpa using q
   simp[Bt,this,nd]
theorem yD {N:Nat} {c:CaseD} {p:C6} {k:Int} {n:Nat} {s:List UInt8} {w:Bool} {K:Bool→LA→O R} (hN:64≤N) (hn:n≤c.stores.l.length) (hs:Fq n N) :
  Xr N s w (C9 c p k (n:Int)) K=K w (C9 c (Hj ((c.stores.l.map (·.name)).take n) k n s p) k n):=by
 rw[d4];unfold LD
 rw[Rb hN,Aq (by decide)]
 unfold Hj
 cases m:nd p (G7 s) (k,(n:Int),0) ⟨9,by decide⟩ with
 | none =>
  rw[s7]
  have:=YK (R:=R) (N:=N) (c:=c) (k:=k) (i:=n) (s:=s) (w:=w) (K:=K) hn hs.2 n 0 N none (by omega) hs.1
  simpa using this
 | some x =>
  obtain⟨⟨a,b,f⟩,e,d⟩:=x
  have j:∀ g:Int→O R,As .i64 (List.drop 9 (C9 c (some ((a,b,f),⟨e,d⟩)) k n)) g=g b:=by intro g;simp[C9,CaseD.av,N_,A5]
  rw[j,SE]
  rcases N with _ | N
  ·omega
  ·dsimp only
   rw[H1];unfold P6
   rw[Ly]
   have:(e != 0)=true:=by simpa using d
   cases decide (0<b)<;>simp[Bt,this]
theorem s9 {N:Nat} {c:CaseD} {p:C6} {k i:Int} {w:Bool} {j:Nat} {K:List UInt8→O R} (h:j<c.ties.l.length):AR N (j:Int) w (C9 c p k i) K=K c.ties.l[j].name:=by
 rw[YF];unfold UE
 rw[An8,Ab h,ct,Int.toNat_natCast,Ax Lq _ _ h]
 simp[TieD.av,Et]
theorem YL {N:Nat} {c:CaseD} {k i:Int} {s:List UInt8} {w:Bool} {K:Bool→LA→O R} {n:Nat} (hn:n≤c.ties.l.length) (hs:n<4611686018427387904):∀ (m j fuel:Nat) (p:C6),j+m=n→m<fuel →
  H2 N K s (n:Int) fuel (j:Int) w (C9 c p k i)=K w (C9 c (nd p ((((c.ties.l.map (·.name)).take n).drop j).all fun x=>!(x==s)) (k,i,0) ⟨10,by decide⟩) k i)
 | 0,j,fuel+1,p,b,_=>by
  rw[H2];unfold P7
  rw[Iz (by omega),cf,C1 (by simp;omega),List.all_nil,Gh]
 | m+1,j,fuel+1,p,b,t=>by
  rw[H2];unfold P7
  have h:j<c.ties.l.length:=by omega
  have d:j<((c.ties.l.map (·.name)).take n).length:=by simp;omega
  rw[Hh (by omega),ct,Ly,s9 h,Aq (by decide),Bp (by omega),YL hn hs m (j+1) fuel _ (by omega) (by omega),B7 d,List.all_cons,Rf]
  have e:((c.ties.l.map (·.name)).take n)[j]=c.ties.l[j].name:=by simp
  rw[e]
  rcases p with _ | ⟨x,f,q⟩
  ·simp[Bt]
  ·have:(f != 0)=true:=by simpa using q
   simp[Bt,this,nd]
theorem yE {N:Nat} {c:CaseD} {p:C6} {k:Int} {n:Nat} {s:List UInt8} {w:Bool} {K:Bool→LA→O R} (hN:64≤N) (hn:n≤c.ties.l.length) (hs:Fq n N) :
  Xt N s w (C9 c p k (n:Int)) K=K w (C9 c (Hj ((c.ties.l.map (·.name)).take n) k n s p) k n):=by
 rw[d9];unfold LE
 rw[Rb hN,Aq (by decide)]
 unfold Hj
 cases m:nd p (G7 s) (k,(n:Int),0) ⟨9,by decide⟩ with
 | none =>
  rw[s7]
  have:=YL (R:=R) (N:=N) (c:=c) (k:=k) (i:=n) (s:=s) (w:=w) (K:=K) hn hs.2 n 0 N none (by omega) hs.1
  simpa using this
 | some x =>
  obtain⟨⟨a,b,f⟩,e,d⟩:=x
  have j:∀ g:Int→O R,As .i64 (List.drop 9 (C9 c (some ((a,b,f),⟨e,d⟩)) k n)) g=g b:=by intro g;simp[C9,CaseD.av,N_,A5]
  rw[j,SE]
  rcases N with _ | N
  ·omega
  ·dsimp only
   rw[H2];unfold P7
   rw[Ly]
   have:(e != 0)=true:=by simpa using d
   cases decide (0<b)<;>simp[Bt,this]
theorem hU {N:Nat} {c:CaseD} {p:C6} {k i:Int} {w:Bool} {j:Nat} {K:List UInt8→O R} (h:j<c.outs.l.length):P8 N (j:Int) w (C9 c p k i) K=K c.outs.l[j].name:=by
 rw[H_];unfold BO
 rw[yX,Ab h,ct,Int.toNat_natCast,Ax Dg _ _ h]
 simp[OutD.av,Et]
theorem YM {N:Nat} {c:CaseD} {k i:Int} {s:List UInt8} {w:Bool} {K:Bool→LA→O R} {n:Nat} (hn:n≤c.outs.l.length) (hs:n<4611686018427387904):∀ (m j fuel:Nat) (p:C6),j+m=n→m<fuel →
  H3 N K s (n:Int) fuel (j:Int) w (C9 c p k i)=K w (C9 c (nd p ((((c.outs.l.map (·.name)).take n).drop j).all fun x=>!(x==s)) (k,i,0) ⟨10,by decide⟩) k i)
 | 0,j,fuel+1,p,b,_=>by
  rw[H3];unfold P9
  rw[Iz (by omega),cf,C1 (by simp;omega),List.all_nil,Gh]
 | m+1,j,fuel+1,p,b,t=>by
  rw[H3];unfold P9
  have h:j<c.outs.l.length:=by omega
  have d:j<((c.outs.l.map (·.name)).take n).length:=by simp;omega
  rw[Hh (by omega),ct,Ly,hU h,Aq (by decide),Bp (by omega),YM hn hs m (j+1) fuel _ (by omega) (by omega),B7 d,List.all_cons,Rf]
  have e:((c.outs.l.map (·.name)).take n)[j]=c.outs.l[j].name:=by simp
  rw[e]
  rcases p with _ | ⟨x,f,q⟩
  ·simp[Bt]
  ·have:(f != 0)=true:=by simpa using q
   simp[Bt,this,nd]
theorem YN {N:Nat} {c:CaseD} {p:C6} {k:Int} {n:Nat} {s:List UInt8} {w:Bool} {K:Bool→LA→O R} (hN:64≤N) (hn:n≤c.outs.l.length) (hs:Fq n N) :
  Xu N s w (C9 c p k (n:Int)) K=K w (C9 c (Hj ((c.outs.l.map (·.name)).take n) k n s p) k n):=by
 rw[dx];unfold LJ
 rw[Rb hN,Aq (by decide)]
 unfold Hj
 cases m:nd p (G7 s) (k,(n:Int),0) ⟨9,by decide⟩ with
 | none =>
  rw[s7]
  have:=YM (R:=R) (N:=N) (c:=c) (k:=k) (i:=n) (s:=s) (w:=w) (K:=K) hn hs.2 n 0 N none (by omega) hs.1
  simpa using this
 | some x =>
  obtain⟨⟨a,b,f⟩,e,d⟩:=x
  have j:∀ g:Int→O R,As .i64 (List.drop 9 (C9 c (some ((a,b,f),⟨e,d⟩)) k n)) g=g b:=by intro g;simp[C9,CaseD.av,N_,A5]
  rw[j,SE]
  rcases N with _ | N
  ·omega
  ·dsimp only
   rw[H3];unfold P9
   rw[Ly]
   have:(e != 0)=true:=by simpa using d
   cases decide (0<b)<;>simp[Bt,this]
end
end Gx.Cf

namespace Gx.Cf
open Go Go.Proofs
section
variable {R:Type}
theorem Ahm {N:Nat} {c:CaseD} {p:C6} {k i:Int} {w:Bool} {K:Bool→LA→O R} (hs:Small c N):HR N w (C9 c p k i) K=K w (C9 c (dC c p) 0 0):=by
 rw[ov];unfold gF KQ
 simp only[Nf,p9,Fe,Ayi,Qc rfl hs.res,p_,pa,pb,s8,An8,yX,Aq (show(8:Int)≠0 by decide)]
 unfold dC
 cases h:decide (((c.buses.l.length:Nat):Int)≥1) with
 | true=>simp only[beq_self_eq_true,cond_true];simp only[Fj];simp at h;simp[show(1:Int)≤(c.buses.l.length:Int) by omega]
 | false=>simp only[Fj];simp at h;simp[show ¬ ((1:Int)≤(c.buses.l.length:Int)) by simp;omega]
theorem kC {N:Nat} {c:CaseD} {w w0:Bool} (hs:Small c N):∀ (m j fuel:Nat) (p:C6) (k i:Int),j+m=c.buses.l.length→m<fuel →
  ∃ e f:Int,∀ K:Bool→LA→O R,P2 N K (c.buses.l.flatMap BusD.av) c.buses.l.length w0 fuel (c.buses.l.length:Int) (j:Int) w (C9 c p k i)=K w (C9 c (Bj (sU c) (c.buses.l.drop j) j p) e f)
 | 0,j,fuel+1,p,k,i,q,_=>by
  refine⟨k,i,fun K=>?_⟩
  rw[P2];unfold D_
  rw[Iz (by omega),cf,C1 (by omega),Bj]
 | m+1,j,fuel+1,p,k,i,q,y=>by
  have h:j<c.buses.l.length:=by omega
  have hN:=hs.n64
  have d:=hs.bus
  obtain⟨e,f,s⟩:=kC (w:=w) (w0:=w0) hs m (j+1) fuel (sU c j c.buses.l[j] p) 1 j (by omega) (by omega)
  refine⟨e,f,fun K=>?_⟩
  rw[P2];unfold D_ 
  rw[Hh h,ct,Ab h,ct,Int.toNat_natCast,Ax Lp _ _ h,B7 h,Bj,←s K]
  have t:c.buses.l[j] ∈ c.buses.l:=List.getElem_mem h
  have u:=hs.dem _ t
  have n:=@An9 R N c
  generalize c.buses.l[j]=b at *
  have v:Nat.ble 3 (List.length (b.av++List.flatMap BusD.av (List.drop (j+1) c.buses.l)))=true:=by rw[Bq,List.length_append,Lp];simp
  have x:List.take 3 (b.av++List.flatMap BusD.av (List.drop (j+1) c.buses.l))=b.av:=List.take_left' (Lp b)
  rw[v,ct,x,Lp]
  simp only[BusD.av,List.drop_succ_cons,List.drop_zero,Et,A5,Ey,Fi,IJ,decide_true,Bool.and_true,cond_true,Nf,Bp (show j<4611686018427387904 by have:=d.2;omega)]
  simp only[n hN (show j≤_ by omega) ⟨by have:=d.1;omega,by have:=d.2;omega⟩,Qc rfl u,Fe]
  rfl
theorem Ahn {N:Nat} {c:CaseD} {p:C6} {k i:Int} {w:Bool} (hs:Small c N):∃ b d:Int,∀ K:Bool→LA→O R,HT N w (C9 c p k i) K=K w (C9 c (Bj (sU c) c.buses.l 0 p) b d):=by
 obtain⟨b,d,h⟩:=kC (R:=R) (w:=w) (w0:=w) hs c.buses.l.length 0 N p k i (by omega) hs.bus.1
 refine⟨b,d,fun K=>?_⟩
 rw[pD];unfold gH
 rw[p_]
 simpa using h K
theorem kD {N:Nat} {c:CaseD} {w w0:Bool} {h0:LA} (hs:Small c N):∀ (m j fuel:Nat) (p:C6) (k i:Int),j+m=c.lines.l.length→m<fuel →
  ∃ e f:Int,∀ K:Bool→LA→O R,Mb N K (c.lines.l.flatMap LineD.av) c.lines.l.length w0 h0 fuel (c.lines.l.length:Int) (j:Int) w (C9 c p k i)=K w (C9 c (Bj (CN c) (c.lines.l.drop j) j p) e f)
 | 0,j,fuel+1,p,k,i,q,_=>by
  refine⟨k,i,fun K=>?_⟩
  rw[Mb];unfold EA
  rw[Iz (by omega),cf,C1 (by omega),Bj]
 | m+1,j,fuel+1,p,k,i,q,y=>by
  have h:j<c.lines.l.length:=by omega
  have hN:=hs.n64
  have d:=hs.lin
  obtain⟨e,f,s⟩:=kD (w:=w) (w0:=w0) (h0:=h0) hs m (j+1) fuel (CN c j c.lines.l[j] p) 2 j (by omega) (by omega)
  refine⟨e,f,fun K=>?_⟩
  rw[Mb];unfold EA KV UA dQ T' dP
  rw[Hh h,ct,Ab h,ct,Int.toNat_natCast,Ax Cd _ _ h,B7 h,Bj,←s K]
  have t:c.lines.l[j] ∈ c.lines.l:=List.getElem_mem h
  have u:=hs.law _ t
  have n:=@yB R N c
  generalize c.lines.l[j]=b at *
  have v:Nat.ble 12 (List.length (b.av++List.flatMap LineD.av (List.drop (j+1) c.lines.l)))=true:=by rw[Bq,List.length_append,Cd];simp
  have x:List.take 12 (b.av++List.flatMap LineD.av (List.drop (j+1) c.lines.l))=b.av:=List.take_left' (Cd b)
  rw[v,ct,x,Cd]
  simp only[LineD.av,List.drop_succ_cons,List.drop_zero,List.take_succ_cons,List.take_zero,List.length_cons,List.length_nil,Et,A5,Ey,Fi,Bq,IJ,A0,Nat.reduceAdd,Nat.reduceLeDiff,decide_true,Bool.and_true,Bool.or_true,cond_true,Nat.zero_add,Nf,Bp (show j<4611686018427387904 by have:=d.2;omega)]
  simp only[n hN (show j≤_ by omega) ⟨by have:=d.1;omega,by have:=d.2;omega⟩,LN,Fe,pd rfl u,kA,Aq (show(1:Int)≠0 by decide),Aq (show(3:Int)≠0 by decide)]
  unfold CN;cases Jm b.re<;>cases Jm b.smin<;>cases Jm b.smax<;>rfl
theorem Aho {N:Nat} {c:CaseD} {p:C6} {k i:Int} {w:Bool} (hs:Small c N):∃ b d:Int,∀ K:Bool→LA→O R,HW N w (C9 c p k i) K=K w (C9 c (Bj (CN c) c.lines.l 0 p) b d):=by
 obtain⟨b,d,h⟩:=kD (R:=R) (w:=w) (w0:=w) (h0:=C9 c p k i) hs c.lines.l.length 0 N p k i (by omega) hs.lin.1
 refine⟨b,d,fun K=>?_⟩
 rw[pJ];unfold gK
 rw[pa]
 simpa using h K
theorem eG {N:Nat} {c:CaseD} {w w0:Bool} (hs:Small c N):∀ (m j fuel:Nat) (p:C6) (k i:Int),j+m=c.stores.l.length→m<fuel →
  ∃ e f:Int,∀ K:Bool→LA→O R,Ng N K (c.stores.l.flatMap StoreD.av) c.stores.l.length w0 fuel (c.stores.l.length:Int) (j:Int) w (C9 c p k i)=K w (C9 c (Bj (BL c) (c.stores.l.drop j) j p) e f)
 | 0,j,fuel+1,p,k,i,q,_=>by
  refine⟨k,i,fun K=>?_⟩
  rw[Ng];unfold Y4
  rw[Iz (by omega),cf,C1 (by omega),Bj]
 | m+1,j,fuel+1,p,k,i,q,v=>by
  have h:j<c.stores.l.length:=by omega
  have hN:=hs.n64
  have d:=hs.sto
  obtain⟨e,f,s⟩:=eG (w:=w) (w0:=w0) hs m (j+1) fuel (BL c j c.stores.l[j] p) 4 j (by omega) (by omega)
  refine⟨e,f,fun K=>?_⟩
  rw[Ng];unfold Y4 
  rw[Hh h,ct,Ab h,ct,Int.toNat_natCast,Ax F9 _ _ h,B7 h,Bj,←s K]
  have x:c.stores.l[j] ∈ c.stores.l:=List.getElem_mem h
  skip
  have n:=@yD R N c
  generalize c.stores.l[j]=b at *
  have t:Nat.ble 9 (List.length (b.av++List.flatMap StoreD.av (List.drop (j+1) c.stores.l)))=true:=by rw[Bq,List.length_append,F9];simp
  have u:List.take 9 (b.av++List.flatMap StoreD.av (List.drop (j+1) c.stores.l))=b.av:=List.take_left' (F9 b)
  rw[t,ct,u,F9]
  simp only[StoreD.av,setCells,Cx,List.nil_append,List.append_nil,List.drop_nil,List.drop_succ_cons,List.drop_zero,List.take_succ_cons,List.take_zero,List.length_cons,List.length_nil,Et,A5,Bq,IJ,A0,Nat.reduceAdd,decide_true,Bool.and_true,Bool.or_true,Bool.not_false,cond_true,Nat.zero_add,Nat.le_refl,Nf,Bp (show j<4611686018427387904 by have:=d.2;omega)]
  simp only[n hN (show j≤_ by omega) ⟨by have:=d.1;omega,by have:=d.2;omega⟩,LN,Fe,kA,Aq (show(3:Int)≠0 by decide)]
  unfold BL;cases Jm b.eff<;>cases decide (b.eff.num>0)<;>rfl
theorem Aeb {N:Nat} {c:CaseD} {p:C6} {k i:Int} {w:Bool} (hs:Small c N):∃ b d:Int,∀ K:Bool→LA→O R,Xs N w (C9 c p k i) K=K w (C9 c (Bj (BL c) c.stores.l 0 p) b d):=by
 obtain⟨b,d,h⟩:=eG (R:=R) (w:=w) (w0:=w) hs c.stores.l.length 0 N p k i (by omega) hs.sto.1
 refine⟨b,d,fun K=>?_⟩
 rw[jl];unfold UD
 rw[s8]
 simpa using h K
theorem pj {N:Nat} {c:CaseD} {w w0:Bool} (hs:Small c N):∀ (m j fuel:Nat) (p:C6) (k i:Int),j+m=c.ties.l.length→m<fuel →
  ∃ e f:Int,∀ K:Bool→LA→O R,Ts N K (c.ties.l.flatMap TieD.av) c.ties.l.length w0 fuel (c.ties.l.length:Int) (j:Int) w (C9 c p k i)=K w (C9 c (Bj (Agi c) (c.ties.l.drop j) j p) e f)
 | 0,j,fuel+1,p,k,i,u,_=>by
  refine⟨k,i,fun K=>?_⟩
  rw[Ts];unfold LF
  rw[Iz (by omega),cf,C1 (by omega),Bj]
 | m+1,j,fuel+1,p,k,i,u,A=>by
  have h:j<c.ties.l.length:=by omega
  have hN:=hs.n64
  have d:=hs.tie
  obtain⟨e,f,v⟩:=pj (w:=w) (w0:=w0) hs m (j+1) fuel (Agi c j c.ties.l[j] p) 5 j (by omega) (by omega)
  refine⟨e,f,fun K=>?_⟩
  rw[Ts];unfold LF 
  rw[Hh h,ct,Ab h,ct,Int.toNat_natCast,Ax Lq _ _ h,B7 h,Bj,←v K]
  have n:c.ties.l[j] ∈ c.ties.l:=List.getElem_mem h
  have x:=hs.tim _ n;have q:=hs.tex _ n;have s:=hs.tpr _ n
  have t:=@yE R N c
  generalize c.ties.l[j]=b at *
  have y:Nat.ble 5 (List.length (b.av++List.flatMap TieD.av (List.drop (j+1) c.ties.l)))=true:=by rw[Bq,List.length_append,Lq];simp
  have z:List.take 5 (b.av++List.flatMap TieD.av (List.drop (j+1) c.ties.l))=b.av:=List.take_left' (Lq b)
  rw[y,ct,z,Lq]
  simp only[TieD.av,List.drop_succ_cons,List.drop_zero,Et,A5,Ey,Fi,IJ,decide_true,Bool.and_true,cond_true,Nf,Bp (show j<4611686018427387904 by have:=d.2;omega)]
  simp only[t hN (show j≤_ by omega) ⟨by have:=d.1;omega,by have:=d.2;omega⟩,LN,Qc rfl x,Qc rfl q,Qc rfl s]
  rfl
theorem Aoa {N:Nat} {c:CaseD} {p:C6} {k i:Int} {w:Bool} (hs:Small c N):∃ b d:Int,∀ K:Bool→LA→O R,UF N w (C9 c p k i) K=K w (C9 c (Bj (Agi c) c.ties.l 0 p) b d):=by
 obtain⟨b,d,h⟩:=pj (R:=R) (w:=w) (w0:=w) hs c.ties.l.length 0 N p k i (by omega) hs.tie.1
 refine⟨b,d,fun K=>?_⟩
 rw[wG];unfold pT
 rw[An8]
 simpa using h K
end
end Gx.Cf

namespace Gx.Cf
open Go Go.Proofs
section
variable {R:Type}
theorem pk {N:Nat} {c:CaseD} {k i s:Int} {u:UnitD} {o w:Bool} {K:Bool→LA→O R} (hs:u.segs.l.length<4611686018427387904):∀ (m j fuel:Nat) (p:C6),j+1+m=u.segs.l.length→m<fuel →
  I3 N K s o u.av fuel ((j+1:Nat):Int) w (C9 c p k i)=K w (C9 c (nd (nd p (dD (u.segs.l.drop j)) (k,i,4) A16) (s==IntKind.wrap .i64 (u.max - u.min)) (k,i,4) e4) k i)
 | 0,j,fuel+1,p,b,_=>by
  rw[I3];unfold Ns
  rw[MO,Iz (by omega),cf,B7 (l:=u.segs.l) (j:=j) (by omega),C1 (l:=u.segs.l) (j:=j+1) (by omega),oS,Gh,Az8,Az9,Aq (by decide)]
 | m+1,j,fuel+1,p,b,d=>by
  rw[I3];unfold Ns
  have h:j+1<u.segs.l.length:=by omega
  have h':j<u.segs.l.length:=by omega
  simp only[MO]
  rw[Hh h,ct,Ab h,ct,gA h,oQ (by omega),Ab h',ct,gA h',Bp (by omega),Aq (by decide),pk hs m (j+1) fuel _ (by omega) (by omega),B7 h',B7 h,HF,Rf]
theorem pm {N:Nat} {c:CaseD} {k i:Int} {u:UnitD} {o w:Bool} {K:Bool→LA→O R} (hs:Fq u.segs.l.length N):∀ (m j fuel:Nat) (p:C6) (a:Int),j+m=u.segs.l.length→m<fuel →
  I4 N K (u.segs.l.flatMap SegD.av) u.segs.l.length o u.av fuel a (u.segs.l.length:Int) (j:Int) w (C9 c p k i) =
   K w (C9 c (nd (nd (nd p ((u.segs.l.drop j).all uz) (k,i,4) e3) (dD u.segs.l) (k,i,4) A16) (ZW a (u.segs.l.drop j)==IntKind.wrap .i64 (u.max - u.min)) (k,i,4) e4) k i)
 | 0,j,fuel+1,p,a,e,_=>by
  rw[I4];unfold Tc
  rw[Iz (by omega),cf,C1 (by omega),List.all_nil,Gh,ZW]
  rcases d:u.segs.l with _ | ⟨b,r⟩
  ·rw[Aci,Gh]
   have hN:=hs.1
   rcases N with _ | N
   ·omega
   ·dsimp only
    rw[I3];unfold Ns
    rw[MO,d]
    simp only[List.length_nil,Int.natCast_zero]
    rw[show decide ((1:Int)<0)=false by decide,cf,Az8,Az9,Aq (by decide)]
  ·have:=pk (R:=R) (N:=N) (c:=c) (k:=k) (i:=i) (s:=a) (u:=u) (o:=o) (w:=w) (K:=K) hs.2 r.length 0 N p (by rw[d];simp;omega) (by have:=hs.1;rw[d] at this;simp at this;omega)
   rw[d] at this
   simpa using this
 | m+1,j,fuel+1,p,a,e,t=>by
  rw[I4];unfold Tc
  have h:j<u.segs.l.length:=by omega
  have f:=hs.2
  rw[Hh h,ct,Ab h,ct,Int.toNat_natCast,Ax Pp _ _ h,B7 h,List.all_cons,ZW,Bp (by omega)]
  have n:Nat.ble 2 (List.length (u.segs.l[j].av++List.flatMap SegD.av (List.drop (j+1) u.segs.l)))=true:=by rw[Bq,List.length_append,Pp];simp
  have q:List.take 2 (u.segs.l[j].av++List.flatMap SegD.av (List.drop (j+1) u.segs.l))=u.segs.l[j].av:=List.take_left' (Pp _)
  rw[n,ct,q,Pp]
  simp only[SegD.av,setCells,Cx,List.nil_append,List.append_nil,List.drop_nil,List.drop_succ_cons,List.drop_zero,List.take_zero,List.length_cons,List.length_nil,A5,Bq,IJ,A0,Nat.reduceAdd,decide_true,Bool.and_true,Bool.or_true,Bool.not_false,cond_true,Nat.zero_add,Nat.le_refl,Fe,pm hs m (j+1) fuel _ _ (show j+1+m=_ by omega) (show m<fuel by omega)]
  rw[Rf,Rf,←Bool.and_assoc];rfl
theorem s_ {N:Nat} {c:CaseD} {p:C6} {j:Nat} {u:UnitD} {o w:Bool} {K:Bool→LA→O R} (hs:Fq u.segs.l.length N) :
  P5 N u.av o w (C9 c p 3 j) K=K w (C9 c (Am8 u j p) 3 j):=by
 rw[YC];unfold EB
 simp only[MO,Aq (show(8:Int)≠0 by decide),Ly]
 have:=pm (R:=R) (N:=N) (c:=c) (k:=3) (i:=j) (u:=u) (o:=o) (w:=w) (K:=K) hs u.segs.l.length 0 N (nd p (decide ((u.segs.l.length:Int)≤8)) (3,j,4) e8) 0 (by omega) hs.1
 simp only[List.drop_zero,Int.natCast_zero] at this
 rw[this]
 unfold Am8
 cases b:nd p (decide ((u.segs.l.length:Int)≤8)) (3,(j:Int),4) e8 with
 | none=>simp[Bt]
 | some x =>
  have:(x.2.1 != 0)=true:=by simpa using x.2.2
  simp[Bt,this,nd]
theorem wN {N:Nat} {c:CaseD} {k i:Int} {l:List MoveD} {o w:Bool} {K:Bool→LA→O R} (hs:l.length<4611686018427387904):∀ (m j fuel:Nat) (p:C6),j+m=l.length→m<fuel →
  Ug N K (l.flatMap MoveD.av) l.length o fuel (l.length:Int) (j:Int) w (C9 c p k i)=K w (C9 c (nd p ((l.drop j).all Agj) (k,i,3) e3) k i)
 | 0,j,fuel+1,p,b,_=>by
  rw[Ug];unfold ED
  rw[Iz (by omega),cf,C1 (by omega),List.all_nil,Gh]
 | m+1,j,fuel+1,p,b,f=>by
  rw[Ug];unfold ED
  have h:j<l.length:=by omega
  rw[Hh h,ct,Ab h,ct,Int.toNat_natCast,Ax Ew _ _ h,B7 h,List.all_cons,Bp (by omega)]
  have d:Nat.ble 3 (List.length (l[j].av++List.flatMap MoveD.av (List.drop (j+1) l)))=true:=by rw[Bq,List.length_append,Ew];simp
  have e:List.take 3 (l[j].av++List.flatMap MoveD.av (List.drop (j+1) l))=l[j].av:=List.take_left' (Ew _)
  rw[d,ct,e,Ew]
  simp only[MoveD.av,setCells,Cx,List.nil_append,List.append_nil,List.drop_nil,List.drop_succ_cons,List.drop_zero,List.take_zero,List.length_cons,List.length_nil,A5,Bq,IJ,A0,Nat.reduceAdd,decide_true,Bool.and_true,Bool.or_true,Bool.not_false,cond_true,Nat.zero_add,Nat.le_refl,Fe,wN hs m (j+1) fuel _ (show j+1+m=_ by omega) (show m<fuel by omega)]
  rw[Rf,Rf,←Bool.and_assoc];rfl
theorem wO {N:Nat} {c:CaseD} {k i:Int} {u:OutD} {o w:Bool} {K:Bool→LA→O R} (hs:Fq u.moves.l.length N) (e:u.moves.l.length≤16):∀ (m j fuel:Nat) (p:C6),j+m=u.moves.l.length→m<fuel →
  Qa N K (u.moves.l.flatMap MoveD.av) u.moves.l.length o u.av fuel j (u.moves.l.length:Int) (j:Int) w (C9 c p k i) (Ao ((u.moves.l.take j).map (·.unit))) =
   K w (C9 c (nd (nd (nd p ((u.moves.l.drop j).all (Ask c)) (k,i,3) Avi) (lh (u.moves.l.map (·.unit))) (k,i,3) A16) (u.moves.l.all Agj) (k,i,3) e3) k i)
 | 0,j,fuel+1,p,f,_=>by
  rw[Qa];unfold EE
  have n:j=u.moves.l.length:=by omega
  rw[Iz (by omega),cf,C1 (l:=u.moves.l) (j:=j) (by omega),List.all_nil,Gh,Nat.mul_one,List.take_of_length_le (by simp[Es];omega),List.take_of_length_le (show u.moves.l.length≤j by omega)]
  rw[Vv (by simp;omega) (by simpa using hs),Aq (by decide),yV]
  have:=wN (R:=R) (N:=N) (c:=c) (k:=k) (i:=i) (l:=u.moves.l) (o:=o) (w:=w) (K:=K) hs.2 u.moves.l.length 0 N (nd p (lh (u.moves.l.map (·.unit))) (k,i,3) A16) (by omega) hs.1
  simpa using this
 | m+1,j,fuel+1,p,f,x=>by
  rw[Qa];unfold EE
  have h:j<u.moves.l.length:=by omega
  have q:=hs.2
  have s:Nat.ble 3 (List.length (u.moves.l[j].av++List.flatMap MoveD.av (List.drop (j+1) u.moves.l)))=true:=by rw[Bq,List.length_append,Ew];simp
  have t:List.take 3 (u.moves.l[j].av++List.flatMap MoveD.av (List.drop (j+1) u.moves.l))=u.moves.l[j].av:=List.take_left' (Ew _)
  have y:(Nat.ble (j+1) 140737488355328&&Nat.ble ((j+1)*8) 140737488355328)=true:=by rw[Bq,Bq];simp;omega
  have v:List.take (j*1) (Ao ((u.moves.l.take j).map (·.unit)))++[.int .i64 u.moves.l[j].unit]=Ao ((u.moves.l.take (j+1)).map (·.unit)):=by
   rw[List.take_of_length_le (by simp[Es];omega),List.take_succ_eq_append_getElem h,List.map_append,←aU];rfl
  rw[Hh h,ct,Ab h,ct,Int.toNat_natCast,Ax Ew _ _ h,B7 h,List.all_cons,Bp (by omega),s,ct,t,Ew]
  simp only[MoveD.av,setCells,Cx,List.nil_append,List.append_nil,List.drop_nil,List.drop_succ_cons,List.take_zero,List.length_cons,List.length_nil,A5,Bq,IJ,A0,Nat.reduceAdd,Nat.reduceLeDiff,decide_true,Bool.and_true,Bool.or_true,Bool.not_false,cond_true,Nat.zero_add,Nat.le_refl,pb,Aq (show(12:Int)≠0 by decide),v,wO hs e m (j+1) fuel _ (show j+1+m=_ by omega) (show m<fuel by omega)]
  rw[Rf,Rf]
  unfold Ask
  generalize (List.drop (j+1) u.moves.l).all _=r
  have b:(decide (j≤140737488355327)&&decide ((j+1)*8≤140737488355328))=true:=by simp;omega
  by_cases d:0≤u.moves.l[j].unit
  ·have e1:decide (u.moves.l[j].unit≥0)=true:=by simpa using d
   rw[e1,b];rfl
  ·have e1:decide (u.moves.l[j].unit≥0)=false:=by simpa using d
   rw[e1,b];rfl
theorem Ahp {N:Nat} {c:CaseD} {p:C6} {j:Nat} {u:OutD} {o w:Bool} {K:Bool→LA→O R} (hs:Fq u.moves.l.length N) :
  QK N u.av o w (C9 c p 6 j) K=K w (C9 c (li c u j p) 6 j):=by
 rw[pX];unfold gM LK UG
 simp only[yV,A4c,Aq (show(16:Int)≠0 by decide),Aq (show(8:Int)≠0 by decide),Ly]
 have key:∀ b:C6,(cond (Bt (nd b (decide ((u.moves.l.length:Int)≤16)) (6,(j:Int),3) e8) != 0) (K w (C9 c (nd b (decide ((u.moves.l.length:Int)≤16)) (6,(j:Int),3) e8) 6 j))
   (Qa N K (u.moves.l.flatMap MoveD.av) u.moves.l.length o u.av N 0 (u.moves.l.length:Int) 0 w (C9 c (nd b (decide ((u.moves.l.length:Int)≤16)) (6,(j:Int),3) e8) 6 j) [])) =
   K w (C9 c (nd (nd (nd (nd b (decide ((u.moves.l.length:Int)≤16)) (6,(j:Int),3) e8) (u.moves.l.all (Ask c)) (6,j,3) Avi) (lh (u.moves.l.map (·.unit))) (6,j,3) A16) (u.moves.l.all Agj) (6,j,3) e3) 6 j):=by
  intro b
  cases d:nd b (decide ((u.moves.l.length:Int)≤16)) (6,(j:Int),3) e8 with
  | none =>
   have e:u.moves.l.length≤16:=by
    rcases b with _ | x
    ·by_cases e:u.moves.l.length≤16
     ·exact e
     ·have:decide ((u.moves.l.length:Int)≤16)=false:=by simp;omega
      rw[this] at d;simp[nd] at d
    ·simp[nd] at d
   have:=wO (R:=R) (N:=N) (c:=c) (k:=6) (i:=j) (u:=u) (o:=o) (w:=w) (K:=K) hs e u.moves.l.length 0 N none (by omega) hs.1
   simp only[List.take_zero,List.map_nil,List.drop_zero,Int.natCast_zero,Ao] at this
   simp only[Bt,bne_self_eq_false,cond_false]
   exact this
  | some x =>
   have:(x.2.1 != 0)=true:=by simpa using x.2.2
   simp[Bt,this,nd]
 unfold li
 cases f:((u.moves.l.length:Int)==0) with
 | true=>simp only[Bool.true_or,cond_false,show(true==false)=false from rfl];exact key _
 | false=>simp only[beq_self_eq_true,Bool.false_or,cond_true,cond_false];exact key _
theorem kE {N:Nat} {c:CaseD} {w w0:Bool} {h0:LA} (hs:Small c N):∀ (m j fuel:Nat) (p:C6) (k i:Int),j+m=c.units.l.length→m<fuel →
  ∃ e f:Int,∀ K:Bool→LA→O R,Mc N K (c.units.l.flatMap UnitD.av) c.units.l.length w0 h0 fuel (c.units.l.length:Int) (j:Int) w (C9 c p k i)=K w (C9 c (Bj (HG c) (c.units.l.drop j) j p) e f)
 | 0,j,fuel+1,p,k,i,v,_=>by
  refine⟨k,i,fun K=>?_⟩
  rw[Mc];unfold EC
  rw[Iz (by omega),cf,C1 (by omega),Bj]
 | m+1,j,fuel+1,p,k,i,v,C=>by
  have h:j<c.units.l.length:=by omega
  have hN:=hs.n64
  have d:=hs.uni
  obtain⟨e,f,x⟩:=kE (w:=w) (w0:=w0) (h0:=h0) hs m (j+1) fuel (HG c j c.units.l[j] p) 3 j (by omega) (by omega)
  refine⟨e,f,fun K=>?_⟩
  rw[Mc];unfold EC K_ UC dZ UB dY
  rw[Hh h,ct,Ab h,ct,Int.toNat_natCast,Ax Dn _ _ h,B7 h,Bj,←x K]
  have t:c.units.l[j] ∈ c.units.l:=List.getElem_mem h
  have y:=hs.seg _ t;have n:=hs.uaw _ t
  have q:=@yC R N c
  generalize c.units.l[j]=b at *
  have z:Nat.ble 22 (List.length (b.av++List.flatMap UnitD.av (List.drop (j+1) c.units.l)))=true:=by rw[Bq,List.length_append,Dn];simp
  have A:List.take 22 (b.av++List.flatMap UnitD.av (List.drop (j+1) c.units.l))=b.av:=List.take_left' (Dn b)
  rw[z,ct,A,Dn]
  have s:∀ (p:C6) (K:Bool→LA→O R),P5 N [.str b.name,.int .i64 b.bus,.int .i64 b.min,.int .i64 b.max,b.segs.av 2 SegD.av,.int .i64 b.noLoad,.int .i64 b.rampUp,.int .i64 b.rampDown,.int .i64 b.startRamp,.int .i64 b.stopRamp,.int .i64 b.upTime,.int .i64 b.downTime,.int .i64 b.startTime,.int .i64 b.hotCost,.int .i64 b.coldCost,.int .i64 b.hotHours,.int .i64 b.reserve,.int .i64 b.reservePrice,b.away.av 1 ZN,.int .i64 b.state,.int .i64 b.hours,.int .i64 b.output] w0 w (C9 c p 3 j) K=K w (C9 c (Am8 b j p) 3 j):=fun p K=>s_ y
  simp only[UnitD.av,List.drop_succ_cons,List.drop_zero,List.take_succ_cons,List.take_zero,Et,A5,Ey,Fi,Bq,IJ,decide_true,Bool.and_true,cond_true,cond_false,Nat.le_refl,Nf,Bp (show j<4611686018427387904 by have:=d.2;omega)]
  simp only[q hN (show j≤_ by omega) ⟨by have:=d.1;omega,by have:=d.2;omega⟩,LN,Fe,s,pd rfl n,Aq (show(12:Int)≠0 by decide),Aq (show(16:Int)≠0 by decide),Aq (show(3:Int)≠0 by decide)]
  unfold HG
  unfold Fj
  by_cases u:b.state=0
  ·simp[u]
  ·by_cases s1:b.state=1
   ·simp[s1]
   ·by_cases s2:b.state=2
    ·simp[s2]
    ·have a0:(b.state==0)=false:=by simpa using u
     have a1:(b.state==1)=false:=by simpa using s1
     have a2:(b.state==2)=false:=by simpa using s2
     have a3:(decide (0≤b.state)&&decide (b.state≤2))=false:=by simp;omega
     have a4:(b.state != 1)=true:=by simpa using s1
     simp[a0,a1,a2,a3,a4]
theorem Ahq {N:Nat} {c:CaseD} {p:C6} {k i:Int} {w:Bool} (hs:Small c N):∃ b d:Int,∀ K:Bool→LA→O R,HX N w (C9 c p k i) K=K w (C9 c (Bj (HG c) c.units.l 0 p) b d):=by
 obtain⟨b,d,h⟩:=kE (R:=R) (w:=w) (w0:=w) (h0:=C9 c p k i) hs c.units.l.length 0 N p k i (by omega) hs.uni.1
 refine⟨b,d,fun K=>?_⟩
 rw[pM];unfold gL
 rw[pb]
 simpa using h K
end
end Gx.Cf

namespace Gx.Cf
open Go Go.Proofs
section
variable {R:Type}
def A79 (c:CaseD) (n:Int):Bool:=decide (0≤n)&&decide (n<(c.lines.l.length:Int))
theorem A7h {u:OutD}:List.take 4 u.av=u.av:=rfl
theorem UI {N:Nat} {c:CaseD} {j:Nat} {x:OutD} {w w0:Bool} {l1 h0:LA} {m2:Nat} {a i12:Int} {K0:Int→Int→Bool→LA→O R} {K:Bool→LA→O R} (hs:Fq x.lines.l.length N) (b:Fq x.moves.l.length N):∀ (m q fuel:Nat) (p:C6),q+m=x.lines.l.length→m<fuel →
  N8 N K0 K l1 m2 w0 a (Ao x.lines.l) x.lines.l.length x.av h0 fuel i12 (x.lines.l.length:Int) (q:Int) w (C9 c p 6 j) =
   K0 a (IntKind.wrap .i64 (i12+1)) w (C9 c (li c x j (nd (nd p ((x.lines.l.drop q).all (A79 c)) (6,j,1) Avi) (lh x.lines.l) (6,j,1) A16)) 6 j)
 | 0,q,fuel+1,p,e,_=>by
  rw[N8];unfold Vs
  rw[Iz (by omega),cf,C1 (l:=x.lines.l) (j:=q) (by omega),List.all_nil,Gh,oT,Vv rfl hs,Aq (by decide),A7h,Ahp b];rfl
 | m+1,q,fuel+1,p,e,i=>by
  rw[N8];unfold Vs
  have h:q<x.lines.l.length:=by omega
  have f:=hs.2
  rw[Hh h,ct,Ab h,ct,Z7 h,pa,Aq (by decide),Aq (by decide),Bp (by omega),UI hs b m (q+1) fuel _ (by omega) (by omega),UI hs b m (q+1) fuel _ (by omega) (by omega),B7 h,List.all_cons,Rf,Rf]
  unfold A79
  generalize (List.drop (q+1) x.lines.l).all _=r
  by_cases d:0≤x.lines.l[q]
  ·have e1:decide (x.lines.l[q]≥0)=true:=by simpa using d
   rw[e1];rfl
  ·have e1:decide (x.lines.l[q]≥0)=false:=by simpa using d
   rw[e1];rfl
theorem YO {N:Nat} {c:CaseD} {w w0:Bool} {h0:LA} (hs:Small c N):∀ (m j fuel:Nat) (p:C6) (k i:Int),j+m=c.outs.l.length→m<fuel →
  ∃ D F:Int,∀ K:Bool→LA→O R,E2 N K (c.outs.l.flatMap OutD.av) c.outs.l.length w0 h0 fuel (c.outs.l.length:Int) (j:Int) w (C9 c p k i)=K w (C9 c (Bj (lj c) (c.outs.l.drop j) j p) D F)
 | 0,j,fuel+1,p,k,i,G,_=>by
  refine⟨k,i,fun K=>?_⟩
  rw[E2];unfold Qb
  rw[Iz (by omega),cf,C1 (by omega),Bj]
 | m+1,j,fuel+1,p,k,i,G,S=>by
  have h:j<c.outs.l.length:=by omega
  have hN:=hs.n64
  have d:=hs.out
  have z:c.outs.l[j] ∈ c.outs.l:=List.getElem_mem h
  have A:=hs.oli _ z
  have t:=hs.omo _ z
  obtain⟨I,i1,L⟩:=YO (w:=w) (w0:=w0) (h0:=h0) hs m (j+1) fuel (lj c j c.outs.l[j] p) 6 j (by omega) (by omega)
  cases e:nd (Hj ((c.outs.l.map (·.name)).take j) 6 j c.outs.l[j].name p) ((c.outs.l[j].lines.l.length:Int)==1||(c.outs.l[j].lines.l.length:Int)==2) (6,(j:Int),1) e4 with
  | none =>
   refine⟨I,i1,fun K=>?_⟩
   rw[E2];unfold Qb Si Vt
   rw[Hh h,ct,Ab h,ct,Int.toNat_natCast,Ax Dg _ _ h,B7 h,Bj,←L K]
   have q:=@YN R N c
   generalize c.outs.l[j]=b at *
   have u:Nat.ble 4 (List.length (b.av++List.flatMap OutD.av (List.drop (j+1) c.outs.l)))=true:=by rw[Bq,List.length_append,Dg];simp
   have v:List.take 4 (b.av++List.flatMap OutD.av (List.drop (j+1) c.outs.l))=b.av:=List.take_left' (Dg b)
   rw[u,ct,v,Dg]
   have n:∀ f:List UInt8→O R,Wb b.av f=f b.name:=fun f=>by simp[OutD.av,Et]
   simp only[IJ,decide_true,Bool.and_true,Bool.true_and,cond_true,Nf,n,oT,q hN (show j≤_ by omega) ⟨by have:=d.1;omega,by have:=d.2;omega⟩,Aq (show(4:Int)≠0 by decide),Ly]
   have l2:=fun p=>UI (R:=R) (N:=N) (c:=c) (j:=j) (x:=b) (w:=w) (w0:=w0) (l1:=c.outs.l.flatMap OutD.av) (h0:=h0) (m2:=c.outs.l.length) (a:=c.outs.l.length) (i12:=j) (K0:=E2 N K (c.outs.l.flatMap OutD.av) c.outs.l.length w0 h0 fuel) (K:=K) A t b.lines.l.length 0 N p (by omega) A.1
   simp only[List.drop_zero,Int.natCast_zero] at l2
   simp only[l2,Bp (show j<4611686018427387904 by have:=d.2;omega)]
   unfold lj
   cases s:((b.lines.l.length:Int)==1) with
   | true =>
    rw[s] at e
    simp only[Bool.true_or] at e
    simp only[show(true==false)=false from rfl,cond_false,Bool.true_or,e,Bt,bne_self_eq_false];rfl
   | false =>
    rw[s] at e
    simp only[Bool.false_or] at e
    simp only[beq_self_eq_true,cond_true,cond_false,Bool.false_or,e,Bt,bne_self_eq_false];rfl
  | some y =>
   have C:(y.2.1 != 0)=true:=by simpa using y.2.2
   have M:lj c j c.outs.l[j] p=some y:=by unfold lj;simp only;rw[e];rfl
   refine⟨6,j,fun K=>?_⟩
   rw[E2];unfold Qb Si Vt
   rw[Hh h,ct,Ab h,ct,Int.toNat_natCast,Ax Dg _ _ h,B7 h,Bj,M,Bf (fun _ _=>Lr)]
   have q:=@YN R N c
   generalize c.outs.l[j]=b at *
   have u:Nat.ble 4 (List.length (b.av++List.flatMap OutD.av (List.drop (j+1) c.outs.l)))=true:=by rw[Bq,List.length_append,Dg];simp
   have v:List.take 4 (b.av++List.flatMap OutD.av (List.drop (j+1) c.outs.l))=b.av:=List.take_left' (Dg b)
   rw[u,ct,v,Dg]
   have n:∀ f:List UInt8→O R,Wb b.av f=f b.name:=fun f=>by simp[OutD.av,Et]
   simp only[IJ,decide_true,Bool.and_true,Bool.true_and,cond_true,Nf,n,oT,q hN (show j≤_ by omega) ⟨by have:=d.1;omega,by have:=d.2;omega⟩,Aq (show(4:Int)≠0 by decide),Ly]
   cases s:((b.lines.l.length:Int)==1) with
   | true =>
    rw[s] at e
    simp only[Bool.true_or] at e
    simp only[show(true==false)=false from rfl,cond_false,e,Bt,C,cond_true]
   | false =>
    rw[s] at e
    simp only[Bool.false_or] at e
    simp only[beq_self_eq_true,cond_true,cond_false,e,Bt,C]
theorem yF {N:Nat} {c:CaseD} {p:C6} {k i:Int} {w:Bool} (hs:Small c N):∃ b d:Int,∀ K:Bool→LA→O R,Tt N w (C9 c p k i) K=K w (C9 c (Bj (lj c) c.outs.l 0 p) b d):=by
 obtain⟨b,d,h⟩:=YO (R:=R) (w:=w) (w0:=w) (h0:=C9 c p k i) hs c.outs.l.length 0 N p k i (by omega) hs.out.1
 refine⟨b,d,fun K=>?_⟩
 rw[eD];unfold LL
 rw[yX]
 simpa using h K
end
end Gx.Cf

namespace Gx.Cf
theorem Conn.add {es:List (Nat×Nat)} {u v a b:Nat} (h:Conn (es++[(u,v)]) a b):Conn es a b∨(Conn es a u∧Conn es v b)∨(Conn es a v∧Conn es u b):=by
 induction h with
 | refl=>exact .inl (.refl _)
 | fwd c _ e =>
  rename_i x y i _
  rcases List.mem_append.1 c with c | c
  ·rcases e with e | ⟨f,d⟩ | ⟨f,d⟩
   ·exact .inl (.fwd c e)
   ·exact .inr (.inl ⟨.fwd c f,d⟩)
   ·exact .inr (.inr ⟨.fwd c f,d⟩)
  ·simp at c;obtain⟨rfl,rfl⟩:=c
   rcases e with e | ⟨f,d⟩ | ⟨f,d⟩
   ·exact .inr (.inl ⟨.refl _,e⟩)
   ·exact .inr (.inl ⟨.refl _,d⟩)
   ·exact .inl d
 | bwd c _ e =>
  rename_i x y i _
  rcases List.mem_append.1 c with c | c
  ·rcases e with e | ⟨f,d⟩ | ⟨f,d⟩
   ·exact .inl (.bwd c e)
   ·exact .inr (.inl ⟨.bwd c f,d⟩)
   ·exact .inr (.inr ⟨.bwd c f,d⟩)
  ·simp at c;obtain⟨rfl,rfl⟩:=c
   rcases e with e | ⟨f,d⟩ | ⟨f,d⟩
   ·exact .inr (.inr ⟨.refl _,e⟩)
   ·exact .inl d
   ·exact .inr (.inr ⟨.refl _,d⟩)
theorem Conn.new {es:List (Nat×Nat)} {u v:Nat}:Conn (es++[(u,v)]) u v:=.fwd (List.mem_append.2 (.inr (by simp))) (.refl _)
theorem Conn.old {es:List (Nat×Nat)} {e:Nat×Nat} {a b:Nat} (h:Conn es a b):Conn (es++[e]) a b:=h.mono fun _ c=>List.mem_append.2 (.inl c)
theorem Aec (es:List (Nat×Nat)):∀ u:Nat,∃ r,r≤u∧Conn es r u∧Sa es r:=by
 intro u
 induction u using Nat.strongRecOn with
 | ind u d =>
  by_cases h:Sa es u
  ·exact⟨u,Nat.le_refl _,.refl _,h⟩
  ·unfold Sa at h
   have:∃ a,a<u∧Conn es a u:=by
    apply Classical.byContradiction
    intro hn
    exact h fun a b c=>hn ⟨a,b,c⟩
   obtain⟨a,b,c⟩:=this
   obtain⟨r,i,e,f⟩:=d a b
   exact⟨r,by omega,e.trans c,f⟩
theorem QN {es:List (Nat×Nat)} {r a:Nat} (h:Sa es r) (b:Conn es a r):r≤a:=Nat.le_of_not_lt fun c=>h a c b
theorem Aed {p q:Nat→Bool} {m:Nat}:∀ {l:List Nat},l.Nodup→m ∈ l→p m=true→(∀ b ∈ l,q b=(p b&&decide (b≠m)))→(l.filter p).length=(l.filter q).length+1
 | [],_,f,_,_=>by simp at f
 | a::r,i,f,n,hq=>by
  rw[List.nodup_cons] at i
  by_cases j:a=m
  ·subst j
   have e:(r.filter p)=(r.filter q):=List.filter_congr fun b d=>by
    rw[hq b (List.mem_cons_of_mem _ d)]
    have:b≠a:=fun e=>by subst e;exact i.1 d
    simp[this]
   have c:=hq a (by simp)
   simp at c
   simp[List.filter_cons,n,c,e]
  ·have k:m ∈ r:=by
    rcases List.mem_cons.1 f with h | h
    ·exact absurd h.symm j
    ·exact h
   have s:=Aed (p:=p) (q:=q) i.2 k n (fun b d=>hq b (List.mem_cons_of_mem _ d))
   have c:=hq a (by simp)
   simp[j] at c
   rw[List.filter_cons,List.filter_cons,c]
   cases p a<;>simp[s]
theorem Ayj {n:Nat} {es:List (Nat×Nat)} {u v:Nat} (h:Conn es u v):Jj n (es++[(u,v)])=Jj n es:=by
 unfold Jj
 congr 1
 apply List.filter_congr
 intro b _
 have:Sa (es++[(u,v)]) b↔Sa es b:=by
  constructor
  ·intro c a d f;exact c a d f.old
  ·intro c a d f
   rcases f.add with e | ⟨e,i⟩ | ⟨e,i⟩
   ·exact c a d e
   ·exact c a d (e.trans (h.trans i))
   ·exact c a d (e.trans (h.symm.trans i))
 simp[this]
open Classical in
theorem Ayk {n:Nat} {es:List (Nat×Nat)} {u v:Nat} (hu:u<n) (hv:v<n) (h:¬ Conn es u v):Jj n es=Jj n (es++[(u,v)])+1:=by
 obtain⟨ru,u1,u2,u3⟩:=Aec es u
 obtain⟨rv,v1,v2,v3⟩:=Aec es v
 have hne:ru≠rv:=fun e=>by subst e;exact h (u2.symm.trans v2)
 unfold Jj
 refine Aed (m:=max ru rv) List.nodup_range (by rw[List.mem_range];omega) ?_ ?_
 ·have:Sa es (max ru rv):=by rcases Nat.le_total ru rv with h1 | h1<;>simp[h1,Nat.max_eq_right,Nat.max_eq_left,u3,v3]
  simp[this]
 ·intro b _
  have:Sa (es++[(u,v)]) b↔Sa es b∧b≠max ru rv:=by
   constructor
   ·intro hm
    refine⟨fun a ha hc=>hm a ha hc.old,fun e=>?_⟩
    rcases Nat.lt_or_gt_of_ne hne with h1 | h1
    ·rw[Nat.max_eq_right (by omega)] at e;subst e
     exact hm ru h1 (u2.old.trans (Conn.new.trans v2.old.symm))
    ·rw[Nat.max_eq_left (by omega)] at e;subst e
     exact hm rv h1 (v2.old.trans (Conn.new.symm.trans u2.old.symm))
   ·rintro⟨hm,hne2⟩ a ha hc
    rcases hc.add with h1 | ⟨h1,h2⟩ | ⟨h1,h2⟩
    ·exact hm a ha h1
    ·
     have e1:b≤rv:=QN hm (v2.trans h2)
     have e2:rv≤b:=QN v3 (h2.symm.trans v2.symm)
     have e3:ru≤a:=QN u3 (h1.trans u2.symm)
     omega
    ·have e1:b≤ru:=QN hm (u2.trans h2)
     have e2:ru≤b:=QN u3 (h2.symm.trans u2.symm)
     have e3:rv≤a:=QN v3 (h1.trans v2.symm)
     omega
  have hd:decide (Sa (es++[(u,v)]) b)=decide (Sa es b∧b≠max ru rv):=by simp only[this]
  rw[hd]
  by_cases x:Sa es b<;>by_cases y:b=max ru rv<;>simp[x,y]
theorem A2b (n:Nat):Jj n []=n:=by
 have h0:∀ a b,Conn [] a b→a=b:=by
  intro a b h
  induction h with
  | refl=>rfl
  | fwd c=>simp at c
  | bwd c=>simp at c
 unfold Jj
 rw[List.filter_eq_self.2]
 ·simp
 ·intro b _
  have:Sa [] b:=fun a e d=>by have:=h0 a b d;omega
  simp[this]
def pn (L:List Int) (tx fr:Int):List Int:=L.map fun x=>cond (x==tx) fr x
def IB (st:List Int×Int) (e:Nat×Nat):List Int×Int :=
 cond (st.1.getD e.1 0==st.1.getD e.2 0) st (pn st.1 (st.1.getD e.2 0) (st.1.getD e.1 0),st.2 - 1)
theorem Atw {f:Int→Int} {L:List Int} {a:Nat} (h:a<L.length):(L.map f).getD a 0=f (L.getD a 0):=by
 rw[List.getD_eq_getElem?_getD,List.getD_eq_getElem?_getD,List.getElem?_map,List.getElem?_eq_getElem h];rfl
theorem A2c {n:Nat} {es:List (Nat×Nat)} {st:List Int×Int} {e:Nat×Nat} (h:UfOk n es st) (m:e.1<n) (q:e.2<n):UfOk n (es++[e]) (IB st e):=by
 obtain⟨u,v⟩:=e
 unfold IB
 by_cases s:st.1.getD u 0=st.1.getD v 0
 ·have c:(st.1.getD u 0==st.1.getD v 0)=true:=by simpa using s
  simp only[c,cond_true]
  have d:=(h.iff u v m q).1 s
  refine⟨h.len,fun a b k l=>?_,by rw[Ayj d];exact h.cnt⟩
  rw[h.iff a b k l]
  constructor
  ·exact Conn.old
  ·intro i
   rcases i.add with c | ⟨c,f⟩ | ⟨c,f⟩
   ·exact c
   ·exact c.trans (d.trans f)
   ·exact c.trans (d.symm.trans f)
 ·have c:(st.1.getD u 0==st.1.getD v 0)=false:=by simpa using s
  simp only[c,cond_false]
  have d:¬ Conn es u v:=fun x=>s ((h.iff u v m q).2 x)
  refine⟨by simp[pn,h.len],fun a b k l=>?_,by
   have e:=Ayk (n:=n) (es:=es) (u:=u) (v:=v) m q d
   show st.2 - 1=_
   rw[h.cnt,e];omega⟩
  have t:a<st.1.length:=by rw[h.len];exact k
  have z:b<st.1.length:=by rw[h.len];exact l
  unfold pn
  rw[Atw t,Atw z]
  have iff':=h.iff a b k l
  have av:=h.iff a v k q
  have bv:=h.iff b v l q
  have au:=h.iff a u k m
  have bu:=h.iff b u l m
  by_cases x:st.1.getD a 0=st.1.getD v 0<;>by_cases y:st.1.getD b 0=st.1.getD v 0
  ·have A:Conn es a b:=iff'.1 (x.trans y.symm)
   have x':(st.1.getD a 0==st.1.getD v 0)=true:=by simpa using x
   have j:(st.1.getD b 0==st.1.getD v 0)=true:=by simpa using y
   simp only[x',j,cond_true,true_iff]
   exact A.old
  ·have x':(st.1.getD a 0==st.1.getD v 0)=true:=by simpa using x
   have j:(st.1.getD b 0==st.1.getD v 0)=false:=by simpa using y
   simp only[x',j,cond_true,cond_false]
   constructor
   ·intro e;exact((av.1 x).old.trans Conn.new.symm).trans (bu.1 e.symm).symm.old
   ·intro i
    rcases i.add with c | ⟨c,f⟩ | ⟨c,f⟩
    ·exact absurd (bv.2 (c.symm.trans (av.1 x))) y
    ·exact absurd (c.symm.trans (av.1 x)) d
    ·exact(bu.2 f.symm).symm
  ·have x':(st.1.getD a 0==st.1.getD v 0)=false:=by simpa using x
   have j:(st.1.getD b 0==st.1.getD v 0)=true:=by simpa using y
   simp only[x',j,cond_true,cond_false]
   constructor
   ·intro e;exact(au.1 e).old.trans (Conn.new.trans (bv.1 y).symm.old)
   ·intro i
    rcases i.add with c | ⟨c,f⟩ | ⟨c,f⟩
    ·exact absurd (av.2 (c.trans (bv.1 y))) x
    ·exact au.2 c
    ·exact absurd (f.trans (bv.1 y)) d
  ·have x':(st.1.getD a 0==st.1.getD v 0)=false:=by simpa using x
   have j:(st.1.getD b 0==st.1.getD v 0)=false:=by simpa using y
   simp only[x',j,cond_false]
   rw[iff']
   constructor
   ·exact Conn.old
   ·intro i
    rcases i.add with c | ⟨c,f⟩ | ⟨c,f⟩
    ·exact c
    ·exact absurd (bv.2 f.symm) y
    ·exact absurd (av.2 c) x
theorem A57 (n:Nat):UfOk n [] (Fs n,(n:Int)):=by
 refine⟨by simp[Fs],fun a b d f=>?_,by rw[A2b]⟩
 simp only[gB d,gB f]
 constructor
 ·intro e;have:a=b:=by omega
  subst this;exact .refl _
 ·intro h
  have h0:∀ a b,Conn [] a b→a=b:=by
   intro a b h
   induction h with
   | refl=>rfl
   | fwd c=>simp at c
   | bwd c=>simp at c
  rw[h0 a b h]
theorem A0i {n:Nat}:∀ (fs es:List (Nat×Nat)) (st:List Int×Int),UfOk n es st→(∀ e ∈ fs,e.1<n∧e.2<n)→UfOk n (es++fs) (fs.foldl IB st)
 | [],es,st,h,_=>by simpa using h
 | e::r,es,st,h,b=>by
  rw[List.foldl_cons]
  have:=A0i r (es++[e]) (IB st e) (A2c h (b e (by simp)).1 (b e (by simp)).2) (fun x c=>b x (List.mem_cons_of_mem _ c))
  simpa using this
theorem Atx {n:Nat} {es:List (Nat×Nat)} (b:∀ e ∈ es,e.1<n∧e.2<n):(es.foldl IB (Fs n,(n:Int))).2=(Jj n es:Int):=by
 have:=(A0i es [] _ (A57 n) b).cnt
 simpa using this
end Gx.Cf

namespace Gx
open Go Go.Proofs
open IntKind (wrap)
set_option maxRecDepth 100000
noncomputable section
variable {R:Type} (N:Nat)
def EK (N:Nat) (k1:Int→Int→Int→LA→O R) (r0:Int→O R) (b:Nat) (o p:Int) (e:LA) (d:Nat) (f g:Bool) (l q:Int) (i:Bool) (c:LA) (k3:Int→Int→Int→LA→O R) (y z t:Int) (v:LA):O R :=
 (cond (decide (t<z)) (cond (Ae t b) (As .i64 (v.drop (0+((t.toNat)*1))) fun ae=>(cond (ae==p) (cond (Ae t b) (cond ((Nat.beq 1 1)&&((Nat.ble ((0+((t.toNat)*1))+1) (v.length))&&(!false))) (k3 y z (wrap .i64 (t+1)) (v.set (0+((t.toNat)*1)) (.int .i64 o))) none) none) (k3 y z (wrap .i64 (t+1)) v))) none) (k1 y l (wrap .i64 (q+1)) v))
def Uh (k1:Int→Int→Int→LA→O R) (r0:Int→O R) (b:Nat) (o p:Int) (e:LA) (d:Nat) (f g:Bool) (l q:Int) (i:Bool) (c:LA):Nat→Int→Int→Int→LA→O R
 | 0,_,_,_,_=>none
 | n+1,y,z,t,v=>(EK N k1 r0 b o p e d f g l q i c (Uh k1 r0 b o p e d f g l q i c n) y z t v)
def UJ (N:Nat) (k1:Int→Int→Int→LA→O R) (r0:Int→O R) (b:Nat) (m o p:Int) (e:LA) (d:Nat) (f g:Bool) (l:Int) (i:Bool) (c:LA) (q3:Int→Int→Int→LA→O R) (q:Int) (aa:LA):O R :=
 (q3 (wrap .i64 (m - 1)) ((b:Nat):Int) 0 aa)
def LO (k1:Int→Int→Int→LA→O R) (r0:Int→O R) (b:Nat) (m o p:Int) (e:LA) (d:Nat) (f g:Bool) (l:Int) (i:Bool) (c:LA) (q:Int) (aa:LA):O R:=(UJ N k1 r0 b m o p e d f g l i c (fun y z t v=>(Uh N k1 r0 b o p e d f g l q i c N y z t v)) q aa)
def EL (r0:Int→O R) (b:Nat) (e:LA) (d:Nat) (f g i:Bool) (c:LA) (k1:Int→Int→Int→LA→O R) (q2:Int→Int→Int→LA→O R) (m l r:Int) (s:LA):O R :=
 (cond (decide (r<l)) (cond (Ae r d) (As .i64 (e.drop ((r.toNat)*1)) fun ab=>(B4 12 (c.drop 3) fun af ag=>(cond (Ae ab ag) (As .i64 ((af.drop ((ab.toNat)*12)).drop 1) fun ac=>(cond (Ae ac b) (As .i64 (s.drop (0+((ac.toNat)*1))) fun o=>(B4 12 (c.drop 3) fun ah ai=>(cond (Ae ab ai) (As .i64 ((ah.drop ((ab.toNat)*12)).drop 2) fun ad=>(cond (Ae ad b) (As .i64 (s.drop (0+((ad.toNat)*1))) fun p=>(cond ((o==p)==false) (Dk N ab (q2 o p r s)) (k1 m l (wrap .i64 (r+1)) s))) none)) none))) none)) none))) none) (r0 m))
def Md (r0:Int→O R) (b:Nat) (e:LA) (d:Nat) (f g i:Bool) (c:LA):Nat→Int→Int→Int→LA→O R
 | 0,_,_,_,_=>none
 | n+1,m,l,r,s=>(EL N r0 b e d f g i c (Md r0 b e d f g i c n) (fun o p q aa=>(LO N (Md r0 b e d f g i c n) r0 b m o p e d f g l i c q aa)) m l r s)
def EM (N:Nat) (r0:Int→O R) (e:LA) (d:Nat) (f g:Bool) (b:Nat) (i:Bool) (c:LA) (k0:Int→Int→LA→O R) (q1:Int→Int→Int→LA→O R) (x u:Int) (w:LA):O R :=
 (cond (decide (u<x)) (cond (Ae u b) (cond ((Nat.beq 1 1)&&((Nat.ble ((0+((u.toNat)*1))+1) (w.length))&&(!false))) (k0 x (wrap .i64 (u+1)) (w.set (0+((u.toNat)*1)) (.int .i64 u))) none) none) (q1 ((b:Nat):Int) ((d:Nat):Int) 0 w))
def Qd (r0:Int→O R) (e:LA) (d:Nat) (f g:Bool) (b:Nat) (i:Bool) (c:LA):Nat→Int→Int→LA→O R
 | 0,_,_,_=>none
 | n+1,x,u,w=>(EM N r0 e d f g b i c (Qd r0 e d f g b i c n) (fun m l r s=>(Md N r0 b e d f g i c N m l r s)) x u w)
def gN (N:Nat) (r0:Int→O R) (q0:Nat→Int→Int→LA→O R) (c:LA) (i:Bool) (e:LA) (d:Nat) (f g:Bool):O R :=
 (B4 3 (c.drop 2) fun ak b=>(cond ((decide (0≤((b:Nat):Int)))&&((decide (((b:Nat):Int)≤((b:Nat):Int)))&&((decide (((b:Nat):Int)≤140737488355328))&&(decide ((((b:Nat):Int)*((8:Nat):Int))≤140737488355328))))) (q0 b ((b:Nat):Int) 0 (List.replicate b (.int .i64 0))) none))
def QO:=(Ah (fun (N:Nat) (c:LA) (i:Bool) (e:LA) (d:Nat) (f g:Bool) (r0:Int→O R)=>(gN N r0 (fun b x u w=>(Qd N r0 e d f g b i c N x u w)) c i e d f g))).1
theorem po (c i e d f g r0):(@QO R N c i e d f g r0)=(gN N r0 (fun b x u w=>(Qd N r0 e d f g b i c N x u w)) c i e d f g):=by rw[QO,(Ah _).2]
def wQ:Hints:={ H:=(hS hL (hS hL (hS (hS hL (hS (hP [1,2,3,7,20,21] hL) hL)) (hS hL (hS (hS hL (hS (hP [2,3,7,9,31,32,33] (hS hL (hS hL (hS (hS (hS hL (hS hL (hJ [2,3,7,9,12,13,31,32,33] hL (hS hL (hS hL (hS (hP [2,3,7,9,12,13,31,32,33,66,67] hL) hL)))))) hL) hL)))) hL)) hL))))) }
def Aee:Gm:=[(285,Xv N)]
def LP (F:KF R):=Ko Tryz.f251 wQ (Aee N) [] N F
def Fu (F:KF R):Int→O R:=(fun aj=>F (iv aj) [])
def Aty (b:Nat) (o p:Int) (e:LA) (d:Nat) (f g:Bool) (l q:Int) (i:Bool) (c:LA) (y z t:Int) (v:LA):St:=⟨[(2,.nsl),(3,(op 0)),(7,(.own 300001 0 b)),(9,(iv y)),(12,(iv o)),(13,(iv p)),(31,(.imm e d 1 f g)),(32,(iv l)),(33,(iv q)),(66,(iv z)),(67,(iv t))],(hq [(bP i 0 c),(bQ 1 v)])⟩
def Atz (F:KF R) (Q1:St→O R):=LP N F [1,1,1,1,0,1,0,0,1,1,0,0,1,1,1,1,1,0] [Q1]
def At0 (b:Nat) (m o p:Int) (e:LA) (d:Nat) (f g:Bool) (l:Int) (i:Bool) (c:LA) (q:Int) (aa:LA):St:=⟨[(2,.nsl),(3,(op 0)),(7,(.own 300001 0 b)),(9,(iv m)),(12,(iv o)),(13,(iv p)),(31,(.imm e d 1 f g)),(32,(iv l)),(33,(iv q))],(hq [(bP i 0 c),(bQ 1 aa)])⟩
def At1 (F:KF R) (Q1:St→O R):=LP N F [1,1,1,1,0,1,0,0,1,1,0,0,1,1,1] [Q1]
def AT (b:Nat) (e:LA) (d:Nat) (f g i:Bool) (c:LA) (m l r:Int) (s:LA):St:=⟨[(2,.nsl),(3,(op 0)),(7,(.own 300001 0 b)),(9,(iv m)),(31,(.imm e d 1 f g)),(32,(iv l)),(33,(iv r))],(hq [(bP i 0 c),(bQ 1 s)])⟩
def wR (F:KF R):=LP N F [1,1,1,1,0,1,0] []
def At2 (e:LA) (d:Nat) (f g:Bool) (b:Nat) (i:Bool) (c:LA) (x u:Int) (w:LA):St:=⟨[(1,(.imm e d 1 f g)),(2,.nsl),(3,(op 0)),(7,(.own 300001 0 b)),(20,(iv x)),(21,(iv u))],(hq [(bP i 0 c),(bQ 1 w)])⟩
def At3 (F:KF R):=LP N F [1,1,0,1,0] []
theorem eI (Q1:St→O R) (F:KF R) (b:Nat) (o p:Int) (e:LA) (d:Nat) (f g:Bool) (l q:Int) (i:Bool) (c:LA):∀ (n:Nat) (y z t:Int) (v:LA),Aj (Atz N F Q1) n (Aty b o p e d f g l q i c y z t v)=(Uh N (fun m l r s=>Q1 (AT b e d f g i c m l r s)) (Fu F) b o p e d f g l q i c n y z t v)
 | 0,_,_,_,_=>by kernel_rfl
 | n+1,y,z,t,v=>Eq.trans (by kernel_rfl) (Bu (EK N (fun m l r s=>Q1 (AT b e d f g i c m l r s)) (Fu F) b o p e d f g l q i c · y z t v) (funext fun y=>funext fun z=>funext fun t=>funext fun v=>(eI Q1 F b o p e d f g l q i c n y z t v)):_)
theorem Aef (Q1:St→O R) (F:KF R) (b:Nat) (m o p:Int) (e:LA) (d:Nat) (f g:Bool) (l:Int) (i:Bool) (c:LA):∀ (q:Int) (aa:LA),B9 (At1 N F Q1) (At0 b m o p e d f g l i c q aa)=(LO N (fun m l r s=>Q1 (AT b e d f g i c m l r s)) (Fu F) b m o p e d f g l i c q aa):=by
 intro q aa
 exact Eq.trans (by kernel_rfl) (Bu (UJ N (fun m l r s=>Q1 (AT b e d f g i c m l r s)) (Fu F) b m o p e d f g l i c · q aa) (funext fun y=>funext fun z=>funext fun t=>funext fun v=>(Ad ..).trans (eI N Q1 F b o p e d f g l q i c N y z t v)):_)
theorem eJ (F:KF R) (b:Nat) (e:LA) (d:Nat) (f g i:Bool) (c:LA):∀ (n:Nat) (m l r:Int) (s:LA),Aj (wR N F) n (AT b e d f g i c m l r s)=(Md N (Fu F) b e d f g i c n m l r s)
 | 0,_,_,_,_=>by kernel_rfl
 | n+1,m,l,r,s=>have e0:=(funext fun m=>funext fun l=>funext fun r=>funext fun s=>(eJ F b e d f g i c n m l r s))
  Eq.trans (by kernel_rfl) (NY (EL N (Fu F) b e d f g i c · · m l r s) e0 (funext fun o=>funext fun p=>funext fun q=>funext fun aa=>(A4 ..).trans ((Aef N (Aj (wR N F) n) F b m o p e d f g l i c q aa).trans (Bu (LO N · (Fu F) b m o p e d f g l i c q aa) e0))):_)
theorem eK (F:KF R) (e:LA) (d:Nat) (f g:Bool) (b:Nat) (i:Bool) (c:LA):∀ (n:Nat) (x u:Int) (w:LA),Aj (At3 N F) n (At2 e d f g b i c x u w)=(Qd N (Fu F) e d f g b i c n x u w)
 | 0,_,_,_=>by kernel_rfl
 | n+1,x,u,w=>Eq.trans (by kernel_rfl) (NY (EM N (Fu F) e d f g b i c · · x u w) (funext fun x=>funext fun u=>funext fun w=>(eK F e d f g b i c n x u w)) (funext fun m=>funext fun l=>funext fun r=>funext fun s=>(Ad ..).trans (eJ N F b e d f g i c N m l r s)):_)
theorem wT (c:LA) (i:Bool) (e:LA) (d:Nat) (f g:Bool) (F:KF R):C2 (Aee N) wQ N 251 [(.pagg c i),(.imm e d 1 f g),.nsl] [] F=(QO N c i e d f g (Fu F)):=by
 rw[po]
 exact Eq.trans (by kernel_rfl) (Bu (gN N (Fu F) · c i e d f g) (funext fun b=>funext fun x=>funext fun u=>funext fun w=>(Ad ..).trans (eK N F e d f g b i c N x u w)):_)
def Td (N:Nat) (k1:Int→Int→Int→LA→O R) (r0:Int→O R) (e:LA) (f:Nat) (l g:Bool) (b:Nat) (t u:Int) (i:LA) (d:Nat) (m o:Bool) (r q:Int) (p:Bool) (c:LA) (k3:Int→Int→Int→LA→O R) (ab ac w:Int) (y:LA):O R :=
 (cond (decide (w<ac)) (cond (Ae w b) (As .i64 (y.drop (0+((w.toNat)*1))) fun ah=>(cond (ah==u) (cond (Ae w b) (cond ((Nat.beq 1 1)&&((Nat.ble ((0+((w.toNat)*1))+1) (y.length))&&(!false))) (k3 ab ac (wrap .i64 (w+1)) (y.set (0+((w.toNat)*1)) (.int .i64 t))) none) none) (k3 ab ac (wrap .i64 (w+1)) y))) none) (k1 ab r (wrap .i64 (q+1)) y))
def Lz (k1:Int→Int→Int→LA→O R) (r0:Int→O R) (e:LA) (f:Nat) (l g:Bool) (b:Nat) (t u:Int) (i:LA) (d:Nat) (m o:Bool) (r q:Int) (p:Bool) (c:LA):Nat→Int→Int→Int→LA→O R
 | 0,_,_,_,_=>none
 | n+1,ab,ac,w,y=>(Td N k1 r0 e f l g b t u i d m o r q p c (Lz k1 r0 e f l g b t u i d m o r q p c n) ab ac w y)
def BP (N:Nat) (k1:Int→Int→Int→LA→O R) (r0:Int→O R) (e:LA) (f:Nat) (l g:Bool) (b:Nat) (s t u:Int) (i:LA) (d:Nat) (m o:Bool) (r q:Int) (p:Bool) (c:LA) (q3:Int→Int→Int→LA→O R) (ad:LA):O R :=
 (q3 (wrap .i64 (s - 1)) ((b:Nat):Int) 0 ad)
def Vw (k1:Int→Int→Int→LA→O R) (r0:Int→O R) (e:LA) (f:Nat) (l g:Bool) (b:Nat) (s t u:Int) (i:LA) (d:Nat) (m o:Bool) (r q:Int) (p:Bool) (c ad:LA):O R:=(BP N k1 r0 e f l g b s t u i d m o r q p c (fun ab ac w y=>(Lz N k1 r0 e f l g b t u i d m o r q p c N ab ac w y)) ad)
def Te (r0:Int→O R) (e:LA) (f:Nat) (l g:Bool) (b:Nat) (i:LA) (d:Nat) (m o p:Bool) (c:LA) (k1:Int→Int→Int→LA→O R) (q2:Int→Int→LA→O R) (s r q:Int) (v:LA):O R :=
 (cond (decide (q<r)) (cond (Ae q d) (As .i64 (i.drop ((q.toNat)*1)) fun ae=>(B4 12 (c.drop 3) fun ai aj=>(cond (Ae ae aj) (As .i64 ((ai.drop ((ae.toNat)*12)).drop 1) fun af=>(cond (Ae af b) (As .i64 (v.drop (0+((af.toNat)*1))) fun t=>(B4 12 (c.drop 3) fun ak al=>(cond (Ae ae al) (As .i64 ((ak.drop ((ae.toNat)*12)).drop 2) fun ag=>(cond (Ae ag b) (As .i64 (v.drop (0+((ag.toNat)*1))) fun u=>(cond ((t==u)==false) (Db N e f false g ae (fun am=>(cond (cond false true am) (k1 s r (wrap .i64 (q+1)) v) (q2 t u v)))) (k1 s r (wrap .i64 (q+1)) v))) none)) none))) none)) none))) none) (r0 s))
def Gu (r0:Int→O R) (e:LA) (f:Nat) (l g:Bool) (b:Nat) (i:LA) (d:Nat) (m o p:Bool) (c:LA):Nat→Int→Int→Int→LA→O R
 | 0,_,_,_,_=>none
 | n+1,s,r,q,v=>(Te N r0 e f l g b i d m o p c (Gu r0 e f l g b i d m o p c n) (fun t u ad=>(Vw N (Gu r0 e f l g b i d m o p c n) r0 e f l g b s t u i d m o r q p c ad)) s r q v)
def Tf (N:Nat) (r0:Int→O R) (i:LA) (d:Nat) (m o:Bool) (e:LA) (f:Nat) (l g:Bool) (b:Nat) (p:Bool) (c:LA) (k0:Int→Int→LA→O R) (q1:Int→Int→Int→LA→O R) (aa x:Int) (z:LA):O R :=
 (cond (decide (x<aa)) (cond (Ae x b) (cond ((Nat.beq 1 1)&&((Nat.ble ((0+((x.toNat)*1))+1) (z.length))&&(!false))) (k0 aa (wrap .i64 (x+1)) (z.set (0+((x.toNat)*1)) (.int .i64 x))) none) none) (q1 ((b:Nat):Int) ((d:Nat):Int) 0 z))
def I6 (r0:Int→O R) (i:LA) (d:Nat) (m o:Bool) (e:LA) (f:Nat) (l g:Bool) (b:Nat) (p:Bool) (c:LA):Nat→Int→Int→LA→O R
 | 0,_,_,_=>none
 | n+1,aa,x,z=>(Tf N r0 i d m o e f l g b p c (I6 r0 i d m o e f l g b p c n) (fun s r q v=>(Gu N r0 e f l g b i d m o p c N s r q v)) aa x z)
def EN (N:Nat) (r0:Int→O R) (q0:Nat→Int→Int→LA→O R) (c:LA) (p:Bool) (i:LA) (d:Nat) (m o:Bool) (e:LA) (f:Nat) (l g:Bool):O R :=
 (B4 3 (c.drop 2) fun ao b=>(cond ((decide (0≤((b:Nat):Int)))&&((decide (((b:Nat):Int)≤((b:Nat):Int)))&&((decide (((b:Nat):Int)≤140737488355328))&&(decide ((((b:Nat):Int)*((8:Nat):Int))≤140737488355328))))) (q0 b ((b:Nat):Int) 0 (List.replicate b (.int .i64 0))) none))
def Ui:=(Ah (fun (N:Nat) (c:LA) (p:Bool) (i:LA) (d:Nat) (m o:Bool) (e:LA) (f:Nat) (l g:Bool) (r0:Int→O R)=>(EN N r0 (fun b aa x z=>(I6 N r0 i d m o e f l g b p c N aa x z)) c p i d m o e f l g))).1
theorem YP (c p i d m o e f l g r0):(@Ui R N c p i d m o e f l g r0)=(EN N r0 (fun b aa x z=>(I6 N r0 i d m o e f l g b p c N aa x z)) c p i d m o e f l g):=by rw[Ui,(Ah _).2]
def eM:Hints:={ H:=(hS hL (hS hL (hS (hS hL (hS (hP [1,2,3,7,20,21] hL) hL)) (hS hL (hS (hS hL (hS (hP [2,3,7,9,31,32,33] (hS hL (hS hL (hS (hS (hS hL (hS hL (hJ [2,3,7,9,12,13,31,32,33] hL (hS hL (hS hL (hS (hP [2,3,7,9,12,13,31,32,33,66,67] hL) hL)))))) hL) hL)))) hL)) hL))))) }
def kF:Gm:=[(285,O0 N)]
def Vx (F:KF R):=Ko Tryz.f251 eM (kF N) [] N F
def C7 (F:KF R):Int→O R:=(fun an=>F (iv an) [])
def Aeg (e:LA) (f:Nat) (l g:Bool) (b:Nat) (t u:Int) (i:LA) (d:Nat) (m o:Bool) (r q:Int) (p:Bool) (c:LA) (ab ac w:Int) (y:LA):St:=⟨[(2,(.imm e f 1 l g)),(3,(op 0)),(7,(.own 300001 0 b)),(9,(iv ab)),(12,(iv t)),(13,(iv u)),(31,(.imm i d 1 m o)),(32,(iv r)),(33,(iv q)),(66,(iv ac)),(67,(iv w))],(hq [(bP p 0 c),(bQ 1 y)])⟩
def Aeh (F:KF R) (Q1:St→O R):=Vx N F [1,1,1,1,0,1,0,0,1,1,0,0,1,1,1,1,1,0] [Q1]
def Aei (e:LA) (f:Nat) (l g:Bool) (b:Nat) (s t u:Int) (i:LA) (d:Nat) (m o:Bool) (r q:Int) (p:Bool) (c ad:LA):St:=⟨[(2,(.imm e f 1 l g)),(3,(op 0)),(7,(.own 300001 0 b)),(9,(iv s)),(12,(iv t)),(13,(iv u)),(31,(.imm i d 1 m o)),(32,(iv r)),(33,(iv q))],(hq [(bP p 0 c),(bQ 1 ad)])⟩
def Aej (F:KF R) (Q1:St→O R):=Vx N F [1,1,1,1,0,1,0,0,1,1,0,0,1,1,1] [Q1]
def Qe (e:LA) (f:Nat) (l g:Bool) (b:Nat) (i:LA) (d:Nat) (m o p:Bool) (c:LA) (s r q:Int) (v:LA):St:=⟨[(2,(.imm e f 1 l g)),(3,(op 0)),(7,(.own 300001 0 b)),(9,(iv s)),(31,(.imm i d 1 m o)),(32,(iv r)),(33,(iv q))],(hq [(bP p 0 c),(bQ 1 v)])⟩
def eN (F:KF R):=Vx N F [1,1,1,1,0,1,0] []
def Aek (i:LA) (d:Nat) (m o:Bool) (e:LA) (f:Nat) (l g:Bool) (b:Nat) (p:Bool) (c:LA) (aa x:Int) (z:LA):St:=⟨[(1,(.imm i d 1 m o)),(2,(.imm e f 1 l g)),(3,(op 0)),(7,(.own 300001 0 b)),(20,(iv aa)),(21,(iv x))],(hq [(bP p 0 c),(bQ 1 z)])⟩
def Ael (F:KF R):=Vx N F [1,1,0,1,0] []
theorem LQ (Q1:St→O R) (F:KF R) (e:LA) (f:Nat) (l g:Bool) (b:Nat) (t u:Int) (i:LA) (d:Nat) (m o:Bool) (r q:Int) (p:Bool) (c:LA):∀ (n:Nat) (ab ac w:Int) (y:LA),Aj (Aeh N F Q1) n (Aeg e f l g b t u i d m o r q p c ab ac w y)=(Lz N (fun s r q v=>Q1 (Qe e f l g b i d m o p c s r q v)) (C7 F) e f l g b t u i d m o r q p c n ab ac w y)
 | 0,_,_,_,_=>by kernel_rfl
 | n+1,ab,ac,w,y=>Eq.trans (by kernel_rfl) (Bu (Td N (fun s r q v=>Q1 (Qe e f l g b i d m o p c s r q v)) (C7 F) e f l g b t u i d m o r q p c · ab ac w y) (funext fun ab=>funext fun ac=>funext fun w=>funext fun y=>(LQ Q1 F e f l g b t u i d m o r q p c n ab ac w y)):_)
theorem pp (Q1:St→O R) (F:KF R) (e:LA) (f:Nat) (l g:Bool) (b:Nat) (s t u:Int) (i:LA) (d:Nat) (m o:Bool) (r q:Int) (p:Bool) (c:LA):∀ (ad:LA),B9 (Aej N F Q1) (Aei e f l g b s t u i d m o r q p c ad)=(Vw N (fun s r q v=>Q1 (Qe e f l g b i d m o p c s r q v)) (C7 F) e f l g b s t u i d m o r q p c ad):=by
 intro ad
 exact Eq.trans (by kernel_rfl) (Bu (BP N (fun s r q v=>Q1 (Qe e f l g b i d m o p c s r q v)) (C7 F) e f l g b s t u i d m o r q p c · ad) (funext fun ab=>funext fun ac=>funext fun w=>funext fun y=>(Ad ..).trans (LQ N Q1 F e f l g b t u i d m o r q p c N ab ac w y)):_)
theorem LR (F:KF R) (e:LA) (f:Nat) (l g:Bool) (b:Nat) (i:LA) (d:Nat) (m o p:Bool) (c:LA):∀ (n:Nat) (s r q:Int) (v:LA),Aj (eN N F) n (Qe e f l g b i d m o p c s r q v)=(Gu N (C7 F) e f l g b i d m o p c n s r q v)
 | 0,_,_,_,_=>by kernel_rfl
 | n+1,s,r,q,v=>have e0:=(funext fun s=>funext fun r=>funext fun q=>funext fun v=>(LR F e f l g b i d m o p c n s r q v))
  Eq.trans (by kernel_rfl) (NY (Te N (C7 F) e f l g b i d m o p c · · s r q v) e0 (funext fun t=>funext fun u=>funext fun ad=>(A4 ..).trans ((pp N (Aj (eN N F) n) F e f l g b s t u i d m o r q p c ad).trans (Bu (Vw N · (C7 F) e f l g b s t u i d m o r q p c ad) e0))):_)
theorem LT (F:KF R) (i:LA) (d:Nat) (m o:Bool) (e:LA) (f:Nat) (l g:Bool) (b:Nat) (p:Bool) (c:LA):∀ (n:Nat) (aa x:Int) (z:LA),Aj (Ael N F) n (Aek i d m o e f l g b p c aa x z)=(I6 N (C7 F) i d m o e f l g b p c n aa x z)
 | 0,_,_,_=>by kernel_rfl
 | n+1,aa,x,z=>Eq.trans (by kernel_rfl) (NY (Tf N (C7 F) i d m o e f l g b p c · · aa x z) (funext fun aa=>funext fun x=>funext fun z=>(LT F i d m o e f l g b p c n aa x z)) (funext fun s=>funext fun r=>funext fun q=>funext fun v=>(Ad ..).trans (LR N F e f l g b i d m o p c N s r q v)):_)
theorem eP (c:LA) (p:Bool) (i:LA) (d:Nat) (m o:Bool) (e:LA) (f:Nat) (l g:Bool) (F:KF R):C2 (kF N) eM N 251 [(.pagg c p),(.imm i d 1 m o),(.imm e f 1 l g)] [] F=(Ui N c p i d m o e f l g (C7 F)):=by
 rw[YP]
 exact Eq.trans (by kernel_rfl) (Bu (EN N (C7 F) · c p i d m o e f l g) (funext fun b=>funext fun aa=>funext fun x=>funext fun z=>(Ad ..).trans (LT N F i d m o e f l g b p c N aa x z)):_)
def Vy (k0:Int→Bool→LA→O R) (r0:Bool→LA→O R) (l:Nat) (q d:Int) (m:LA) (o:Nat) (p:LA) (c:Bool) (b:LA) (k1:Int→Int→Bool→Int→Int→Bool→LA→O R) (r s:Int) (t:Bool) (u i:Int) (v:Bool) (w:LA):O R :=
 (cond (decide (i<u)) (cond (Ae i o) (cond (Nat.ble 4 ((m.drop ((i.toNat)*4)).length)) (cond ((Nat.beq 0 0)&&((Nat.beq (((m.drop ((i.toNat)*4)).take 4).length) 4)&&(Nat.beq 4 4))) (XQ N 6 i v w (fun ae x=>(cond (Nat.ble 8 (x.length)) (B4 1 (((m.drop ((i.toNat)*4)).take 4).drop 1) fun af ag=>(Ui N (x.take 8) ae (p.take (l*1)) l false true af ag false t (fun ah=>(A3 N (ah==q) r 13 ae x (fun ai aj=>(k1 r s t u (wrap .i64 (i+1)) ai aj)))))) none))) none) none) none) (k0 (wrap .i64 (s+1)) v w))
def Kw (k0:Int→Bool→LA→O R) (r0:Bool→LA→O R) (l:Nat) (q d:Int) (m:LA) (o:Nat) (p:LA) (c:Bool) (b:LA):Nat→Int→Int→Bool→Int→Int→Bool→LA→O R
 | 0,_,_,_,_,_,_,_=>none
 | n+1,r,s,t,u,i,v,w=>(Vy N k0 r0 l q d m o p c b (Kw k0 r0 l q d m o p c b n) r s t u i v w)
def Vz (r0:Bool→LA→O R) (d:Int) (c:Bool) (b:LA) (k0:Int→Bool→LA→O R) (q1:Nat→Int→LA→Nat→LA→Int→Int→Bool→Int→Int→Bool→LA→O R) (g:Int) (f:Bool) (e:LA):O R :=
 (cond (decide (g<d)) (cond (Nat.ble 8 (e.length)) (FM N (e.take 8) f g (fun l p=>(cond (Nat.ble 8 (e.length)) (QO N (e.take 8) f (p.take (l*1)) l false true (fun q=>(B4 4 (e.drop 7) fun m o=>(q1 l q m o p g g f ((o:Nat):Int) 0 f e)))) none))) none) (r0 f e))
def H4 (r0:Bool→LA→O R) (d:Int) (c:Bool) (b:LA):Nat→Int→Bool→LA→O R
 | 0,_,_,_=>none
 | n+1,g,f,e=>(Vz N r0 d c b (H4 r0 d c b n) (fun l q m o p r s t u i v w=>(Kw N (H4 r0 d c b n) r0 l q d m o p c b N r s t u i v w)) g f e)
def LU (N:Nat) (r0:Bool→LA→O R) (q0:Int→Int→Bool→LA→O R) (c:Bool) (b:LA):O R :=
 (As .i64 b fun d=>(q0 d 0 c b))
def Tu:=(Ah (fun (N:Nat) (c:Bool) (b:LA) (r0:Bool→LA→O R)=>(LU N r0 (fun d g f e=>(H4 N r0 d c b N g f e)) c b))).1
theorem eQ (c b r0):(@Tu R N c b r0)=(LU N r0 (fun d g f e=>(H4 N r0 d c b N g f e)) c b):=by rw[Tu,(Ah _).2]
def kG:Hints:={ H:=(hS hL (hS (hP [0,11,12] (hS hL (hS hL (hS (hS (hS hL (hS hL (hS hL (hS hL (hS (hP [0,2,3,4,11,12,31,32,33] hL) hL))))) hL) hL)))) hL)) }
def Nx (a:LA) (h:Ai) (k:KF R):O R :=
 match a,h with
 | [(.pagg y z),(.imm aa ab 1 ac ad),.nsl],[]=>(QO N y z aa ab ac ad (Fu k))
 | [(.pagg y z),(.imm aa ab 1 ac ad),(.imm ak al 1 am an)],[]=>(Ui N y z aa ab ac ad ak al am an (C7 k))
 | _,_=>none
theorem O4:Am N 251 @Nx:=by
 intro R Q a h k j;unfold Nx;split;exact Az (wT ..) (wT ..) ⟨Xw N,trivial⟩;exact Az (eP ..) (eP ..) ⟨O1 N,trivial⟩;exact A2
def EO:=A1 (O4 N)
def EP:=C5 (O4 N)
def pq:Gm:=[(250,An5 N),(251,EO N),(233,AM N),(236,De N)]
def kH (F:KF R):=Ko Tryz.f178 kG (pq N) [100000] N F
def H5 (F:KF R):Bool→LA→O R:=(fun ao ap=>F (.tup []) [(100000,(bP ao 0 ap))])
def Ahr (l:Nat) (q d:Int) (m:LA) (o:Nat) (p:LA) (c:Bool) (b:LA) (r s:Int) (t:Bool) (u i:Int) (v:Bool) (w:LA):St:=⟨[(0,(.optr 100000 0)),(2,(iv r)),(3,(.own 300000 0 l)),(4,(iv q)),(11,(iv d)),(12,(iv s)),(31,(.imm m o 4 false t)),(32,(iv u)),(33,(iv i))],[(100000,(bP v 0 w)),(300000,(bQ 1 p))]⟩
def Ahs (F:KF R) (Q0:St→O R):=kH N F [1,0,0,1,1,0,0,1,1,1,1,0] [Q0]
def M_ (d:Int) (c:Bool) (b:LA) (g:Int) (f:Bool) (e:LA):St:=⟨[(0,(.optr 100000 0)),(11,(iv d)),(12,(iv g))],[(100000,(bP f 0 e))]⟩
def kI (F:KF R):=kH N F [1,0] []
theorem QP (Q0:St→O R) (F:KF R) (l:Nat) (q d:Int) (m:LA) (o:Nat) (p:LA) (c:Bool) (b:LA):∀ (n:Nat) (r s:Int) (t:Bool) (u i:Int) (v:Bool) (w:LA),Aj (Ahs N F Q0) n (Ahr l q d m o p c b r s t u i v w)=(Kw N (fun g f e=>Q0 (M_ d c b g f e)) (H5 F) l q d m o p c b n r s t u i v w)
 | 0,_,_,_,_,_,_,_=>by kernel_rfl
 | n+1,r,s,t,u,i,v,w=>Eq.trans (by kernel_rfl) (Bu (Vy N (fun g f e=>Q0 (M_ d c b g f e)) (H5 F) l q d m o p c b · r s t u i v w) (funext fun r=>funext fun s=>funext fun t=>funext fun u=>funext fun i=>funext fun v=>funext fun w=>(QP Q0 F l q d m o p c b n r s t u i v w)):_)
theorem QQ (F:KF R) (d:Int) (c:Bool) (b:LA):∀ (n:Nat) (g:Int) (f:Bool) (e:LA),Aj (kI N F) n (M_ d c b g f e)=(H4 N (H5 F) d c b n g f e)
 | 0,_,_,_=>by kernel_rfl
 | n+1,g,f,e=>have e0:=(funext fun g=>funext fun f=>funext fun e=>(QQ F d c b n g f e))
  Eq.trans (by kernel_rfl) (NY (Vz N (H5 F) d c b · · g f e) e0 (funext fun l=>funext fun q=>funext fun m=>funext fun o=>funext fun p=>funext fun r=>funext fun s=>funext fun t=>funext fun u=>funext fun i=>funext fun v=>funext fun w=>(Ad ..).trans ((QP N (Aj (kI N F) n) F l q d m o p c b N r s t u i v w).trans (Bu (Kw N · (H5 F) l q d m o p c b N r s t u i v w) e0))):_)
theorem kJ (c:Bool) (b:LA) (F:KF R):C2 (pq N) kG N 178 [(.optr 100000 0)] [(100000,(bP c 0 b))] F=(Tu N c b (H5 F)):=by
 rw[eQ]
 exact Eq.trans (by kernel_rfl) (Bu (LU N (H5 F) · c b) (funext fun d=>funext fun g=>funext fun f=>funext fun e=>(Ad ..).trans (QQ N F d c b N g f e)):_)
def eV (a:LA) (h:Ai) (k:KF R):O R :=
 match a,h with
 | [(.optr 100000 0)],[(100000,⟨false,false,true,c,0,b,false,none⟩)]=>(Tu N c b (H5 k))
 | _,_=>none
theorem kK:Am N 178 @eV:=by
 intro R Q a h k j;unfold eV;split;exact Az (kJ ..) (kJ ..) ⟨An6 N,EP N,AN N,Df N,trivial⟩;exact A2
def Aht:=A1 (kK N)
def Ahu:=C5 (kK N)
def Ff (r0:LA→Int→O R) (k0:Int→Bool→LA→O R) (b:Int) (c:Bool) (d:LA):O R :=
 (cond (decide (b<8)) (cond (Ae b 8) (cond (Nat.beq (0+((b.toNat)*1)) 0) (HR N c d (fun s g=>(As .i64 (g.drop 11) fun aa=>(cond (aa != 0) (cond (Nat.ble 3 ((g.drop 8).length)) (cond ((!s)||(A0 ((g.drop 8).take 3))) (As .i64 (g.drop 11) fun ab=>(cond ((Nat.beq (((g.drop 8).take 3).length) 3)&&((Nat.ble 3 3)&&(!false))) (cond (Nat.ble 3 ((setCells [(.int .i64 0),(.int .i64 0),(.int .i64 0)] 0 ((g.drop 8).take 3)).length)) (r0 ((setCells [(.int .i64 0),(.int .i64 0),(.int .i64 0)] 0 ((g.drop 8).take 3)).take 3) ab) none) none)) none) none) (k0 (wrap .i64 (b+1)) s g))))) (cond (Nat.beq (0+((b.toNat)*1)) 1) (HT N c d (fun t i=>(As .i64 (i.drop 11) fun ac=>(cond (ac != 0) (cond (Nat.ble 3 ((i.drop 8).length)) (cond ((!t)||(A0 ((i.drop 8).take 3))) (As .i64 (i.drop 11) fun ad=>(cond ((Nat.beq (((i.drop 8).take 3).length) 3)&&((Nat.ble 3 3)&&(!false))) (cond (Nat.ble 3 ((setCells [(.int .i64 0),(.int .i64 0),(.int .i64 0)] 0 ((i.drop 8).take 3)).length)) (r0 ((setCells [(.int .i64 0),(.int .i64 0),(.int .i64 0)] 0 ((i.drop 8).take 3)).take 3) ad) none) none)) none) none) (k0 (wrap .i64 (b+1)) t i))))) (cond (Nat.beq (0+((b.toNat)*1)) 2) (HW N c d (fun u l=>(As .i64 (l.drop 11) fun ae=>(cond (ae != 0) (cond (Nat.ble 3 ((l.drop 8).length)) (cond ((!u)||(A0 ((l.drop 8).take 3))) (As .i64 (l.drop 11) fun af=>(cond ((Nat.beq (((l.drop 8).take 3).length) 3)&&((Nat.ble 3 3)&&(!false))) (cond (Nat.ble 3 ((setCells [(.int .i64 0),(.int .i64 0),(.int .i64 0)] 0 ((l.drop 8).take 3)).length)) (r0 ((setCells [(.int .i64 0),(.int .i64 0),(.int .i64 0)] 0 ((l.drop 8).take 3)).take 3) af) none) none)) none) none) (k0 (wrap .i64 (b+1)) u l))))) (cond (Nat.beq (0+((b.toNat)*1)) 3) (HX N c d (fun v m=>(As .i64 (m.drop 11) fun ag=>(cond (ag != 0) (cond (Nat.ble 3 ((m.drop 8).length)) (cond ((!v)||(A0 ((m.drop 8).take 3))) (As .i64 (m.drop 11) fun ah=>(cond ((Nat.beq (((m.drop 8).take 3).length) 3)&&((Nat.ble 3 3)&&(!false))) (cond (Nat.ble 3 ((setCells [(.int .i64 0),(.int .i64 0),(.int .i64 0)] 0 ((m.drop 8).take 3)).length)) (r0 ((setCells [(.int .i64 0),(.int .i64 0),(.int .i64 0)] 0 ((m.drop 8).take 3)).take 3) ah) none) none)) none) none) (k0 (wrap .i64 (b+1)) v m))))) (cond (Nat.beq (0+((b.toNat)*1)) 4) (Xs N c d (fun w o=>(As .i64 (o.drop 11) fun ai=>(cond (ai != 0) (cond (Nat.ble 3 ((o.drop 8).length)) (cond ((!w)||(A0 ((o.drop 8).take 3))) (As .i64 (o.drop 11) fun aj=>(cond ((Nat.beq (((o.drop 8).take 3).length) 3)&&((Nat.ble 3 3)&&(!false))) (cond (Nat.ble 3 ((setCells [(.int .i64 0),(.int .i64 0),(.int .i64 0)] 0 ((o.drop 8).take 3)).length)) (r0 ((setCells [(.int .i64 0),(.int .i64 0),(.int .i64 0)] 0 ((o.drop 8).take 3)).take 3) aj) none) none)) none) none) (k0 (wrap .i64 (b+1)) w o))))) (cond (Nat.beq (0+((b.toNat)*1)) 5) (UF N c d (fun x p=>(As .i64 (p.drop 11) fun ak=>(cond (ak != 0) (cond (Nat.ble 3 ((p.drop 8).length)) (cond ((!x)||(A0 ((p.drop 8).take 3))) (As .i64 (p.drop 11) fun al=>(cond ((Nat.beq (((p.drop 8).take 3).length) 3)&&((Nat.ble 3 3)&&(!false))) (cond (Nat.ble 3 ((setCells [(.int .i64 0),(.int .i64 0),(.int .i64 0)] 0 ((p.drop 8).take 3)).length)) (r0 ((setCells [(.int .i64 0),(.int .i64 0),(.int .i64 0)] 0 ((p.drop 8).take 3)).take 3) al) none) none)) none) none) (k0 (wrap .i64 (b+1)) x p))))) (cond (Nat.beq (0+((b.toNat)*1)) 6) (Tt N c d (fun y q=>(As .i64 (q.drop 11) fun am=>(cond (am != 0) (cond (Nat.ble 3 ((q.drop 8).length)) (cond ((!y)||(A0 ((q.drop 8).take 3))) (As .i64 (q.drop 11) fun an=>(cond ((Nat.beq (((q.drop 8).take 3).length) 3)&&((Nat.ble 3 3)&&(!false))) (cond (Nat.ble 3 ((setCells [(.int .i64 0),(.int .i64 0),(.int .i64 0)] 0 ((q.drop 8).take 3)).length)) (r0 ((setCells [(.int .i64 0),(.int .i64 0),(.int .i64 0)] 0 ((q.drop 8).take 3)).take 3) an) none) none)) none) none) (k0 (wrap .i64 (b+1)) y q))))) (cond (Nat.beq (0+((b.toNat)*1)) 7) (Tu N c d (fun z r=>(As .i64 (r.drop 11) fun ao=>(cond (ao != 0) (cond (Nat.ble 3 ((r.drop 8).length)) (cond ((!z)||(A0 ((r.drop 8).take 3))) (As .i64 (r.drop 11) fun ap=>(cond ((Nat.beq (((r.drop 8).take 3).length) 3)&&((Nat.ble 3 3)&&(!false))) (cond (Nat.ble 3 ((setCells [(.int .i64 0),(.int .i64 0),(.int .i64 0)] 0 ((r.drop 8).take 3)).length)) (r0 ((setCells [(.int .i64 0),(.int .i64 0),(.int .i64 0)] 0 ((r.drop 8).take 3)).take 3) ap) none) none)) none) none) (k0 (wrap .i64 (b+1)) z r))))) none)))))))) none) (r0 [(.int .i64 0),(.int .i64 0),(.int .i64 0)] 0))
def A8 (r0:LA→Int→O R):Nat→Int→Bool→LA→O R
 | 0,_,_,_=>none
 | n+1,b,c,d=>(Ff N r0 (A8 r0 n) b c d)
def gO (N:Nat) (r0:LA→Int→O R) (q0:Int→Bool→LA→O R) (e:LA) (f:Bool):O R :=
 (cond (Nat.ble 8 (e.length)) (cond ((Nat.beq ((e.take 8).length) 8)&&(Nat.ble 8 12)) (q0 0 (f||false) (setCells [(.int .i64 0),.nsl,.nsl,.nsl,.nsl,.nsl,.nsl,.nsl,(.int .i64 0),(.int .i64 0),(.int .i64 0),(.int .i64 0)] 0 (e.take 8))) none) none)
def IC:=(Ah (fun (N:Nat) (e:LA) (f:Bool) (r0:LA→Int→O R)=>(gO N r0 (fun b c d=>(A8 N r0 N b c d)) e f))).1
theorem pt (e f r0):(@IC R N e f r0)=(gO N r0 (fun b c d=>(A8 N r0 N b c d)) e f):=by rw[IC,(Ah _).2]
def wU:Hints:={ H:=(hS hL (hS hL (hS (hS hL (hS (hP [2,4,26,27,28] hL) hL)) hL))),modes:=[(3,0),(0,0)] }
def Aem:Gm:=[(171,As1 N),(172,As6 N),(173,Ate N),(174,Atm N),(175,An0 N),(176,Ayg N),(177,Ahk N),(178,Aht N)]
def At4 (F:KF R):=Ko Tryz.f104 wU (Aem N) [] N F
def AU (F:KF R):LA→Int→O R:=(fun aq ar=>F (.tup [(.pagg aq false),(iv ar)]) [])
def At5 (b:Int) (c:Bool) (d:LA):St:=⟨[(2,(op 0)),(4,(op 1)),(26,(.own 300002 0 8)),(27,(iv 8)),(28,(iv b))],(hq [(bQ 0 [(iv 0),(iv 0),(iv 0)]),(bP c 0 d),(bN 1 [(.fn 1000171 [(op 1)]),(.fn 1000172 [(op 1)]),(.fn 1000173 [(op 1)]),(.fn 1000174 [(op 1)]),(.fn 1000175 [(op 1)]),(.fn 1000176 [(op 1)]),(.fn 1000177 [(op 1)]),(.fn 1000178 [(op 1)])])])⟩
def At6 (F:KF R):=At4 N F [1,1,0,1,0] []
theorem eW (F:KF R):∀ (n:Nat) (b:Int) (c:Bool) (d:LA),Aj (At6 N F) n (At5 b c d)=(A8 N (AU F) n b c d)
 | 0,_,_,_=>by kernel_rfl
 | n+1,b,c,d=>Eq.trans (by kernel_rfl) (Bu (Ff N (AU F) · b c d) (funext fun b=>funext fun c=>funext fun d=>(eW F n b c d)):_)
theorem wV (e:LA) (f:Bool) (F:KF R):C2 (Aem N) wU N 104 [(.pagg e f)] [] F=(IC N e f (AU F)):=by
 rw[pt]
 exact Eq.trans (by kernel_rfl) (Bu (gO N (AU F) · e f) (funext fun b=>funext fun c=>funext fun d=>(Ad ..).trans (eW N F N b c d)):_)
def pu (a:LA) (h:Ai) (k:KF R):O R :=
 match a,h with
 | [(.pagg e f)],[]=>(IC N e f (AU k))
 | _,_=>none
theorem wW:Am N 104 @pu:=by
 intro R Q a h k j;unfold pu;split;exact Az (wV ..) (wV ..) ⟨As2 N,As7 N,Atf N,Atn N,An1 N,Ayh N,Ahl N,Ahu N,trivial⟩;exact A2
def wX:=A1 (wW N)
def wY:=C5 (wW N)
def kL (N:Nat) (b:List UInt8) (r0:Bool→O R):O R :=
 (r0 (b==([]:List UInt8)))
def Rc:=(Ah (@kL R)).1
theorem QR:@Rc R=@kL R:=(Ah _).2
def YQ (F:KF R):Bool→O R:=(fun c=>F (.bool c) [])
theorem YR (b:List UInt8) (F:KF R):C2 [] Dc N 182 [(.str b)] [] F=(Rc N b (YQ F)):=by
 rw[QR]
 kernel_rfl
def QS (a:LA) (h:Ai) (k:KF R):O R :=
 match a,h with
 | [(.str b)],[]=>(Rc N b (YQ k))
 | _,_=>none
theorem YS:Am N 182 @QS:=by
 intro R Q a h k j;unfold QS;split;exact Az (YR ..) (YR ..) trivial;exact A2
def YT:=A1 (YS N)
def YU:=C5 (YS N)
end
end Gx

namespace Gx.Cf
open Go Go.Proofs
section
variable {R:Type}
theorem At7 {f:Int→Int} {L:List Int} {j:Nat} (h:j<L.length):((L.take j).map f++L.drop j).set j (f L[j])=(L.take (j+1)).map f++L.drop (j+1):=by
 have b:j - ((L.take j).map f).length=0:=by simp;omega
 rw[List.set_append_right _ _ (by simp;omega),b,List.take_succ_eq_append_getElem h,List.map_append,B7 h,List.set_cons_zero,List.append_assoc];rfl
theorem At8 {f:Int→Int} {L:List Int} {j:Nat} (h:j<L.length):((L.take j).map f++L.drop j).getD j 0=L[j]:=by
 have b:j - ((L.take j).map f).length=0:=by simp;omega
 rw[List.getD_eq_getElem?_getD,List.getElem?_append_right (by simp;omega),b,B7 h];rfl
theorem Aj9 {f:Int→Int} {L:List Int} {j:Nat} (h:j<L.length) (b:f L[j]=L[j]):(L.take j).map f++L.drop j=(L.take (j+1)).map f++L.drop (j+1):=by
 rw[List.take_succ_eq_append_getElem h,List.map_append,B7 h];simp[b]
theorem kM {N:Nat} {c:CaseD} {L:List Int} {x7 x11 i32 i33 cnt:Int} {ls:List Int} {t1 o1 o0:Bool} {K1:Int→Int→Int→LA→O R} {K:Int→O R} (hs:L.length<4611686018427387904):∀ (m j fuel:Nat),j+m=L.length→m<fuel →
  Uh N K1 K L.length x7 x11 (Ao ls) ls.length t1 o1 i32 i33 o0 c.av fuel cnt (L.length:Int) (j:Int) (Ao ((L.take j).map (fun x=>cond (x==x11) x7 x)++L.drop j))=K1 cnt i32 (IntKind.wrap .i64 (i33+1)) (Ao (pn L x11 x7))
 | 0,j,fuel+1,k,_=>by
  rw[Uh];unfold EK
  rw[Iz (by omega),cf,C1 (by omega),List.append_nil,List.take_of_length_le (by omega)];rfl
 | m+1,j,fuel+1,k,b=>by
  rw[Uh];unfold EK
  have h:j<L.length:=by omega
  have d:((L.take j).map (fun x=>cond (x==x11) x7 x)++L.drop j).length=L.length:=by simp;omega
  have e:=kM (N:=N) (c:=c) (L:=L) (x7:=x7) (x11:=x11) (i32:=i32) (i33:=i33) (cnt:=cnt) (ls:=ls) (t1:=t1) (o1:=o1) (o0:=o0) (K1:=K1) (K:=K) hs m (j+1) fuel (by omega) (by omega)
  rw[Hh h,ct,Ab h,ct,Acm (by rw[d];simpa using h),Int.toNat_natCast,At8 h,ct,TN (by rw[d];exact h),ct,Nat.zero_add,Nat.mul_one,AH,Bp (by omega)]
  cases i:L[j]==x11 with
  | true =>
   have b:=At7 (f:=fun x=>cond (x==x11) x7 x) h
   simp only[i,cond_true] at b
   rw[b,ct,e]
  | false =>
   rw[cf,Aj9 h (by simp[i]),e]
theorem M' {N:Nat} {c:CaseD} {ls:List Int} {t1 o1 o0:Bool} {K:Int→O R} (hN:8≤N) (e:Fq c.buses.l.length N) (n:ls.length≤1000000) (f:∀ l ∈ ls,∃ x,LnV c l x):∀ (m j fuel:Nat) (st:List Int×Int),j+m=ls.length→m<fuel→st.1.length=c.buses.l.length→(-1000000+(m:Int)≤st.2∧st.2≤1000000) →
  Md N K c.buses.l.length (Ao ls) ls.length t1 o1 o0 c.av fuel st.2 (ls.length:Int) (j:Int) (Ao st.1)=K ((ls.drop j).map (Fc c) |>.foldl IB st).2
 | 0,j,fuel+1,st,s,_,_,_=>by
  rw[Md];unfold EL
  rw[Iz (by omega),cf,C1 (l:=ls) (by omega)];rfl
 | m+1,j,fuel+1,st,s,t,b,u=>by
  rw[Md];unfold EL LO UJ
  have h:j<ls.length:=by omega
  obtain⟨x,d⟩:=f ls[j] (List.getElem_mem h)
  have i:=M' (N:=N) (c:=c) (ls:=ls) (t1:=t1) (o1:=o1) (o0:=o0) (K:=K) hN e n f m (j+1) fuel st (by omega) (by omega) b (by omega)
  have k:=M' (N:=N) (c:=c) (ls:=ls) (t1:=t1) (o1:=o1) (o0:=o0) (K:=K) hN e n f m (j+1) fuel (pn st.1 (st.1.getD x.tl.toNat 0) (st.1.getD x.fr.toNat 0),st.2 - 1) (by omega) (by omega) (by simp[pn,b]) (by simp only;omega)
  rw[Hh h,ct,Ab h,ct,Z7 h]
  simp only[F2,A4e d,A4f d]
  rw[Uc d.l0 d.lt,ct,Uc d.f0 d.f1,ct,Acm (by rw[b];exact d.f1),ct,Uc d.t0 d.t1,ct,Acm (by rw[b];exact d.t1),An7 hN,Bp (by omega),wrap_i64 (st.2 - 1) (by omega),B7 h]
  have q:=kM (R:=R) (N:=N) (c:=c) (L:=st.1) (x7:=st.1.getD x.fr.toNat 0) (x11:=st.1.getD x.tl.toNat 0) (i32:=(ls.length:Int)) (i33:=(j:Int)) (cnt:=st.2 - 1) (ls:=ls) (t1:=t1) (o1:=o1) (o0:=o0) (K1:=Md N K c.buses.l.length (Ao ls) ls.length t1 o1 o0 c.av fuel) (K:=K) (by rw[b];exact e.2) st.1.length 0 N (by omega) (by rw[b];exact e.1)
  simp only[List.take_zero,List.map_nil,List.nil_append,List.drop_zero,Int.natCast_zero,b,Bp (show j<4611686018427387904 by omega)] at q
  rw[q]
  rw[List.map_cons,List.foldl_cons,gC d,IB]
  cases hq:st.1.getD x.fr.toNat 0==st.1.getD x.tl.toNat 0 with
  | true=>simp only[show(true==false)=false from rfl,cond_false,cond_true];exact i
  | false=>simp only[beq_self_eq_true,cond_false,cond_true];exact k
theorem kN {N:Nat} {c:CaseD} {ls:List Int} {t1 o1 o0:Bool} {K:Int→O R} (hN:8≤N) (b:Fq c.buses.l.length N) (i:c.buses.l.length≤1000000) (e:ls.length≤1000000) (hlN:ls.length<N) (f:∀ l ∈ ls,∃ x,LnV c l x) (L:List Int) (hL:L.length=c.buses.l.length):∀ (m j fuel:Nat),j+m=c.buses.l.length→m<fuel →
  Qd N K (Ao ls) ls.length t1 o1 c.buses.l.length o0 c.av fuel (c.buses.l.length:Int) (j:Int) (Ao ((Fs c.buses.l.length).take j++L.drop j))=K ((ls).map (Fc c) |>.foldl IB (Fs c.buses.l.length,(c.buses.l.length:Int))).2
 | 0,j,fuel+1,k,_=>by
  rw[Qd];unfold EM
  have:=M' (R:=R) (N:=N) (c:=c) (ls:=ls) (t1:=t1) (o1:=o1) (o0:=o0) (K:=K) hN b e f ls.length 0 N (Fs c.buses.l.length,(c.buses.l.length:Int)) (by omega) hlN (by simp[Fs]) (by simp only;omega)
  rw[Iz (by omega),cf,C1 (by omega),List.append_nil,List.take_of_length_le (by simp[Fs];omega)]
  simpa using this
 | m+1,j,fuel+1,k,n=>by
  rw[Qd];unfold EM
  have h:j<c.buses.l.length:=by omega
  have d:((Fs c.buses.l.length).take j++L.drop j).length=c.buses.l.length:=by simp[Fs];omega
  rw[Hh h,ct,Ab h,ct,TN (by rw[d];simpa using h),ct,Int.toNat_natCast,Nat.zero_add,Nat.mul_one,AH,ln hL h,Bp (by omega),kN hN b i e hlN f L hL m (j+1) fuel (by omega) (by omega)]
theorem Ayl {N:Nat} {c:CaseD} {ls:List Int} {n:Nat} {t1 o1 o0:Bool} {K:Int→O R} (hn:n=ls.length) (hN:8≤N) (b:Fq c.buses.l.length N) (k:c.buses.l.length≤1000000) (m:ls.length≤1000000) (hlN:ls.length<N) (i:∀ l ∈ ls,∃ x,LnV c l x) :
  QO N c.av o0 (Ao ls) n t1 o1 K=K (Jj c.buses.l.length ((ls).map (Fc c)):Int):=by
 subst hn
 rw[po];unfold gN
 have:=kN (R:=R) (N:=N) (c:=c) (ls:=ls) (t1:=t1) (o1:=o1) (o0:=o0) (K:=K) hN b k m hlN i (List.replicate c.buses.l.length 0) (by simp) c.buses.l.length 0 N (by omega) b.1
 rw[Atx (by
  intro e j
  simp only[List.mem_map] at j
  obtain⟨l,d,rfl⟩:=j
  obtain⟨x,f⟩:=i l d
  rw[gC f];exact⟨f.f1,f.t1⟩)] at this
 have ok:(decide ((0:Int)≤((c.buses.l.length:Nat):Int))&&(decide (((c.buses.l.length:Nat):Int)≤((c.buses.l.length:Nat):Int))&&(decide (((c.buses.l.length:Nat):Int)≤(140737488355328:Int))&&decide ((((c.buses.l.length:Nat):Int)*((8:Nat):Int))≤(140737488355328:Int)))))=true:=by simp;omega
 rw[J4,ok,ct]
 have e:List.replicate c.buses.l.length (AV.int .i64 (0:Int))=Ao (List.replicate c.buses.l.length 0):=by simp[Ao]
 rw[e]
 simpa using this
theorem QT {N:Nat} {c:CaseD} {L:List Int} {x7 x11 i32 i33 cnt:Int} {ls:List Int} {t1 o1 o0:Bool} {gone:List Int} {t2 o2:Bool} {K1:Int→Int→Int→LA→O R} {K:Int→O R} (hs:L.length<4611686018427387904):∀ (m j fuel:Nat),j+m=L.length→m<fuel →
  Lz N K1 K (Ao gone) gone.length t2 o2 L.length x7 x11 (Ao ls) ls.length t1 o1 i32 i33 o0 c.av fuel cnt (L.length:Int) (j:Int) (Ao ((L.take j).map (fun x=>cond (x==x11) x7 x)++L.drop j))=K1 cnt i32 (IntKind.wrap .i64 (i33+1)) (Ao (pn L x11 x7))
 | 0,j,fuel+1,k,_=>by
  rw[Lz];unfold Td
  rw[Iz (by omega),cf,C1 (by omega),List.append_nil,List.take_of_length_le (by omega)];rfl
 | m+1,j,fuel+1,k,b=>by
  rw[Lz];unfold Td
  have h:j<L.length:=by omega
  have d:((L.take j).map (fun x=>cond (x==x11) x7 x)++L.drop j).length=L.length:=by simp;omega
  have e:=QT (N:=N) (c:=c) (L:=L) (x7:=x7) (x11:=x11) (i32:=i32) (i33:=i33) (cnt:=cnt) (ls:=ls) (t1:=t1) (o1:=o1) (o0:=o0) (gone:=gone) (t2:=t2) (o2:=o2) (K1:=K1) (K:=K) hs m (j+1) fuel (by omega) (by omega)
  rw[Hh h,ct,Ab h,ct,Acm (by rw[d];simpa using h),Int.toNat_natCast,At8 h,ct,TN (by rw[d];exact h),ct,Nat.zero_add,Nat.mul_one,AH,Bp (by omega)]
  cases i:L[j]==x11 with
  | true =>
   have b:=At7 (f:=fun x=>cond (x==x11) x7 x) h
   simp only[i,cond_true] at b
   rw[b,ct,e]
  | false =>
   rw[cf,Aj9 h (by simp[i]),e]
theorem Xx {N:Nat} {c:CaseD} {ls:List Int} {t1 o1 o0:Bool} {gone:List Int} {t2 o2:Bool} {K:Int→O R} (hN:8≤N) (e:Fq c.buses.l.length N) (q:ls.length≤1000000) (i:∀ l ∈ ls,∃ x,LnV c l x) (k:Fq gone.length N):∀ (m j fuel:Nat) (st:List Int×Int),j+m=ls.length→m<fuel→st.1.length=c.buses.l.length→(-1000000+(m:Int)≤st.2∧st.2≤1000000) →
  Gu N K (Ao gone) gone.length t2 o2 c.buses.l.length (Ao ls) ls.length t1 o1 o0 c.av fuel st.2 (ls.length:Int) (j:Int) (Ao st.1)=K ((((ls.drop j).filter fun l=>!gone.contains l)).map (Fc c) |>.foldl IB st).2
 | 0,j,fuel+1,st,t,_,_,_=>by
  rw[Gu];unfold Te
  rw[Iz (by omega),cf,C1 (l:=ls) (by omega)];rfl
 | m+1,j,fuel+1,st,t,v,b,y=>by
  rw[Gu];unfold Te Vw BP
  have h:j<ls.length:=by omega
  obtain⟨x,d⟩:=i ls[j] (List.getElem_mem h)
  have f:=Xx (N:=N) (c:=c) (ls:=ls) (t1:=t1) (o1:=o1) (o0:=o0) (gone:=gone) (t2:=t2) (o2:=o2) (K:=K) hN e q i k m (j+1) fuel st (by omega) (by omega) b (by omega)
  have n:=Xx (N:=N) (c:=c) (ls:=ls) (t1:=t1) (o1:=o1) (o0:=o0) (gone:=gone) (t2:=t2) (o2:=o2) (K:=K) hN e q i k m (j+1) fuel (pn st.1 (st.1.getD x.tl.toNat 0) (st.1.getD x.fr.toNat 0),st.2 - 1) (by omega) (by omega) (by simp[pn,b]) (by simp only;omega)
  rw[Hh h,ct,Ab h,ct,Z7 h]
  simp only[F2,A4e d,A4f d]
  rw[Uc d.l0 d.lt,ct,Uc d.f0 d.f1,ct,Acm (by rw[b];exact d.f1),ct,Uc d.t0 d.t1,ct,Acm (by rw[b];exact d.t1),jz rfl k,Bp (by omega),wrap_i64 (st.2 - 1) (by omega),B7 h]
  have s:=QT (R:=R) (N:=N) (c:=c) (L:=st.1) (x7:=st.1.getD x.fr.toNat 0) (x11:=st.1.getD x.tl.toNat 0) (i32:=(ls.length:Int)) (i33:=(j:Int)) (cnt:=st.2 - 1) (ls:=ls) (t1:=t1) (o1:=o1) (o0:=o0) (gone:=gone) (t2:=t2) (o2:=o2) (K1:=Gu N K (Ao gone) gone.length t2 o2 c.buses.l.length (Ao ls) ls.length t1 o1 o0 c.av fuel) (K:=K) (by rw[b];exact e.2) st.1.length 0 N (by omega) (by rw[b];exact e.1)
  simp only[List.take_zero,List.map_nil,List.nil_append,List.drop_zero,Int.natCast_zero,b,Bp (show j<4611686018427387904 by omega)] at s
  rw[s]
  rw[List.filter_cons]
  cases u:gone.contains ls[j] with
  | true =>
   simp only[Bool.not_true,cond_true,cond_false,Bool.false_eq_true,if_false]
   cases st.1.getD x.fr.toNat 0==st.1.getD x.tl.toNat 0<;>exact f
  | false =>
   simp only[Bool.not_false,if_true]
   rw[List.map_cons,List.foldl_cons,gC d,IB]
   cases hq:st.1.getD x.fr.toNat 0==st.1.getD x.tl.toNat 0 with
   | true=>simp only[show(true==false)=false from rfl,cond_false,cond_true];exact f
   | false=>simp only[beq_self_eq_true,cond_false,cond_true];exact n
theorem QU {N:Nat} {c:CaseD} {ls:List Int} {t1 o1 o0:Bool} {gone:List Int} {t2 o2:Bool} {K:Int→O R} (hN:8≤N) (b:Fq c.buses.l.length N) (k:c.buses.l.length≤1000000) (e:ls.length≤1000000) (hlN:ls.length<N) (f:∀ l ∈ ls,∃ x,LnV c l x) (i:Fq gone.length N) (L:List Int) (hL:L.length=c.buses.l.length):∀ (m j fuel:Nat),j+m=c.buses.l.length→m<fuel →
  I6 N K (Ao ls) ls.length t1 o1 (Ao gone) gone.length t2 o2 c.buses.l.length o0 c.av fuel (c.buses.l.length:Int) (j:Int) (Ao ((Fs c.buses.l.length).take j++L.drop j))=K (((ls.filter fun l=>!gone.contains l)).map (Fc c) |>.foldl IB (Fs c.buses.l.length,(c.buses.l.length:Int))).2
 | 0,j,fuel+1,n,_=>by
  rw[I6];unfold Tf
  have:=Xx (R:=R) (N:=N) (c:=c) (ls:=ls) (t1:=t1) (o1:=o1) (o0:=o0) (gone:=gone) (t2:=t2) (o2:=o2) (K:=K) hN b e f i ls.length 0 N (Fs c.buses.l.length,(c.buses.l.length:Int)) (by omega) hlN (by simp[Fs]) (by simp only;omega)
  rw[Iz (by omega),cf,C1 (by omega),List.append_nil,List.take_of_length_le (by simp[Fs];omega)]
  simpa using this
 | m+1,j,fuel+1,n,q=>by
  rw[I6];unfold Tf
  have h:j<c.buses.l.length:=by omega
  have d:((Fs c.buses.l.length).take j++L.drop j).length=c.buses.l.length:=by simp[Fs];omega
  rw[Hh h,ct,Ab h,ct,TN (by rw[d];simpa using h),ct,Int.toNat_natCast,Nat.zero_add,Nat.mul_one,AH,ln hL h,Bp (by omega),QU hN b k e hlN f i L hL m (j+1) fuel (by omega) (by omega)]
theorem Ahv {N:Nat} {c:CaseD} {ls:List Int} {n:Nat} {t1 o1 o0:Bool} {gone:List Int} {t2 o2:Bool} {n2:Nat} {K:Int→O R} (hn:n=ls.length) (d:n2=gone.length) (hN:8≤N) (b:Fq c.buses.l.length N) (m:c.buses.l.length≤1000000) (q:ls.length≤1000000) (hlN:ls.length<N) (j:∀ l ∈ ls,∃ x,LnV c l x) (s:Fq gone.length N) :
  Ui N c.av o0 (Ao ls) n t1 o1 (Ao gone) n2 t2 o2 K=K (Jj c.buses.l.length (((ls.filter fun l=>!gone.contains l)).map (Fc c)):Int):=by
 subst hn d
 rw[YP];unfold EN
 have:=QU (R:=R) (N:=N) (c:=c) (ls:=ls) (t1:=t1) (o1:=o1) (o0:=o0) (gone:=gone) (t2:=t2) (o2:=o2) (K:=K) hN b m q hlN j s (List.replicate c.buses.l.length 0) (by simp) c.buses.l.length 0 N (by omega) b.1
 rw[Atx (by
  intro e k
  simp only[List.mem_map,List.mem_filter] at k
  obtain⟨l,f,rfl⟩:=k
  obtain⟨x,i⟩:=j l f.1
  rw[gC i];exact⟨i.f1,i.t1⟩)] at this
 have ok:(decide ((0:Int)≤((c.buses.l.length:Nat):Int))&&(decide (((c.buses.l.length:Nat):Int)≤((c.buses.l.length:Nat):Int))&&(decide (((c.buses.l.length:Nat):Int)≤(140737488355328:Int))&&decide ((((c.buses.l.length:Nat):Int)*((8:Nat):Int))≤(140737488355328:Int)))))=true:=by simp;omega
 rw[J4,ok,ct]
 have e:List.replicate c.buses.l.length (AV.int .i64 (0:Int))=Ao (List.replicate c.buses.l.length 0):=by simp[Ao]
 rw[e]
 simpa using this
end
end Gx.Cf

namespace Gx.Cf
open Go Go.Proofs
section
variable {R:Type}
theorem eX {N:Nat} {c:CaseD} {h:Int} {o:Bool} {K:Nat→LA→O R} (hs:Small c N):∀ (m j fuel:Nat) (A:List Int),j+m=c.lines.l.length→m<fuel→A.length≤j →
  Nh N K h (c.lines.l.flatMap LineD.av) c.lines.l.length o fuel A.length (c.lines.l.length:Int) (j:Int) (Ao A)=K (A++dH h (c.lines.l.drop j) j).length (Ao (A++dH h (c.lines.l.drop j) j))
 | 0,j,fuel+1,A,n,_,_=>by
  rw[Nh];unfold Y5
  rw[Iz (by omega),cf,C1 (by omega),dH,List.append_nil]
 | m+1,j,fuel+1,A,n,z,hA=>by
  rw[Nh];unfold Y5
  have d:j<c.lines.l.length:=by omega
  have k:=hs.top.2.1
  have q:c.lines.l[j] ∈ c.lines.l:=List.getElem_mem d
  have s:=hs.law _ q
  rw[Hh d,ct,Ab d,ct,Int.toNat_natCast,Ax Cd _ _ d,B7 d,dH]
  have e:=eX (N:=N) (c:=c) (h:=h) (o:=o) (K:=K) hs m (j+1) fuel (A++[(j:Int)]) (by omega) (by omega) (by simp;omega)
  have i:=eX (N:=N) (c:=c) (h:=h) (o:=o) (K:=K) hs m (j+1) fuel A (by omega) (by omega) (by omega)
  generalize c.lines.l[j]=b at *
  have t:Nat.ble 12 (List.length (b.av++List.flatMap LineD.av (List.drop (j+1) c.lines.l)))=true:=by rw[Bq,List.length_append,Cd];simp
  have u:List.take 12 (b.av++List.flatMap LineD.av (List.drop (j+1) c.lines.l))=b.av:=List.take_left' (Cd b)
  have v:(Nat.ble (A.length+1) 140737488355328&&Nat.ble ((A.length+1)*8) 140737488355328)=true:=by rw[Bq,Bq];simp;omega
  have x:∀ f:LA→Nat→O R,B4 1 (List.drop 11 b.av) f=f (Ao b.away.l) b.away.l.length:=fun f=>by simp[LineD.av,Ey,Fi]
  have y:List.take (A.length*1) (Ao A)++[.int .i64 (j:Int)]=Ao (A++[(j:Int)]):=yW (B:=[(j:Int)]) rfl
  rw[t,ct,u,Cd,show((Nat.beq 0 0)&&((Nat.beq 12 12)&&(Nat.beq 12 12)))=true from rfl,ct,x,jz rfl s,v,ct,y,Bp (by omega)]
  cases b.away.l.contains h with
  | true=>simp only[Bool.not_true,cond_false,cond_true];exact i
  | false =>
   simp only[Bool.not_false,cond_true,cond_false]
   rw[List.length_append] at e
   simpa using e
theorem At9 {N:Nat} {c:CaseD} {h:Int} {o:Bool} {K:Nat→LA→O R} (hs:Small c N):FM N c.av o h K=K (A6 c h).length (Ao (A6 c h)):=by
 rw[jx];unfold UH
 have:=eX (R:=R) (N:=N) (c:=c) (h:=h) (o:=o) (K:=K) hs c.lines.l.length 0 N [] (by omega) hs.lin.1 (by simp)
 rw[F2]
 simpa[A6,Ao] using this
end
end Gx.Cf

namespace Gx.Cf
open Go Go.Proofs
section
variable {R:Type}
theorem Aua {c:CaseD} {p:C6} {k i:Int}:List.take 8 (C9 c p k i)=c.av:=rfl
theorem A4l {p:C6} {k i:Int}:(N_ p k i).length=4:=by rcases p with _ | ⟨⟨a,b,f⟩,e⟩<;>rfl
theorem A0j {c:CaseD} {p:C6} {k i:Int}:Nat.ble 8 (List.length (C9 c p k i))=true:=by
 rw[Bq,C9,List.length_append,A4l];simp[CaseD.av]
theorem pv {N:Nat} {c:CaseD} {w w0 o31:Bool} {h0:LA} {x1:Int} {hr:Int} (hs:Small c N) (v:PreV c):∀ (m j fuel:Nat) (p:C6) (k i:Int),j+m=c.outs.l.length→m<fuel →
  ∃ f n:Int,∀ (K0:Int→Bool→LA→O R) (K:Bool→LA→O R),Kw N K0 K (A6 c hr).length (Jj c.buses.l.length ((A6 c hr).map (Fc c)):Int) x1 (c.outs.l.flatMap OutD.av) c.outs.l.length (Ao (A6 c hr)) w0 h0 fuel hr hr o31 (c.outs.l.length:Int) (j:Int) w (C9 c p k i) =
   K0 (IntKind.wrap .i64 (hr+1)) w (C9 c (Bj (Aso c hr) (c.outs.l.drop j) j p) f n)
 | 0,j,fuel+1,p,k,i,q,_=>by
  refine⟨k,i,fun K0 K=>?_⟩
  rw[Kw];unfold Vy
  rw[Iz (by omega),cf,C1 (by omega),Bj]
 | m+1,j,fuel+1,p,k,i,q,D=>by
  have h:j<c.outs.l.length:=by omega
  have hN:=hs.n64
  have s:c.outs.l[j] ∈ c.outs.l:=List.getElem_mem h
  have t:=hs.oli _ s
  have d:=hs.top
  have u:=HM hr c.lines.l 0
  have e:=hs.lin.1
  obtain⟨x,i1,y⟩:=pv (w:=w) (w0:=w0) (o31:=o31) (h0:=h0) (x1:=x1) (hr:=hr) hs v m (j+1) fuel (Aso c hr j c.outs.l[j] p) 6 j (by omega) (by omega)
  refine⟨x,i1,fun K0 K=>?_⟩
  rw[Kw];unfold Vy
  rw[Hh h,ct,Ab h,ct,Int.toNat_natCast,Ax Dg _ _ h,B7 h,Bj,←y K0 K]
  generalize c.outs.l[j]=b at *
  have z:Nat.ble 4 (List.length (b.av++List.flatMap OutD.av (List.drop (j+1) c.outs.l)))=true:=by rw[Bq,List.length_append,Dg];simp
  have A:List.take 4 (b.av++List.flatMap OutD.av (List.drop (j+1) c.outs.l))=b.av:=List.take_left' (Dg b)
  rw[z,ct,A,Dg,show((Nat.beq 0 0)&&((Nat.beq 4 4)&&(Nat.beq 4 4)))=true from rfl,ct,Nf,A0j,ct,oT,Aua,Nat.mul_one,List.take_of_length_le (by rw[Es];exact Nat.le_refl _),
   Ahv rfl rfl (by omega) hs.bus d.1 (by unfold A6;omega) (by unfold A6;omega) (fun l C=>v.lnV C) t,Aq (by decide),Bp (by omega)]
  rfl
theorem pw {N H:Nat} {c:CaseD} {w w0:Bool} {h0:LA} (hs:Small c N) (v:PreV c) (hH:H≤24):∀ (m j fuel:Nat) (p:C6) (k i:Int),j+m=H→m<fuel →
  ∃ f n:Int,∀ K:Bool→LA→O R,H4 N K (H:Int) w0 h0 fuel (j:Int) w (C9 c p k i)=K w (C9 c (M5 c m j p) f n)
 | 0,j,fuel+1,p,k,i,q,_=>by
  refine⟨k,i,fun K=>?_⟩
  rw[H4];unfold Vz
  rw[Iz (by omega),cf,M5]
 | m+1,j,fuel+1,p,k,i,q,z=>by
  have hN:=hs.n64
  have b:=hs.top
  have s:=HM (j:Int) c.lines.l 0
  have d:=hs.lin.1
  obtain⟨t,i1,e⟩:=pv (R:=R) (w:=w) (w0:=w0) (o31:=w) (h0:=h0) (x1:=(H:Int)) (hr:=(j:Int)) hs v c.outs.l.length 0 N p k i (by omega) hs.out.1
  obtain⟨u,i2,x⟩:=pw (w:=w) (w0:=w0) (h0:=h0) hs v hH m (j+1) fuel (Bj (Aso c j) c.outs.l 0 p) t i1 (by omega) (by omega)
  refine⟨u,i2,fun K=>?_⟩
  rw[H4];unfold Vz
  simp only[List.drop_zero,Int.natCast_zero] at e
  rw[Hh (by omega),ct,A0j,ct,Aua,At9 hs,ct,Nat.mul_one,List.take_of_length_le (by rw[Es];exact Nat.le_refl _),
   Ayl rfl (by omega) hs.bus b.1 (by unfold A6;omega) (by unfold A6;omega) (fun l y=>v.lnV y),yX]
  dsimp only
  rw[e,Bp (by omega),x,M5]
theorem yG {N:Nat} {c:CaseD} {p:C6} {k i:Int} {w:Bool} (hs:Small c N) (v:PreV c):∃ b d:Int,∀ K:Bool→LA→O R,Tu N w (C9 c p k i) K=K w (C9 c (M5 c c.hours.toNat 0 p) b d):=by
 have e:=v.hours
 have hN:=hs.n64
 obtain⟨b,d,h⟩:=pw (R:=R) (w:=w) (w0:=w) (h0:=C9 c p k i) hs v (H:=c.hours.toNat) (by omega) c.hours.toNat 0 N p k i (by omega) (by omega)
 refine⟨b,d,fun K=>?_⟩
 rw[eQ];unfold LU
 rw[p9]
 have:=h K
 rw[Int.toNat_of_nonneg (by omega)] at this
 simpa using this
theorem A58 {c:CaseD} {p:C6} {k i:Int} {w:Bool} {K:LA→Int→O R} {X:O R} :
  (As .i64 (List.drop 11 (C9 c p k i)) fun x3=>(cond (x3 != (0:Int)) (cond (Nat.ble 3 (List.length (List.drop 8 (C9 c p k i)))) (cond ((!w)||(A0 (List.take 3 (List.drop 8 (C9 c p k i))))) (As .i64 (List.drop 11 (C9 c p k i)) fun x4=>(cond ((Nat.beq (List.length (List.take 3 (List.drop 8 (C9 c p k i)))) 3)&&((Nat.ble 3 3)&&(!false))) (cond (Nat.ble 3 (List.length (setCells [(.int .i64 (0:Int)),(.int .i64 (0:Int)),(.int .i64 (0:Int))] 0 (List.take 3 (List.drop 8 (C9 c p k i)))))) (K (List.take 3 (setCells [(.int .i64 (0:Int)),(.int .i64 (0:Int)),(.int .i64 (0:Int))] 0 (List.take 3 (List.drop 8 (C9 c p k i))))) x4) none) none)) none) none) X)) =
  match p with | none=>X | some y=>K (w3 (some y)) y.2.1:=by
 rw[Ly]
 rcases p with _ | ⟨⟨a,b,f⟩,e,d⟩
 ·simp[Bt]
 ·have j:(e != 0)=true:=by simpa using d
  rw[Ly]
  simp[Bt,j,C9,CaseD.av,N_,w3,A0,Bq,IJ,setCells,Cx]
end
end Gx.Cf

namespace Gx.Cf
open Go Go.Proofs
section
variable {R:Type}
def kO (K:LA→Int→O R) (X:Bool→LA→O R) (y1:Bool) (y2:LA):O R :=
   (As .i64 (List.drop 11 y2) fun x3=>(cond (x3 != (0:Int)) (cond (Nat.ble 3 (List.length (List.drop 8 y2))) (cond ((!y1)||(A0 (List.take 3 (List.drop 8 y2)))) (As .i64 (List.drop 11 y2) fun x4=>(cond ((Nat.beq (List.length (List.take 3 (List.drop 8 y2))) 3)&&((Nat.ble 3 3)&&(!false))) (cond (Nat.ble 3 (List.length (setCells [(.int .i64 (0:Int)),(.int .i64 (0:Int)),(.int .i64 (0:Int))] 0 (List.take 3 (List.drop 8 y2))))) (K (List.take 3 (setCells [(.int .i64 (0:Int)),(.int .i64 (0:Int)),(.int .i64 (0:Int))] 0 (List.take 3 (List.drop 8 y2)))) x4) none) none)) none) none) (X y1 y2)))
theorem AW {c:CaseD} {p:C6} {k i:Int} {w:Bool} {K:LA→Int→O R} {X:Bool→LA→O R}:kO K X w (C9 c p k i)=match p with | none=>X w (C9 c p k i) | some y=>K (w3 (some y)) y.2.1:=by
 unfold kO;exact A58
theorem A8a {N fuel:Nat} {w:Bool} {h:LA} {K:LA→Int→O R}:A8 N K (fuel+1) 0 w h=HR N w h (kO K (A8 N K fuel 1)):=by
 rw[A8];unfold Ff
 rw[show decide ((0:Int)<8)=true from rfl,ct,show Ae (0:Int) 8=true from rfl,ct]
 rfl
theorem A8b {N fuel:Nat} {w:Bool} {h:LA} {K:LA→Int→O R}:A8 N K (fuel+1) 1 w h=HT N w h (kO K (A8 N K fuel 2)):=by
 rw[A8];unfold Ff
 rw[show decide ((1:Int)<8)=true from rfl,ct,show Ae (1:Int) 8=true from rfl,ct]
 rfl
theorem A8c {N fuel:Nat} {w:Bool} {h:LA} {K:LA→Int→O R}:A8 N K (fuel+1) 2 w h=HW N w h (kO K (A8 N K fuel 3)):=by
 rw[A8];unfold Ff
 rw[show decide ((2:Int)<8)=true from rfl,ct,show Ae (2:Int) 8=true from rfl,ct]
 rfl
theorem A8d {N fuel:Nat} {w:Bool} {h:LA} {K:LA→Int→O R}:A8 N K (fuel+1) 3 w h=HX N w h (kO K (A8 N K fuel 4)):=by
 rw[A8];unfold Ff
 rw[show decide ((3:Int)<8)=true from rfl,ct,show Ae (3:Int) 8=true from rfl,ct]
 rfl
theorem A8e {N fuel:Nat} {w:Bool} {h:LA} {K:LA→Int→O R}:A8 N K (fuel+1) 4 w h=Xs N w h (kO K (A8 N K fuel 5)):=by
 rw[A8];unfold Ff
 rw[show decide ((4:Int)<8)=true from rfl,ct,show Ae (4:Int) 8=true from rfl,ct]
 rfl
theorem A8f {N fuel:Nat} {w:Bool} {h:LA} {K:LA→Int→O R}:A8 N K (fuel+1) 5 w h=UF N w h (kO K (A8 N K fuel 6)):=by
 rw[A8];unfold Ff
 rw[show decide ((5:Int)<8)=true from rfl,ct,show Ae (5:Int) 8=true from rfl,ct]
 rfl
theorem A8g {N fuel:Nat} {w:Bool} {h:LA} {K:LA→Int→O R}:A8 N K (fuel+1) 6 w h=Tt N w h (kO K (A8 N K fuel 7)):=by
 rw[A8];unfold Ff
 rw[show decide ((6:Int)<8)=true from rfl,ct,show Ae (6:Int) 8=true from rfl,ct]
 rfl
theorem A8h {N fuel:Nat} {w:Bool} {h:LA} {K:LA→Int→O R}:A8 N K (fuel+1) 7 w h=Tu N w h (kO K (A8 N K fuel 8)):=by
 rw[A8];unfold Ff
 rw[show decide ((7:Int)<8)=true from rfl,ct,show Ae (7:Int) 8=true from rfl,ct]
 rfl
theorem kP {N:Nat} {c:CaseD} {o:Bool} {K:LA→Int→O R} (hs:Small c N):IC N c.av o K=K (w3 (Ca c)) (Bt (Ca c)):=by
 have hN:=hs.n64
 have u:setCells [(.int .i64 (0:Int)),.nsl,.nsl,.nsl,.nsl,.nsl,.nsl,.nsl,(.int .i64 (0:Int)),(.int .i64 (0:Int)),(.int .i64 (0:Int)),(.int .i64 (0:Int))] 0 c.av=C9 c none 0 0:=rfl
 rw[pt];unfold gO
 rw[Ce,Fb,ct,u,show((Nat.beq (List.length c.av) 8)&&(Nat.ble 8 12))=true from rfl,ct]
 obtain⟨n,hn⟩:∃ n,N=n+9:=⟨N - 9,by omega⟩
 have fin:∀ (y:(Int×Int×Int)×{ e:Int // e≠0 }),HN c=some y→K (w3 (some y)) y.2.1=K (w3 (Ca c)) (Bt (Ca c)):=by
  intro y x
  unfold Ca;rw[x];rfl
 have st:A8 N K N 0 (o||false) (C9 c none 0 0)=A8 N K (n+9) 0 (o||false) (C9 c none 0 0):=by rw[←hn]
 try dsimp only
 rw[st,A8a,Ahm hs,AW]
 cases b:dC c none with
 | some y =>
  refine fin y ?_
  unfold HN;simp only;rw[b,Bf (fun _ _=>FK _ _ _),Bf (fun _ _=>Tp _ _ _),Bf (fun _ _=>Pw _ _ _),Bf (fun _ _=>Ma _ _ _),Bf (fun _ _=>Ra _ _ _),Bf (fun _ _=>Lr)]
 | none =>
  try dsimp only
  rw[A8b]
  obtain⟨z,i1,A⟩:=Ahn (R:=R) (p:=none) (k:=0) (i:=0) (w:=(o||false)) hs
  rw[A,AW]
  cases d:Bj (sU c) c.buses.l 0 none with
  | some y =>
   refine fin y ?_
   unfold HN;simp only;rw[b,d,Bf (fun _ _=>Tp _ _ _),Bf (fun _ _=>Pw _ _ _),Bf (fun _ _=>Ma _ _ _),Bf (fun _ _=>Ra _ _ _),Bf (fun _ _=>Lr)]
  | none =>
   try dsimp only
   rw[A8c]
   obtain⟨C,i2,D⟩:=Aho (R:=R) (p:=none) (k:=z) (i:=i1) (w:=(o||false)) hs
   rw[D,AW]
   cases f:Bj (CN c) c.lines.l 0 none with
   | some y =>
    refine fin y ?_
    unfold HN;simp only;rw[b,d,f,Bf (fun _ _=>Pw _ _ _),Bf (fun _ _=>Ma _ _ _),Bf (fun _ _=>Ra _ _ _),Bf (fun _ _=>Lr)]
   | none =>
    try dsimp only
    rw[A8d]
    obtain⟨F,i3,G⟩:=Ahq (R:=R) (p:=none) (k:=C) (i:=i2) (w:=(o||false)) hs
    rw[G,AW]
    cases j:Bj (HG c) c.units.l 0 none with
    | some y =>
     refine fin y ?_
     unfold HN;simp only;rw[b,d,f,j,Bf (fun _ _=>Ma _ _ _),Bf (fun _ _=>Ra _ _ _),Bf (fun _ _=>Lr)]
    | none =>
     try dsimp only
     rw[A8e]
     obtain⟨I,i4,L⟩:=Aeb (R:=R) (p:=none) (k:=F) (i:=i3) (w:=(o||false)) hs
     rw[L,AW]
     cases m:Bj (BL c) c.stores.l 0 none with
     | some y =>
      refine fin y ?_
      unfold HN;simp only;rw[b,d,f,j,m,Bf (fun _ _=>Ra _ _ _),Bf (fun _ _=>Lr)]
     | none =>
      try dsimp only
      rw[A8f]
      obtain⟨M,i5,S⟩:=Aoa (R:=R) (p:=none) (k:=I) (i:=i4) (w:=(o||false)) hs
      rw[S,AW]
      cases s:Bj (Agi c) c.ties.l 0 none with
      | some y =>
       refine fin y ?_
       unfold HN;simp only;rw[b,d,f,j,m,s,Bf (fun _ _=>Lr)]
      | none =>
       try dsimp only
       rw[A8g]
       obtain⟨T,i6,U⟩:=yF (R:=R) (p:=none) (k:=M) (i:=i5) (w:=(o||false)) hs
       rw[U,AW]
       cases t:Bj (lj c) c.outs.l 0 none with
       | some y =>
        refine fin y ?_
        unfold HN;simp only;rw[b,d,f,j,m,s,t]
       | none =>
        have q:HN c=none:=by unfold HN;simp only;rw[b,d,f,j,m,s,t]
        have v:=gE q
        try dsimp only
        rw[A8h]
        obtain⟨Y,i7,V⟩:=yG (R:=R) (p:=none) (k:=T) (i:=i6) (w:=(o||false)) hs v
        rw[V,AW]
        have X:Ca c=M5 c c.hours.toNat 0 none:=by unfold Ca;rw[q]
        rw[X]
        cases hq:M5 c c.hours.toNat 0 none with
        | some y=>rfl
        | none =>
         try dsimp only
         rw[A8];unfold Ff
         rfl
end
end Gx.Cf

namespace Gx
open Go
def Eh (c:UInt8):Bool:=decide (48≤c.toNat)&&decide (c.toNat≤57)
def Il (s:List UInt8):Nat:=s.foldl (fun a c=>10*a+(c.toNat - 48)) 0
def Aub (s:List UInt8):Bool:=s.all Eh&&!s.isEmpty
def Rn (s:List UInt8):Bool:=Aub s&&(s==[48]||s.head? != some 48)
abbrev sa:=Lib.decDigits
theorem A2d (s:List UInt8):∀ a,s.foldl (fun a c=>10*a+(c.toNat - 48)) a=a*10 ^ s.length+Il s:=by
 unfold Il
 induction s with
 | nil=>intro a;simp
 | cons c r b =>
  intro a
  rw[List.foldl_cons,List.foldl_cons,b,b (10*0+_),List.length_cons,Nat.pow_succ,Nat.add_mul,Nat.add_mul]
  have:10*a*10 ^ r.length=a*(10 ^ r.length*10):=by rw[Nat.mul_comm 10 a,Nat.mul_assoc,Nat.mul_comm 10]
  rw[this];omega
theorem eY (a b:List UInt8):Il (a++b)=Il a*10 ^ b.length+Il b:=by
 have:=A2d b (Il a)
 unfold Il at *
 rw[List.foldl_append];exact this
theorem A2e (a:List UInt8) (c:UInt8):Il (a++[c])=10*Il a+(c.toNat - 48):=by rw[eY];simp[Il];omega
theorem sb (c:UInt8) (r:List UInt8):Il (c::r)=(c.toNat - 48)*10 ^ r.length+Il r:=by
 have:=eY [c] r
 simpa[Il] using this
theorem pz {s:List UInt8} (h:s.all Eh=true):Il s<10 ^ s.length:=by
 induction s with
 | nil=>simp[Il]
 | cons c r b =>
  simp only[List.all_cons,Bool.and_eq_true] at h
  have d:=b h.2
  have e:c.toNat≤57:=by have:=h.1;simp[Eh] at this;omega
  rw[sb,List.length_cons,Nat.pow_succ]
  have:(c.toNat - 48)*10 ^ r.length≤9*10 ^ r.length:=Nat.mul_le_mul_right _ (by omega)
  omega
theorem FN {u:Nat} (h:u<10):sa u=[UInt8.ofNat (48+u)]:=by rw[sa,Lib.decDigits,dif_pos h]
theorem yY {u:Nat} (h:10≤u):sa u=sa (u/10)++[UInt8.ofNat (48+u%10)]:=by
 rw[sa,Lib.decDigits,dif_neg (by omega)]
theorem gP {k:Nat} (h:k<10):Eh (UInt8.ofNat (48+k))=true∧(UInt8.ofNat (48+k)).toNat=48+k:=by
 have:(UInt8.ofNat (48+k)).toNat=48+k:=by simp;omega
 exact⟨by simp[Eh,this];omega,this⟩
theorem eZ:∀ u,(sa u).all Eh=true:=by
 intro u
 induction u using Nat.strongRecOn with
 | ind u b =>
  by_cases h:u<10
  ·rw[FN h];simpa using(gP h).1
  ·rw[yY (by omega),List.all_append,b (u/10) (by omega)]
   simpa using(gP (k:=u%10) (by omega)).1
theorem Aym (u:Nat):sa u≠[]:=by
 by_cases h:u<10
 ·rw[FN h];simp
 ·rw[yY (by omega)];simp
theorem e_:∀ u,Il (sa u)=u:=by
 intro u
 induction u using Nat.strongRecOn with
 | ind u b =>
  by_cases h:u<10
  ·rw[FN h];simp only[Il,List.foldl_cons,List.foldl_nil,(gP h).2];omega
  ·rw[yY (by omega),A2e,b (u/10) (by omega),(gP (k:=u%10) (by omega)).2];omega
theorem Auc:∀ u,0<u→(sa u).head?≠some 48:=by
 intro u
 induction u using Nat.strongRecOn with
 | ind u d =>
  intro h0
  by_cases h:u<10
  ·rw[FN h]
   intro e
   simp at e
   have:=congrArg UInt8.toNat e
   simp at this;omega
  ·rw[yY (by omega)]
   have:=d (u/10) (by omega) (by omega)
   cases b:sa (u/10) with
   | nil=>exact absurd b (Aym _)
   | cons c r=>rw[b] at this;simpa using this
theorem sc (u:Nat):Rn (sa u)=true:=by
 have b:=eZ u
 have d:=Aym u
 rcases Nat.eq_zero_or_pos u with h | h
 ·subst h;rw[FN (by omega)];decide
 ·have e:=Auc u h
  simp only[Rn,Aub,b,Bool.true_and,Bool.and_eq_true,Bool.or_eq_true,bne_iff_ne]
  refine⟨?_,.inr e⟩
  cases f:sa u with
  | nil=>exact absurd f d
  | cons c r=>rfl
theorem A59 {u k:Nat} (n:0<k):(sa u).length≤k↔u<10 ^ k:=by
 constructor
 ·intro h
  have:=pz (eZ u)
  rw[e_] at this
  exact Nat.lt_of_lt_of_le this (Nat.pow_le_pow_right (by omega) h)
 ·intro h
  apply Classical.byContradiction
  intro hn
  have b:k<(sa u).length:=by omega
  have h0:0<u:=by
   rcases Nat.eq_zero_or_pos u with e | e
   ·subst e;rw[FN (by omega)] at b;simp at b;omega
   ·exact e
  have i:=Auc u h0
  cases d:sa u with
  | nil=>exact Aym u d
  | cons c r =>
   rw[d] at i b
   have j:Eh c=true:=by have:=eZ u;rw[d] at this;simp at this;exact this.1
   have f:c≠48:=by simpa using i
   have l:1≤c.toNat - 48:=by
    simp[Eh] at j
    have:c.toNat≠48:=fun e=>f (UInt8.toNat_inj.1 (by simpa using e))
    omega
   have m:=e_ u
   rw[d,sb] at m
   simp at b
   have q:10 ^ k≤10 ^ r.length:=Nat.pow_le_pow_right (by omega) (by omega)
   have s:1*10 ^ r.length≤(c.toNat - 48)*10 ^ r.length:=Nat.mul_le_mul_right _ l
   omega
end Gx

namespace Gx
open Go Go.Proofs
section
variable {R:Type}
def fit (k N:Nat):Prop:=100*k+1000≤N∧k≤1000000000
theorem fit.le {j k N:Nat} (h:fit k N) (b:j≤k):fit j N:=⟨by have:=h.1;omega,by have:=h.2;omega⟩
theorem ct (x y:O R):cond true x y=x:=rfl
theorem cf (x y:O R):cond false x y=y:=rfl
theorem A7i (x y:Bool):cond true x y=x:=rfl
theorem A9t (x y:Bool):cond false x y=y:=rfl
theorem A7j (c:Nat):((decide (((c+1:Nat):Int)>(0:Int)))==true)=true:=by simp
theorem Hh {j n:Nat} (h:j<n):decide ((j:Int)<(n:Int))=true:=by simp;omega
theorem Iz {j n:Nat} (h:n≤j):decide ((j:Int)<(n:Int))=false:=by simp;omega
theorem wS {j:Nat} (h:j≤1000000000000):IntKind.wrap .i64 ((j:Int)+1)=((j+1:Nat):Int):=by rw[i64 (by omega)];omega
theorem wP {j:Nat} (h:j≤1000000000000):IntKind.wrap .i64 (((j+1:Nat):Int) - 1)=(j:Int):=by rw[i64 (by omega)];omega
theorem wA {j k:Nat} (h:j+k≤1000000000000):IntKind.wrap .i64 ((j:Int)+(k:Int))=((j+k:Nat):Int):=by rw[i64 (by omega)];omega
theorem Ahw {l:List Nat} {j:Nat} (h:j<l.length) {f:Int→O R}:As .u32 (List.drop ((Int.toNat (j:Int))*1) (Ar l)) f=f (l[j]:Nat):=by
 rw[Int.toNat_natCast,Nat.mul_one,A35 h]
theorem sd {l:List Nat} {j:Nat} (h:j<l.length) {f:Int→O R}:As .u32 (List.drop (0+((Int.toNat (j:Int))*1)) (Ar l)) f=f (l[j]:Nat):=by
 rw[Nat.zero_add,Ahw h]
theorem A7z {c a:Nat} (h:c≤a):((decide ((0:Int)≤(0:Int)))&&((decide ((0:Int)≤(c:Int)))&&((decide ((c:Int)≤(a:Int)))&&(decide ((a:Int)≤(a:Int))))))=true:=by
 simp;omega
theorem A7k {n:Nat} (h:n≤1000000000000):((decide ((0:Int)≤(n:Int)))&&((decide ((n:Int)≤(n:Int)))&&((decide ((n:Int)≤(140737488355328:Int)))&&(decide (((n:Int)*((4:Nat):Int))≤(140737488355328:Int))))))=true:=by
 simp;omega
theorem Azw {x:Nat} {m:List Nat} (h:x<m.length):((Nat.beq 1 1)&&((Nat.ble ((0+((Int.toNat (x:Int))*1))+1) (List.length (Ar m)))&&(!false)))=true:=by
 rw[Cv,Int.toNat_natCast];simp;omega
theorem Aen {x v:Nat} {m:List Nat}:List.set (Ar m) (0+((Int.toNat (x:Int))*1)) (.int .u32 (v:Int))=Ar (m.set x v):=by
 rw[Int.toNat_natCast,Nat.mul_one,Nat.zero_add,Aq7]
theorem A4m {l:List Nat} (h:Au l):l.take (A9 (val l)).length=A9 (val l):=by
 obtain⟨b,c⟩:=Dz h
 rw[congrArg (List.take (A9 (val l)).length) b,List.take_left]
theorem A2f {l:List Nat} (h:Au l):List.take ((A9 (val l)).length*1) (Ar l)=Ar (A9 (val l)):=by rw[Nat.mul_one,ff,A4m h]
theorem Cs {l:List Nat} {c:Nat} (h:c<l.length):val (l.take (c+1))=val (l.take c)+4294967296 ^ c*l[c]:=by
 rw[List.take_succ_eq_append_getElem h,Awh,List.length_take,Nat.min_eq_left (by omega)]
theorem Aob {l:List Nat} {c:Nat} (b:Au l) (h:c<l.length) (h0:l[c]≠0):A9 (val (l.take (c+1)))=l.take (c+1):=by
 apply A7d (Mj b _)
 intro d
 rw[List.getLast_eq_getElem]
 simp only[List.length_take,Nat.min_eq_left (show c+1≤l.length by omega),Nat.add_sub_cancel,List.getElem_take]
 exact h0
theorem Aeo {N:Nat} {l:List Nat} {K:Nat→O R} (b:Au l) (hs:l.length≤1000000000000):∀ (c fuel:Nat),c≤l.length→c<fuel →
  W7 N K l.length (Ar l) fuel (c:Int)=K (A9 (val (l.take c))).length
 | 0,fuel+1,d,_=>by
  rw[W7];unfold SF
  rw[show decide (((0:Nat):Int)>0)=false by simp]
  rw[show((false:Bool)==true)=false by rfl,cf,A7z (by omega),ct,Int.toNat_natCast];rfl
 | c+1,fuel+1,d,e=>by
  rw[W7];unfold SF
  rw[A7j,ct,wP (by omega),Ab (by omega),ct,sd (by omega),A7i,A7z (by omega),ct,Aeo b hs c fuel (by omega) (by omega),Int.toNat_natCast]
  by_cases h0:l[c]=0
  ·rw[Cs (by omega),h0];simp
  ·rw[Aob b (by omega) h0,List.length_take,Nat.min_eq_left d]
   rw[show(((l[c]:Nat):Int)==0)=false by simp;exact h0,cf]
theorem Aep {N:Nat} {l:List Nat} {n:Nat} {K:Nat→O R} (hn:n=l.length) (c:Au l) (b:fit l.length N):MH N n (Ar l) K=K (A9 (val l)).length:=by
 subst hn
 have d:=b.1;have e:=b.2
 rw[lR];unfold mb
 dsimp only
 rw[Aeo c (by omega) l.length N (Nat.le_refl _) (by omega),List.take_length]
theorem Aka {N:Nat} {l:List Nat} {t o:Bool} {K:LA→Nat→O R} (b:Au l) (hs:l.length≤1000000000000):∀ (c fuel:Nat),c≤l.length→c<fuel →
  Ml N K (Ar l) l.length t o fuel (c:Int)=K (Ar (A9 (val (l.take c)))) (A9 (val (l.take c))).length
 | 0,fuel+1,d,_=>by
  rw[Ml];unfold Yh
  rw[show decide (((0:Nat):Int)>0)=false by simp]
  rw[show((false:Bool)==true)=false by rfl,cf,A7z (by omega),ct,Int.toNat_natCast];rfl
 | c+1,fuel+1,d,e=>by
  rw[Ml];unfold Yh
  rw[A7j,ct,wP (by omega),Ab (by omega),ct,Ahw (by omega),A7i,A7z (by omega),ct,Aka b hs c fuel (by omega) (by omega),Int.toNat_natCast,Nat.mul_one,ff]
  by_cases h0:l[c]=0
  ·rw[Cs (by omega),h0];simp
  ·rw[Aob b (by omega) h0,List.length_take,Nat.min_eq_left d]
   rw[show(((l[c]:Nat):Int)==0)=false by simp;exact h0,cf]
theorem Ec {N:Nat} {l:List Nat} {n:Nat} {t o:Bool} {K:LA→Nat→O R} (hn:n=l.length) (c:Au l) (b:fit l.length N):Fk N (Ar l) n t o K=K (Ar (A9 (val l))) (A9 (val l)).length:=by
 subst hn
 have d:=b.1;have e:=b.2
 rw[iY];unfold SG
 dsimp only
 rw[Aka c (by omega) l.length N (Nat.le_refl _) (by omega),List.take_length]
end
end Gx

namespace Gx
open Go Go.Proofs
section
variable {R:Type}
def EQ (x y:Nat):Int:=if x<y then -1 else if y<x then 1 else 0
theorem Akb (x:Nat):EQ x x=0:=by unfold EQ;simp
theorem UK {a b:Nat} (h:(A9 a).length<(A9 b).length):a<b:=Nat.lt_of_not_le fun c=>by
 have:=Gg c;omega
theorem yZ {u w p q P:Nat} (b:u<P) (c:w<P) (h:p<q):u+P*p<w+P*q:=by
 have:P*(p+1)≤P*q:=Nat.mul_le_mul_left _ h
 rw[Nat.mul_add] at this
 omega
theorem Akc {N:Nat} {x y:List Nat} {t u:Bool} {K:Int→O R} (d:Au x) (e:Au y) (hs:x.length≤1000000000000) (j:x.length=y.length):∀ (i fuel:Nat),i≤x.length→i<fuel →
  F4 N K (Ar x) x.length t (Ar y) y.length u fuel ((i:Int) - 1)=K (EQ (val (x.take i)) (val (y.take i)))
 | 0,fuel+1,_,_=>by
  rw[F4];unfold Ol
  rw[show decide ((((0:Nat):Int) - 1)≥0)=false by simp,cf]
  simp[Akb]
 | i+1,fuel+1,hi,k=>by
  rw[F4];unfold Ol
  rw[show(((i+1:Nat):Int) - 1)=(i:Int) by omega,show decide ((i:Int)≥0)=true by simp,ct,Ab (by omega),ct,Ahw (by omega),Ab (by omega),ct,Ahw (by omega),ct,Ahw (by omega),ct,Ahw (by omega),i64 (by omega),
   Akc d e hs j i fuel (by omega) (by omega),Cs (by omega),Cs (by omega)]
  have b:=Le (Mj d i)
  have c:=Le (Mj e i)
  rw[List.length_take,Nat.min_eq_left (by omega)] at b c
  by_cases c1:x[i]<y[i]
  ·have:=yZ b c c1
   rw[show decide (((x[i]:Nat):Int)<((y[i]:Nat):Int))=true by simp;exact c1,ct]
   unfold EQ;rw[if_pos this]
  ·by_cases f:y[i]<x[i]
   ·have:=yZ c b f
    rw[show decide (((x[i]:Nat):Int)<((y[i]:Nat):Int))=false by simp;omega,cf,show decide (((x[i]:Nat):Int)>((y[i]:Nat):Int))=true by simp;exact f,ct]
    unfold EQ;rw[if_neg (by omega),if_pos this]
   ·have:x[i]=y[i]:=by omega
    rw[show decide (((x[i]:Nat):Int)<((y[i]:Nat):Int))=false by simp;omega,cf,show decide (((x[i]:Nat):Int)>((y[i]:Nat):Int))=false by simp;omega,cf,this]
    unfold EQ
    congr 1
    by_cases a1:val (x.take i)<val (y.take i)
    ·rw[if_pos a1,if_pos (by omega)]
    ·by_cases a2:val (y.take i)<val (x.take i)
     ·rw[if_neg a1,if_pos a2,if_neg (by omega),if_pos (by omega)]
     ·rw[if_neg a1,if_neg a2,if_neg (by omega),if_neg (by omega)]
theorem Akd {N:Nat} {a b:List Nat} {n m:Nat} {t o t' o':Bool} {K:Int→O R} (hn:n=a.length) (i:m=b.length) (d:Au a) (e:Au b) (c:fit (a.length+b.length) N) :
  N3 N (Ar a) n t o (Ar b) m t' o' K=K (EQ (val a) (val b)):=by
 subst hn i
 have k:=c.1;have l:=c.2
 rw[IX];unfold Uy
 dsimp only
 rw[Ec rfl d (c.le (by omega)),Ec rfl e (c.le (by omega))]
 have la:=(Dz d).2
 have lb:=(Dz e).2
 by_cases f:(A9 (val a)).length=(A9 (val b)).length
 ·rw[show((((A9 (val a)).length:Nat):Int) != (((A9 (val b)).length:Nat):Int))=false by simp;omega,cf,i64 (by omega),Akc (At _) (At _) (by omega) f _ N (Nat.le_refl _) (by omega),List.take_length,f,List.take_length,Av,Av]
 ·rw[show((((A9 (val a)).length:Nat):Int) != (((A9 (val b)).length:Nat):Int))=true by simp;omega,ct]
  by_cases j:(A9 (val a)).length<(A9 (val b)).length
  ·have:=UK j
   rw[show decide ((((A9 (val a)).length:Nat):Int)<(((A9 (val b)).length:Nat):Int))=true by simp;omega,ct]
   unfold EQ;rw[if_pos this]
  ·have:=UK (show(A9 (val b)).length<(A9 (val a)).length by omega)
   rw[show decide ((((A9 (val a)).length:Nat):Int)<(((A9 (val b)).length:Nat):Int))=false by simp;omega,cf]
   unfold EQ;rw[if_neg (by omega),if_pos this]
end
end Gx

namespace Gx
open Go Go.Proofs
section
variable {R:Type}
theorem y3:∀ {S:List Nat} {d v:Nat} (h:d<S.length),val (S.set d v)+4294967296 ^ d*S[d]=val S+4294967296 ^ d*v
 | x::r,0,v,_=>by simp[val];omega
 | x::r,d+1,v,h=>by
  have b:=y3 (S:=r) (d:=d) (v:=v) (by simpa using h)
  simp only[List.set_cons_succ,val,List.getElem_cons_succ,Nat.pow_succ]
  have e1:∀ y,4294967296 ^ d*4294967296*y=4294967296*(4294967296 ^ d*y):=fun y=>by rw[Nat.mul_comm (4294967296 ^ d),Nat.mul_assoc]
  rw[e1,e1]
  omega
theorem QV (b:List Nat) (d:Nat):val (b.take (d+1))=val (b.take d)+4294967296 ^ d*b.getD d 0:=by
 by_cases h:d<b.length
 ·rw[Cs h,List.getD_eq_getElem?_getD,List.getElem?_eq_getElem h];rfl
 ·rw[List.take_of_length_le (by omega),List.take_of_length_le (by omega),List.getD_eq_getElem?_getD,List.getElem?_eq_none (by omega)];simp
theorem ee (P s:Nat):P*(s%4294967296)+P*4294967296*(s/4294967296)=P*s:=by
 rw[Nat.mul_assoc,←Nat.mul_add,Nat.add_comm,Nat.div_add_mod]
def A5t (S:List Nat) (d:Nat):Prop:=∀ j (h:j<S.length),d≤j→S[j]=0
theorem gQ {S:List Nat} {d v:Nat} (h:A5t S d):A5t (S.set d v) (d+1):=fun j b c=>by
 rw[List.getElem_set]
 rw[if_neg (by omega)]
 exact h j (by simpa using b) (by omega)
theorem Y6 (n:Nat):A5t (List.replicate n 0) 0:=fun j b _=>by simp
theorem gR {S:List Nat} {d v:Nat} (h:A5t S d) (b:d<S.length):val (S.set d v)=val S+4294967296 ^ d*v:=by
 have:=y3 (v:=v) b
 rw[h d b (Nat.le_refl _)] at this;simpa using this
theorem A9u {a:Nat} (h:a≤1000000000000):IntKind.wrap .i64 (((a:Nat):Int)+(1:Int))=((a+1:Nat):Int):=wS h
theorem A87 {x:Nat} {m:List Nat} (h:x<m.length):((Nat.beq 1 1)&&((Nat.ble ((0+(x*1))+1) (List.length (Ar m)))&&(!false)))=true:=by
 rw[Cv];simp;omega
theorem A8i {x v:Nat} {m:List Nat}:List.set (Ar m) (0+(x*1)) (.int .u32 (v:Int))=Ar (m.set x v):=by rw[Nat.mul_one,Nat.zero_add,Aq7]
theorem Aeq {N:Nat} {a b:List Nat} {t u:Bool} (x:Au a) (y:Au b) (j:fit (a.length+1) N) (k:b.length≤a.length):∀ (m d fuel:Nat) (S:List Nat) (c:Nat),d+m=a.length→m<fuel→Au S→S.length=a.length+1→A5t S d→c≤1 →
  val S+4294967296 ^ d*c=val (a.take d)+val (b.take d) →
  ∃ S',Au S'∧S'.length=a.length+1∧val S'=val a+val b∧∀ K:Nat→LA→O R,W9 N K (Ar a) a.length t (Ar b) b.length u fuel (a.length+1) (c:Int) (a.length:Int) (d:Int) (Ar S)=K (A9 (val a+val b)).length (Ar S')
 | 0,d,fuel+1,S,c,L,_,hS,l,n,M,I=>by
  have T:=j.1;have U:=j.2
  have z:d=a.length:=by omega
  subst z
  have q:val (S.set a.length c)=val a+val b:=by
   rw[gR n (by omega),I,List.take_length,List.take_of_length_le k]
  have v:=N0 hS (show c<4294967296 by omega) a.length
  refine⟨S.set a.length c,v,by simpa using l,q,fun K=>?_⟩
  rw[W9];unfold GG
  rw[Iz (Nat.le_refl _),cf,Ab (by omega),ct,A87 (by omega),ct,A6x (by omega),A8i,Aep (by simp;omega) v (by simp only[List.length_set,l];exact j),q]
 | m+1,d,fuel+1,S,c,L,V,hS,l,n,M,I=>by
  have T:=j.1;have U:=j.2
  have f:d<a.length:=by omega
  have ad:=Jp x f
  have step:∀ s:Nat,s<8589934592→s=c+a[d]+b.getD d 0→val (S.set d (s%4294967296))+4294967296 ^ (d+1)*(s/4294967296)=val (a.take (d+1))+val (b.take (d+1)):=by
   intro s _ hs
   rw[gR n (by omega),Cs f,QV b d,Nat.pow_succ]
   have e:=ee (4294967296 ^ d) s
   have X:4294967296 ^ d*s=4294967296 ^ d*c+4294967296 ^ d*a[d]+4294967296 ^ d*b.getD d 0:=by rw[hs,Nat.mul_add,Nat.mul_add]
   omega
  by_cases i:d<b.length
  ·have bd:=Jp y i
   have A:b.getD d 0=b[d]:=by rw[List.getD_eq_getElem?_getD,List.getElem?_eq_getElem i];rfl
   obtain⟨S',C,D,F,G⟩:=Aeq (t:=t) (u:=u) x y j k m (d+1) fuel (S.set d ((c+a[d]+b[d])%4294967296)) ((c+a[d]+b[d])/4294967296) (by omega) (by omega) (N0 hS (by omega) d) (by simpa using l) (gQ n) (by omega) (step _ (by omega) (by rw[A]))
   refine⟨S',C,D,F,fun K=>?_⟩
   rw[W9];unfold GG
   rw[Hh f,ct,Ab f,ct,Ahw f,Hh i,ct,Ab i,ct,Ahw i,Ab (by omega),ct,Azw (by omega),ct,ZZ (by omega),ZZ (by omega),Aly,ZZ (by omega),Aly,ZZ (by omega),Awj,Aq8,Aen,wS (by omega)]
   exact G K
  ·have A:b.getD d 0=0:=by rw[List.getD_eq_getElem?_getD,List.getElem?_eq_none (by omega)];rfl
   obtain⟨S',C,D,F,G⟩:=Aeq (t:=t) (u:=u) x y j k m (d+1) fuel (S.set d ((c+a[d])%4294967296)) ((c+a[d])/4294967296) (by omega) (by omega) (N0 hS (by omega) d) (by simpa using l) (gQ n) (by omega) (step _ (by omega) (by rw[A];rfl))
   refine⟨S',C,D,F,fun K=>?_⟩
   rw[W9];unfold GG
   rw[Hh f,ct,Ab f,ct,Ahw f,Iz (by omega),cf,Ab (by omega),ct,Azw (by omega),ct,ZZ (by omega),Aly,ZZ (by omega),Awj,Aq8,Aen,wS (by omega)]
   exact G K
theorem A4n {N:Nat} {a b:List Nat} {t u:Bool} (e:Au a) (f:Au b) (c:fit (a.length+1) N) (d:b.length≤a.length) :
  ∃ S',Au S'∧val S'=val a+val b∧∀ K:Nat→LA→O R,OC N K (Ar a) a.length t (Ar b) b.length u=K (A9 (val a+val b)).length (Ar S'):=by
 have l:=c.1;have m:=c.2
 obtain⟨S',i,_,j,k⟩:=Aeq (R:=R) (t:=t) (u:=u) e f c d a.length 0 N (List.replicate (a.length+1) 0) 0 (by omega) (by omega) (Jq _) (by simp) (Y6 _) (by omega) (by rw[Kp];simp[val])
 refine⟨S',i,j,fun K=>?_⟩
 unfold OC lU
 rw[A9u (by omega),A7k (by omega),ct,Int.toNat_natCast,Lf]
 exact k K
theorem A4o {N:Nat} {a b:List Nat} {n m:Nat} {t o t' o':Bool} (hn:n=a.length) (k:m=b.length) (e:Au a) (f:Au b) (c:fit (a.length+b.length+1) N) :
  ∃ S',Au S'∧val S'=val a+val b∧∀ K:Nat→LA→O R,ri N (Ar a) n t o (Ar b) m t' o' K=K (A9 (val a+val b)).length (Ar S'):=by
 subst hn k
 have la:=(Dz e).2
 have lb:=(Dz f).2
 by_cases l:(A9 (val a)).length<(A9 (val b)).length
 ·obtain⟨S',i,d,j⟩:=A4n (R:=R) (N:=N) (a:=A9 (val b)) (b:=A9 (val a)) (t:=o') (u:=o) (At _) (At _) (c.le (by omega)) (by omega)
  rw[Av,Av,Nat.add_comm] at d
  refine⟨S',i,d,fun K=>?_⟩
  rw[lV];unfold mt
  dsimp only
  rw[Ec rfl e (c.le (by omega)),Ec rfl f (c.le (by omega)),Hh l,ct,j,Av,Av,Nat.add_comm (val b)]
 ·obtain⟨S',i,d,j⟩:=A4n (R:=R) (N:=N) (a:=A9 (val a)) (b:=A9 (val b)) (t:=o) (u:=o') (At _) (At _) (c.le (by omega)) (by omega)
  rw[Av,Av] at d
  refine⟨S',i,d,fun K=>?_⟩
  rw[lV];unfold mt
  dsimp only
  rw[Ec rfl e (c.le (by omega)),Ec rfl f (c.le (by omega)),Iz (by omega),cf,j,Av,Av]
end
end Gx

namespace Gx
open Go Go.Proofs
section
variable {R:Type}
theorem Ake {x y:Nat} (b:x<4294967296) (e:y≤4294967296):∃ d c:Nat,d<4294967296∧c≤1∧x+4294967296*c=d+y∧IntKind.wrap .u32 (IntKind.wrap .u64 ((x:Int) - (y:Int)))=(d:Int)∧Int.fdiv (IntKind.wrap .u64 ((x:Int) - (y:Int))) (2 ^ 63)=(c:Int):=by
 by_cases h:y≤x
 ·refine⟨x - y,0,by omega,by omega,by omega,?_,?_⟩
  ·rw[Alz (by omega) h,A6x (by omega)]
  ·rw[Alz (by omega) h,A77,Nat.div_eq_of_lt (by omega)]
 ·refine⟨x+4294967296 - y,1,by omega,by omega,by omega,?_,?_⟩
  ·rw[A36 (by omega) (by omega),Aq8];congr 1;omega
  ·rw[A36 (by omega) (by omega),A77];congr 1;omega
theorem A6a {x c w:Nat} (b:x<4294967296) (d:c≤1) (e:w<4294967296):IntKind.wrap .u64 ((IntKind.wrap .u64 ((x:Int) - (c:Int))) - (w:Int))=IntKind.wrap .u64 ((x:Int) - ((c+w:Nat):Int)):=by
 rw[x8,x8,x8];omega
theorem Aer {N:Nat} {a b:List Nat} {t u:Bool} (z:Au a) (A:Au b) (n:fit a.length N) (k:b.length≤a.length) (q:val b≤val a):∀ (m d fuel:Nat) (S:List Nat) (c:Nat),d+m=a.length→m<fuel→Au S→S.length=a.length→A5t S d→c≤1 →
  val S+val (b.take d)=val (a.take d)+4294967296 ^ d*c →
  ∃ S',Au S'∧val S'=val a - val b∧∀ K:Nat→Bool→LA→O R,T3 N K (Ar b) b.length t a.length (Ar a) u fuel (c:Int) (a.length:Int) (d:Int) (Ar S)=K (A9 (val a - val b)).length true (Ar S')
 | 0,d,fuel+1,S,c,hd,_,hS,l,x,Y,hv=>by
  have C:d=a.length:=by omega
  subst C
  rw[List.take_length,List.take_of_length_le k] at hv
  have D:=Le hS
  rw[l] at D
  have F:c=0:=by
   rcases Nat.lt_or_ge 0 c with h | h
   ·exfalso
    have:c=1:=by omega
    subst this
    omega
   ·omega
  subst F
  have s:val S=val a - val b:=by omega
  refine⟨S,hS,s,fun K=>?_⟩
  rw[T3];unfold GH
  rw[Iz (Nat.le_refl _),cf,Aep l.symm hS (by rw[l];exact n),s]
 | m+1,d,fuel+1,S,c,hd,hfu,hS,l,x,Y,hv=>by
  have h1:=n.1;have h2:=n.2
  have f:d<a.length:=by omega
  have ad:=Jp z f
  have step:∀ y g j:Nat,y=c+b.getD d 0→a[d]+4294967296*j=g+y→val (S.set d g)+val (b.take (d+1))=val (a.take (d+1))+4294967296 ^ (d+1)*j:=by
   intro y g j hy v
   rw[gR x (by omega),Cs f,QV b d,Nat.pow_succ,Nat.mul_assoc]
   have e:4294967296 ^ d*(a[d]+4294967296*j)=4294967296 ^ d*(g+(c+b.getD d 0)):=by rw[v,hy]
   rw[Nat.mul_add,Nat.mul_add,Nat.mul_add] at e
   omega
  by_cases i:d<b.length
  ·have bd:=Jp A i
   have v:b.getD d 0=b[d]:=by rw[List.getD_eq_getElem?_getD,List.getElem?_eq_getElem i];rfl
   obtain⟨g,j,G,I,L,M,T⟩:=Ake ad (show c+b[d]≤4294967296 by omega)
   obtain⟨S',U,V,X⟩:=Aer (t:=t) (u:=u) z A n k q m (d+1) fuel (S.set d g) j (by omega) (by omega) (N0 hS G d) (by simpa using l) (gQ x) I (step _ _ _ (by rw[v]) L)
   refine⟨S',U,V,fun K=>?_⟩
   rw[T3];unfold GH
   rw[Hh f,ct,Ab f,ct,Ahw f,Hh i,ct,Ab i,ct,Ahw i,ct,Azw (by omega),ct,ZZ (show a[d]<18446744073709551616 by omega),ZZ (show b[d]<18446744073709551616 by omega),A6a ad Y bd,M,T,Aen,wS (by omega)]
   exact X K
  ·have v:b.getD d 0=0:=by rw[List.getD_eq_getElem?_getD,List.getElem?_eq_none (by omega)];rfl
   obtain⟨g,j,G,I,L,M,T⟩:=Ake ad (show c≤4294967296 by omega)
   obtain⟨S',U,V,X⟩:=Aer (t:=t) (u:=u) z A n k q m (d+1) fuel (S.set d g) j (by omega) (by omega) (N0 hS G d) (by simpa using l) (gQ x) I (step _ _ _ (by rw[v];rfl) L)
   refine⟨S',U,V,fun K=>?_⟩
   rw[T3];unfold GH
   rw[Hh f,ct,Ab f,ct,Ahw f,Iz (by omega),cf,ct,Azw (by omega),ct,ZZ (show a[d]<18446744073709551616 by omega),M,T,Aen,wS (by omega)]
   exact X K
theorem Aud {N:Nat} {a b:List Nat} {n m:Nat} {t o t' o':Bool} (hn:n=a.length) (k:m=b.length) (f:Au a) (i:Au b) (c:fit (a.length+b.length) N) (d:val b≤val a) :
  ∃ S',Au S'∧val S'=val a - val b∧∀ K:Nat→Bool→LA→O R,aY N (Ar a) n t o (Ar b) m t' o' K=K (A9 (val a - val b)).length true (Ar S'):=by
 subst hn k
 have s:=c.1;have v:=c.2
 have la:=(Dz f).2
 have lb:=(Dz i).2
 have e:=Gg d
 obtain⟨S',l,j,q⟩:=Aer (R:=R) (N:=N) (a:=A9 (val a)) (b:=A9 (val b)) (t:=o') (u:=o) (At _) (At _) (c.le (by omega)) e (by rw[Av,Av];exact d) (A9 (val a)).length 0 N (List.replicate (A9 (val a)).length 0) 0 (by omega) (by omega) (Jq _) (by simp) (Y6 _) (by omega) (by rw[Kp];simp[val])
 rw[Av,Av] at j
 refine⟨S',l,j,fun K=>?_⟩
 rw[lW];unfold mv
 dsimp only
 rw[Ec rfl f (c.le (by omega)),Ec rfl i (c.le (by omega)),Akd rfl rfl (At _) (At _) (c.le (by omega)),Av,Av]
 have:decide (EQ (val a) (val b)<0)=false:=by unfold EQ;split<;>(try split)<;>simp<;>omega
 rw[this,cf,A7k (by omega),ct,Lf]
 have:=q K
 rw[Av,Av] at this
 exact this
theorem A4p {N:Nat} {a b:List Nat} {n m:Nat} {t o t' o':Bool} {K:Nat→Bool→LA→O R} (hn:n=a.length) (i:m=b.length) (e:Au a) (f:Au b) (c:fit (a.length+b.length) N) (d:val a<val b) :
  aY N (Ar a) n t o (Ar b) m t' o' K=K 0 false []:=by
 subst hn i
 have la:=(Dz e).2
 have lb:=(Dz f).2
 rw[lW];unfold mv
 dsimp only
 rw[Ec rfl e (c.le (by omega)),Ec rfl f (c.le (by omega)),Akd rfl rfl (At _) (At _) (c.le (by omega)),Av,Av]
 have:decide (EQ (val a) (val b)<0)=true:=by unfold EQ;rw[if_pos d];rfl
 rw[this,ct]
end
end Gx

namespace Gx
open Go Go.Proofs
section
variable {R:Type}
theorem A6y {n:Nat} (h:n≠0):(((n:Nat):Int)==(0:Int))=false:=by rw[beq_eq_false_iff_ne];omega
theorem A4q:∀ {S:List Nat} {j:Nat} (h:j<S.length),4294967296 ^ j*S[j]≤val S
 | x::r,0,_=>by simp[val]
 | x::r,j+1,h=>by
  have:=A4q (S:=r) (j:=j) (by simpa using h)
  simp only[List.getElem_cons_succ,val,Nat.pow_succ]
  rw[Nat.mul_comm (4294967296 ^ j),Nat.mul_assoc]
  omega
theorem A7l {S:List Nat} {k:Nat} (h:val S<4294967296 ^ k):A5t S k:=fun j b c=>by
 have d:=A4q b
 have e:4294967296 ^ k≤4294967296 ^ j:=Nat.pow_le_pow_right (by omega) c
 rcases Nat.eq_zero_or_pos S[j] with h0 | h0
 ·exact h0
 ·have:=Nat.le_mul_of_pos_right (4294967296 ^ j) h0
  omega
theorem A4r {p q y s:Nat} (b:p<4294967296) (hq:q<4294967296) (c:y<4294967296) (hs:s<4294967296):p+(q*y+s)<18446744073709551616:=by
 have:q*y≤4294967295*4294967295:=Nat.mul_le_mul (by omega) (by omega)
 omega
theorem A4s {N:Nat} {x y:List Nat} {c d:Bool} {f q J:Nat} (D:Au y) (hq:q<4294967296) (G:f<x.length) (hs:x.length+y.length≤1000000000000):∀ (m l fuel:Nat) (S:List Nat) (p:Nat) (v:Nat),l+m=y.length→m<fuel→Au S→S.length=x.length+y.length→A5t S (f+y.length)→p<4294967296 →
  val S+4294967296 ^ (f+l)*p=v+4294967296 ^ f*(q*val (y.take l)) →
  ∃ S',Au S'∧S'.length=x.length+y.length∧val S'=v+4294967296 ^ f*(q*val y)∧∀ (k:Nat→Int→Int→LA→O R) (K:Nat→LA→O R),W8 N k K (Ar y) y.length d (x.length+y.length) (f:Int) (q:Int) (Ar x) x.length c (J:Int) fuel (p:Int) (y.length:Int) (l:Int) (Ar S)=k (x.length+y.length) J ((f+1:Nat):Int) (Ar S')
 | 0,l,fuel+1,S,p,v,I,_,hS,b,u,t,z=>by
  have A:l=y.length:=by omega
  subst A
  rw[List.take_length] at z
  refine⟨S.set (f+y.length) p,N0 hS t _,by simpa using b,by rw[gR u (by omega),z],fun k K=>?_⟩
  rw[W8];unfold SK
  rw[Iz (Nat.le_refl _),cf,wA (by omega),Ab (by omega),ct,Azw (by omega),ct,A6x t,Aen,wS (by omega)]
 | m+1,l,fuel+1,S,p,v,I,L,hS,b,u,t,z=>by
  have i:l<y.length:=by omega
  have yl:=Jp D i
  have hi:f+l<S.length:=by omega
  have sl:=Jp hS hi
  have M:=A4r t hq yl sl
  have C:q*y[l]<18446744073709551616:=by omega
  generalize n:p+(q*y[l]+S[f+l])=s at *
  have F:=y3 (v:=s%4294967296) hi
  have key:val (S.set (f+l) (s%4294967296))+4294967296 ^ (f+(l+1))*(s/4294967296)=v+4294967296 ^ f*(q*val (y.take (l+1))):=by
   rw[Cs i,←Nat.add_assoc f l 1,Nat.pow_succ]
   have e:=ee (4294967296 ^ (f+l)) s
   have e2:4294967296 ^ (f+l)*s=4294967296 ^ (f+l)*p+(4294967296 ^ (f+l)*(q*y[l])+4294967296 ^ (f+l)*S[f+l]):=by rw[←n,Nat.mul_add,Nat.mul_add]
   have e3:4294967296 ^ f*(q*(val (y.take l)+4294967296 ^ l*y[l]))=4294967296 ^ f*(q*val (y.take l))+4294967296 ^ (f+l)*(q*y[l]):=by
    rw[Nat.mul_add,Nat.mul_add,Nat.pow_add]
    congr 1
    rw[Nat.mul_assoc];congr 1
    rw[←Nat.mul_assoc,←Nat.mul_assoc,Nat.mul_comm q]
   omega
  obtain⟨S',T,U,V,X⟩:=A4s (N:=N) (x:=x) (c:=c) (d:=d) (J:=J) D hq G hs m (l+1) fuel (S.set (f+l) (s%4294967296)) (s/4294967296) v (by omega) (by omega) (N0 hS (by omega) _) (by simpa using b) (fun j Y hk=>by
   rw[List.getElem_set,if_neg (by omega)];exact u j (by simpa using Y) hk) (by omega) key
  refine⟨S',T,U,V,fun k K=>?_⟩
  rw[W8];unfold SK
  rw[Hh i,ct,Ab i,ct,Ahw i,wA (by omega),Ab (by omega),ct,sd hi,ct,Azw hi,ct,ZZ (show q<18446744073709551616 by omega),ZZ (show y[l]<18446744073709551616 by omega),ZZ (show S[f+l]<18446744073709551616 by omega),A7e,ZZ C,Aly,ZZ (by omega),Aly,n,ZZ M,Awj,Aq8,Aen,wS (by omega)]
  exact X k K
theorem Aoc {N:Nat} {x y:List Nat} {c d:Bool} (n:Au x) (s:Au y) (e:fit (x.length+y.length) N):∀ (m f fuel:Nat) (S:List Nat),f+m=x.length→m<fuel→Au S→S.length=x.length+y.length →
  val S=val (x.take f)*val y →
  ∃ S',Au S'∧val S'=val x*val y∧∀ K:Nat→LA→O R,Qv N K (Ar y) y.length d (Ar x) x.length c fuel (x.length+y.length) (x.length:Int) (f:Int) (Ar S)=K (A9 (val x*val y)).length (Ar S')
 | 0,f,fuel+1,S,C,_,hS,i,l=>by
  have t:f=x.length:=by omega
  subst t
  rw[List.take_length] at l
  refine⟨S,hS,l,fun K=>?_⟩
  rw[Qv];unfold GF
  rw[Iz (Nat.le_refl _),cf,Aep i.symm hS (by rw[i];exact e),l]
 | m+1,f,fuel+1,S,C,D,hS,i,l=>by
  have T:=e.1;have U:=e.2
  have b:f<x.length:=by omega
  have xf:=Jp n b
  have A:=Le (Mj n f)
  rw[List.length_take,Nat.min_eq_left (by omega)] at A
  have F:=Le s
  have k:val S<4294967296 ^ (f+y.length):=by
   rw[l,Nat.pow_add];exact Nat.mul_lt_mul'' A F
  have j:val (x.take (f+1))*val y=val S+4294967296 ^ f*(x[f]*val y):=by
   rw[Cs b,Nat.add_mul,l,Nat.mul_assoc]
  by_cases h0:x[f]=0
  ·obtain⟨S',u,v,z⟩:=Aoc (c:=c) (d:=d) n s e m (f+1) fuel S (by omega) (by omega) hS i (by rw[j,h0];simp)
   refine⟨S',u,v,fun K=>?_⟩
   rw[Qv];unfold GF
   rw[Hh b,ct,Ab b,ct,Ahw b,show(((x[f]:Nat):Int)==0)=true by simp[h0],ct,wS (by omega)]
   exact z K
  ·obtain⟨S1,G,I,L,M⟩:=A4s (R:=R) (N:=N) (x:=x) (y:=y) (c:=c) (d:=d) (f:=f) (q:=x[f]) (J:=x.length) s xf b (by omega) y.length 0 N S 0 (val S) (by omega) (by omega) hS i (A7l k) (by omega) (by simp[val])
   obtain⟨S',u,v,z⟩:=Aoc (c:=c) (d:=d) n s e m (f+1) fuel S1 (by omega) (by omega) G I (by rw[L,j])
   refine⟨S',u,v,fun K=>?_⟩
   rw[Qv];unfold GF
   rw[Hh b,ct,Ab b,ct,Ahw b,show(((x[f]:Nat):Int)==0)=false by simp;exact h0,cf]
   have:=M (Qv N K (Ar y) y.length d (Ar x) x.length c fuel) K
   simp only[Int.natCast_zero] at this
   dsimp only
   rw[this]
   exact z K
theorem A4t {N:Nat} {a b:List Nat} {n m:Nat} {t o t' o':Bool} (hn:n=a.length) (q:m=b.length) (j:Au a) (k:Au b) (e:fit (a.length+b.length) N) :
  ∃ S',Au S'∧val S'=val a*val b∧∀ K:Nat→LA→O R,rc N (Ar a) n t o (Ar b) m t' o' K=K (A9 (val a*val b)).length (Ar S'):=by
 subst hn q
 have v:=e.1;have z:=e.2
 have la:=(Dz j).2
 have lb:=(Dz k).2
 by_cases f:val a=0
 ·refine⟨[],fc,by rw[f];simp[val],fun K=>?_⟩
  rw[SL];unfold fj
  dsimp only
  rw[Ec rfl j (e.le (by omega)),Ec rfl k (e.le (by omega)),f,Nat.zero_mul,Hf];rfl
 ·by_cases i:val b=0
  ·refine⟨[],fc,by rw[i];simp[val],fun K=>?_⟩
   rw[SL];unfold fj
   dsimp only
   rw[Ec rfl j (e.le (by omega)),Ec rfl k (e.le (by omega)),i,Nat.mul_zero,Hf]
   cases ((((A9 (val a)).length:Nat):Int)==0)<;>rfl
  ·obtain⟨S',s,l,u⟩:=Aoc (R:=R) (N:=N) (x:=A9 (val a)) (y:=A9 (val b)) (c:=o) (d:=o') (At _) (At _) (e.le (by omega)) (A9 (val a)).length 0 N (List.replicate ((A9 (val a)).length+(A9 (val b)).length) 0) (by omega) (by omega) (Jq _) (by simp) (by rw[Kp];simp[val])
   rw[Av,Av] at l
   refine⟨S',s,l,fun K=>?_⟩
   rw[SL];unfold fj
   dsimp only
   have n1:(A9 (val a)).length≠0:=fun h=>f (Ei.1 h)
   have n2:(A9 (val b)).length≠0:=fun h=>i (Ei.1 h)
   rw[Ec rfl j (e.le (by omega)),Ec rfl k (e.le (by omega)),A6y n1,show((false:Bool)==false)=true by rfl,ct,A9t,A6y n2,cf]
   unfold fi lT
   rw[wA (by omega),A7k (by omega),ct,Int.toNat_natCast,Lf]
   have:=u K
   rw[Av,Av] at this
   exact this
end
end Gx

namespace Gx
open Go Go.Proofs
section
variable {R:Type}
theorem A0k {v:Nat} (h:(A9 v).length≤2):v<18446744073709551616:=by
 have:=Le (At v)
 rw[Av] at this
 have b:4294967296 ^ (A9 v).length≤4294967296 ^ 2:=Nat.pow_le_pow_right (by omega) h
 omega
theorem y5 {v:Nat} (h:v<18446744073709551616):(A9 v).length≤2:=MG (by simpa using h)
theorem A2g {N:Nat} {l:List Nat} {n:Nat} {t o:Bool} {K:Int→O R} (hn:n=l.length) (b:Au l) (c:l.length≤2) (hN:4≤N):fk N (Ar l) n t o K=K (val l:Int):=by
 subst hn
 obtain⟨M,rfl⟩:∃ M,N=M+4:=⟨N - 4,by omega⟩
 rw[tj];unfold nA
 match l,b,c with
 | [],_,_ =>
  dsimp only
  rw[Kq];unfold L6
  simp[val]
 | [x],b,_ =>
  have d:=(E5.1 b).1
  dsimp only
  rw[Kq];unfold L6
  simp only[List.length_cons,List.length_nil,Int.toNat_zero,Nat.zero_mul,List.drop_zero,fe,A5]
  rw[show decide ((0:Int)<((0+1:Nat):Int))=true by decide,ct,show Ae 0 (0+1)=true by decide,ct,show IntKind.wrap .i64 ((32:Int)*0)=0 by decide,show decide ((0:Int)<0)=false by decide,cf]
  rw[Kq];unfold L6
  rw[show IntKind.wrap .i64 ((0:Int)+1)=1 by decide,show decide ((1:Int)<((0+1:Nat):Int))=false by decide,cf]
  have e:IntKind.wrap .u64 ((IntKind.wrap .u64 (x:Int))*2 ^ (min (Int.toNat 0) 64))=(x:Int):=by rw[ZZ (by omega)];simp;exact ZZ (by omega)
  rw[e,show(0:Int)=((0:Nat):Int) by rfl,A51 (by omega) (by omega)]
  simp[val]
 | [x,y],b,_ =>
  have d:=(E5.1 b).1
  have i:=(E5.1 (E5.1 b).2).1
  dsimp only
  rw[Kq];unfold L6
  simp only[List.length_cons,List.length_nil,Int.toNat_zero,Nat.zero_mul,List.drop_zero,fe,A5]
  rw[show decide ((0:Int)<((0+1+1:Nat):Int))=true by decide,ct,show Ae 0 (0+1+1)=true by decide,ct,show IntKind.wrap .i64 ((32:Int)*0)=0 by decide,show decide ((0:Int)<0)=false by decide,cf]
  rw[Kq];unfold L6
  rw[show IntKind.wrap .i64 ((0:Int)+1)=1 by decide,show decide ((1:Int)<((0+1+1:Nat):Int))=true by decide,ct,show Ae 1 (0+1+1)=true by decide,ct,show IntKind.wrap .i64 ((32:Int)*1)=32 by decide,show decide ((32:Int)<0)=false by decide]
  simp only[show Int.toNat 1*1=1 by rfl,List.drop_succ_cons,List.drop_zero,A5,cf]
  rw[Kq];unfold L6
  rw[show IntKind.wrap .i64 ((1:Int)+1)=2 by decide,show decide ((2:Int)<((0+1+1:Nat):Int))=false by decide,cf]
  have e:IntKind.wrap .u64 ((IntKind.wrap .u64 (x:Int))*2 ^ (min (Int.toNat 0) 64))=(x:Int):=by rw[ZZ (by omega)];simp;exact ZZ (by omega)
  have f:IntKind.wrap .u64 ((IntKind.wrap .u64 (y:Int))*2 ^ (min (Int.toNat 32) 64))=((y*2 ^ 32:Nat):Int):=by
   rw[ZZ (by omega),show(2:Int) ^ (min (Int.toNat 32) 64)=((2 ^ 32:Nat):Int) by rfl,A7e,ZZ (by omega)]
  rw[e,f,show(0:Int)=((0:Nat):Int) by rfl,A51 (by omega) (by omega),A51 (by simp;omega) (by omega),Nat.zero_or,Nat.or_comm,Awk (by omega)]
  congr 1;simp only[val];omega
theorem Ayn {N:Nat} {v:Nat} (e:v<18446744073709551616) (hN:4≤N):∃ S,Au S∧val S=v∧∀ K:Nat→LA→O R,N1 N (v:Int) K=K (A9 v).length (Ar S):=by
 have d:Au [v%4294967296,v/4294967296]:=E5.2 ⟨by omega,E5.2 ⟨by omega,fc⟩⟩
 have b:val [v%4294967296,v/4294967296]=v:=by simp[val];omega
 refine⟨_,d,b,fun K=>?_⟩
 rw[IV];unfold GE
 rw[Aq8,Awj,A6x (show v/4294967296<4294967296 by omega)]
 have:=Aeo (R:=R) (N:=N) (l:=[v%4294967296,v/4294967296]) (K:=fun c=>K c (Ar [v%4294967296,v/4294967296])) d (by simp) 2 N (by simp) (by omega)
 rw[show [v%4294967296,v/4294967296].take 2=[v%4294967296,v/4294967296] by rfl,b] at this
 rw[lR];unfold mb
 exact this
theorem wZ {N:Nat} {l:List Nat} {n:Nat} {t o:Bool} {K:Int→Bool→O R} (hn:n=l.length) (c:Au l) (b:fit l.length N):FE N (Ar l) n t o K=if val l<18446744073709551616 then K (val l:Int) true else K 0 false:=by
 have e:=b.1
 rw[i_];unfold lX
 rw[Ec hn c b]
 by_cases h:val l<18446744073709551616
 ·have:=y5 h
  rw[if_pos h,show decide ((((A9 (val l)).length:Nat):Int)>2)=false by simp;omega,cf,A2g rfl (At _) this (by omega),Av]
 ·have:¬ (A9 (val l)).length≤2:=fun d=>h (A0k d)
  rw[if_neg h,show decide ((((A9 (val l)).length:Nat):Int)>2)=true by simp;omega,ct]
theorem A2h {N:Nat} {l:List Nat} {n:Nat} {t o:Bool} {K:Nat→LA→O R} (hn:n=l.length) (c:Au l) (b:fit l.length N):mq N (Ar l) n t o K=K (A9 (val l)).length (Ar (A9 (val l))):=by
 have d:=b.1;have e:=b.2
 have:=(Dz c).2
 rw[th];unfold z8
 rw[Ec hn c b,A7k (by omega),ct,IU,Bool.or_true,ct]
 congr 1
 unfold Cx
 rw[Nat.min_self,Nat.mul_one,List.take_zero,List.nil_append,List.take_of_length_le (by rw[Cv];exact Nat.le_refl _),List.drop_eq_nil_of_le (by simp[Cv]),List.append_nil]
end
end Gx

namespace Gx
open Go Go.Proofs
section
variable {R:Type}
theorem Akf {X:List Nat} {n:Nat} (h:X.length=n+1):val X=val (X.take n)+4294967296 ^ n*X[n]:=by
 have:=Cs (l:=X) (c:=n) (by omega)
 rwa [List.take_of_length_le (by omega)] at this
end
end Gx

namespace Gx
open Go Go.Proofs
section
variable {R:Type}
theorem A4u (a b:Nat):Int.tdiv (a:Int) (b:Int)=((a/b:Nat):Int):=rfl
theorem A4v (a b:Nat):Int.tmod (a:Int) (b:Int)=((a%b:Nat):Int):=rfl
theorem A88 {a b:Nat} (c:a<4294967296) (d:b<4294967296):tb .u64 (IntKind.wrap .u64 ((a:Int)*2 ^ 32)) (b:Int)=((a*4294967296+b:Nat):Int):=by
 rw[show(2:Int) ^ 32=((2 ^ 32:Nat):Int) by rfl,A7e,ZZ (by omega),A51 (by omega) (by omega),Awk (by omega)]
end
end Gx

namespace Gx
open Go Go.Proofs
section
variable {R:Type}
theorem A4w {l:List Nat} {d:Nat} (h:d<l.length):val (l.drop d)=l[d]+4294967296*val (l.drop (d+1)):=by
 rw[List.drop_eq_getElem_cons h,val]
end
end Gx

namespace Gx
open Go Go.Proofs
section
variable {R:Type}
theorem Ayo {S:List Nat} {n:Nat} (hS:Au S) (h:S.length=n+1):val S<(S[n]+1)*4294967296 ^ n:=by
 have c:=Akf h
 have b:=Le (Mj hS n)
 rw[List.length_take,Nat.min_eq_left (by omega)] at b
 rw[Nat.add_mul,Nat.mul_comm S[n]];omega
end
end Gx

namespace Gx
open Go Go.Proofs
section
variable {R:Type}
theorem A4x {x y:Nat} (c:1≤y) (h:y≤x):2*(y*(x%y))≤x*y:=by
 have d:=Nat.div_add_mod x y
 have e:=Nat.mod_lt x (show 0<y by omega)
 have hq:1≤x/y:=by rw[Nat.le_div_iff_mul_le (by omega)];omega
 have f:y*1≤y*(x/y):=Nat.mul_le_mul_left _ hq
 have b:2*(x%y)≤x:=by omega
 have:=Nat.mul_le_mul_left y b
 rw[Nat.mul_comm x y,Nat.mul_left_comm];exact this
end
end Gx

namespace Gx
open Go Go.Proofs
section
variable {R:Type}
theorem se {a:List Nat} (b:Au a) (i:Nat):a.getD i 0<4294967296:=by
 by_cases h:i<a.length
 ·rw[List.getD_eq_getElem?_getD,List.getElem?_eq_getElem h];exact Jp b h
 ·rw[List.getD_eq_getElem?_getD,List.getElem?_eq_none (by omega)];simp
end
end Gx

namespace Gx
open Go Go.Proofs
section
variable {R:Type}
theorem A4y (n m:Nat):4294967296 ^ n*4294967296 ^ m=2 ^ (32*(n+m)):=by
 rw[←Nat.pow_add,show(4294967296:Nat)=2 ^ 32 by rfl,←Nat.pow_mul]
end
end Gx

namespace Gx
open Go Go.Proofs
section
variable {R:Type}
theorem A8j {c:Nat} (h:c≤1000000000000):((Nat.ble (0+c) 140737488355328)&&(Nat.ble ((0+c)*4) 140737488355328))=true:=by simp;omega
theorem ly {N:Nat} {l:List Nat} {t o:Bool} {K:Nat→LA→O R} (b:Au l) (hs:l.length≤1000000000000):∀ (c fuel:Nat),c≤l.length→c<fuel →
  Pd N K (Ar l) l.length t o fuel (c:Int)=K (A9 (val (l.take c))).length (Ar (A9 (val (l.take c))))
 | 0,fuel+1,d,_=>by
  rw[Pd];unfold DP
  rw[show decide (((0:Nat):Int)>0)=false by simp]
  rw[show((false:Bool)==true)=false by rfl,cf,A7z (by omega),ct,Int.toNat_natCast,Nat.mul_one,ff,IU,Bool.or_true,ct,A8j (by omega),ct];rfl
 | c+1,fuel+1,d,e=>by
  rw[Pd];unfold DP
  rw[A7j,ct,wP (by omega),Ab (by omega),ct,Ahw (by omega),A7i,A7z (by omega),ct,ly b hs c fuel (by omega) (by omega),Int.toNat_natCast,Nat.mul_one,ff,IU,Bool.or_true,ct,A8j (by omega),ct,Nat.zero_add]
  by_cases h0:l[c]=0
  ·rw[Cs (by omega),h0];simp
  ·rw[Aob b (by omega) h0,List.length_take,Nat.min_eq_left d]
   rw[A6y h0,cf]
theorem Ep {N:Nat} {l:List Nat} {n:Nat} {t o:Bool} {K:Nat→LA→O R} (hn:n=l.length) (c:Au l) (b:fit l.length N):Eu N (Ar l) n t o K=K (A9 (val l)).length (Ar (A9 (val l))):=by
 subst hn
 have d:=b.1;have e:=b.2
 rw[SO];unfold OG
 dsimp only
 rw[ly c (by omega) l.length N (Nat.le_refl _) (by omega),List.take_length]
theorem Aue {N:Nat} {a b:List Nat} {t o t' o':Bool} {K:Bool→O R} (hs:a.length≤1000000000000) (f:a.length=b.length):∀ (m j fuel:Nat),j+m=a.length→m<fuel →
  Mm N K (Ar a) a.length t o (Ar b) b.length t' o' fuel (j:Int)=K (decide (a.drop j=b.drop j))
 | 0,j,fuel+1,i,_=>by
  rw[Mm];unfold Yi
  rw[Iz (by omega),cf,List.drop_eq_nil_of_le (by omega),List.drop_eq_nil_of_le (by omega)];simp
 | m+1,j,fuel+1,i,k=>by
  have d:j<a.length:=by omega
  have e:j<b.length:=by omega
  rw[Mm];unfold Yi
  rw[Hh d,ct,Ab d,ct,Ahw d,Ab e,ct,Ahw e,wS (by omega),Aue hs f m (j+1) fuel (by omega) (by omega),List.drop_eq_getElem_cons d,List.drop_eq_getElem_cons e]
  by_cases h:a[j]=b[j]
  ·rw[show((((a[j]:Nat):Int) != ((b[j]:Nat):Int)))=false by simp[h],cf];congr 1;rw[decide_eq_decide,List.cons.injEq];exact⟨fun c=>⟨h,c⟩,fun c=>c.2⟩
  ·rw[show((((a[j]:Nat):Int) != ((b[j]:Nat):Int)))=true by rw[bne_iff_ne];omega,ct];congr 1;symm;rw[decide_eq_false_iff_not,List.cons.injEq];exact fun c=>h c.1
theorem A4z {N:Nat} {a b:List Nat} {n m:Nat} {t o t' o':Bool} {K:Bool→O R} (hn:n=a.length) (e:m=b.length) (d:fit a.length N):FF N (Ar a) n t o (Ar b) m t' o' K=K (decide (a=b)):=by
 subst hn e
 have f:=d.1;have i:=d.2
 rw[ib];unfold SQ
 by_cases c:a.length=b.length
 ·rw[show(((a.length:Nat):Int) != ((b.length:Nat):Int))=false by simp[c],cf]
  have:=Aue (R:=R) (N:=N) (t:=t) (o:=o) (t':=t') (o':=o') (K:=K) (by omega) c a.length 0 N (by omega) (by omega)
  simpa using this
 ·rw[show(((a.length:Nat):Int) != ((b.length:Nat):Int))=true by rw[bne_iff_ne];omega,ct]
  congr 1;symm;rw[decide_eq_false_iff_not];intro h;exact c (by rw[h])
theorem LV {N:Nat} {v:Nat} {K:Nat→LA→O R} (d:v<18446744073709551616) (hN:4≤N):Gn N (v:Int) K=K (A9 v).length (Ar (A9 v)):=by
 have c:Au [v%4294967296,v/4294967296]:=E5.2 ⟨by omega,E5.2 ⟨by omega,fc⟩⟩
 have b:val [v%4294967296,v/4294967296]=v:=by simp[val];omega
 rw[GJ];unfold BH
 rw[Aq8,Awj,A6x (show v/4294967296<4294967296 by omega)]
 have:=ly (R:=R) (N:=N) (l:=[v%4294967296,v/4294967296]) (t:=false) (o:=true) (K:=K) c (by simp) 2 N (by simp) (by omega)
 rw[show [v%4294967296,v/4294967296].take 2=[v%4294967296,v/4294967296] by rfl,b] at this
 rw[SO];unfold OG
 exact this
theorem UL {N:Nat} {l:List Nat} {n:Nat} {t o:Bool} {K:Int→Bool→O R} (hn:n=l.length) (m:Au l) (j:fit l.length N):Ti N (Ar l) n t o K=if val l<18446744073709551616 then K (val l:Int) true else K 0 false:=by
 have u:=j.1
 rw[bE];unfold JD
 rw[Ep hn m j]
 by_cases h:val l<18446744073709551616
 ·have q:=y5 h
  rw[if_pos h,show decide ((((A9 (val l)).length:Nat):Int)>2)=false by simp;omega,cf]
  have c:=Av (val l)
  have f:=At (val l)
  obtain⟨M,hM⟩:∃ M,N=M+4:=⟨N - 4,by omega⟩
  rw[hM]
  generalize A9 (val l)=d at *
  match d,q,c,f with
  | [],_,c,_ =>
   dsimp only
   rw[Ez];unfold Gp
   rw[←c,i64 (by simp)];rfl
  | [x],_,c,f =>
   have i:=(E5.1 f).1
   have e:val l=x:=by rw[←c];simp[val]
   dsimp only
   rw[Ez];unfold Gp
   rw[i64 (by simp),show((([x]:List Nat).length:Nat):Int) - 1=((0:Nat):Int) by rfl,show decide (((0:Nat):Int)≥0)=true by rfl,ct,Ab (by simp),ct,sd (by simp)]
   rw[Ez];unfold Gp
   rw[i64 (by simp),show decide ((((0:Nat):Int) - 1)≥0)=false by rfl,cf]
   have:=A88 (a:=0) (b:=x) (by omega) i
   simp only[List.getElem_cons_zero]
   rw[ZZ (show x<18446744073709551616 by omega),show(0:Int)=((0:Nat):Int) by rfl,this,e];simp
  | [x,y],_,c,f =>
   have i:=(E5.1 f).1
   have k:=(E5.1 (E5.1 f).2).1
   have e:val l=y*4294967296+x:=by rw[←c];simp[val];omega
   dsimp only
   rw[Ez];unfold Gp
   rw[i64 (by simp),show((([x,y]:List Nat).length:Nat):Int) - 1=((1:Nat):Int) by rfl,show decide (((1:Nat):Int)≥0)=true by rfl,ct,Ab (by simp),ct,sd (by simp)]
   rw[Ez];unfold Gp
   rw[i64 (by simp),show(((1:Nat):Int) - 1)=((0:Nat):Int) by rfl,show decide (((0:Nat):Int)≥0)=true by rfl,ct,Ab (by simp),ct,sd (by simp)]
   rw[Ez];unfold Gp
   rw[i64 (by simp),show decide ((((0:Nat):Int) - 1)≥0)=false by rfl,cf]
   have o1:=A88 (a:=0) (b:=y) (by omega) k
   have o2:=A88 (a:=y) (b:=x) k i
   simp only[List.getElem_cons_zero,List.getElem_cons_succ]
   rw[ZZ (show y<18446744073709551616 by omega),ZZ (show x<18446744073709551616 by omega),show(0:Int)=((0:Nat):Int) by rfl,o1,Nat.zero_mul,Nat.zero_add,o2,e]
 ·have:¬ (A9 (val l)).length≤2:=fun s=>h (A0k s)
  rw[if_neg h,show decide ((((A9 (val l)).length:Nat):Int)>2)=true by simp;omega,ct]
theorem Akg {N:Nat} {x y:List Nat} {K:Int→O R} (d:Au x) (e:Au y) (hs:x.length≤1000000000000) (j:x.length=y.length):∀ (i fuel:Nat),i≤x.length→i<fuel →
  Ir N K x.length y.length (Ar x) (Ar y) fuel ((i:Int) - 1)=K (EQ (val (x.take i)) (val (y.take i)))
 | 0,fuel+1,_,_=>by
  rw[Ir];unfold Sy
  rw[show decide ((((0:Nat):Int) - 1)≥0)=false by simp,cf]
  simp[Akb]
 | i+1,fuel+1,hi,k=>by
  rw[Ir];unfold Sy
  rw[show(((i+1:Nat):Int) - 1)=(i:Int) by omega,show decide ((i:Int)≥0)=true by simp,ct,Ab (by omega),ct,sd (by omega),Ab (by omega),ct,sd (by omega),ct,sd (by omega),ct,sd (by omega),i64 (by omega),
   Akg d e hs j i fuel (by omega) (by omega),Cs (by omega),Cs (by omega)]
  have b:=Le (Mj d i)
  have c:=Le (Mj e i)
  rw[List.length_take,Nat.min_eq_left (by omega)] at b c
  by_cases c1:x[i]<y[i]
  ·have:=yZ b c c1
   rw[show decide (((x[i]:Nat):Int)<((y[i]:Nat):Int))=true by simp;exact c1,ct]
   unfold EQ;rw[if_pos this]
  ·by_cases f:y[i]<x[i]
   ·have:=yZ c b f
    rw[show decide (((x[i]:Nat):Int)<((y[i]:Nat):Int))=false by simp;omega,cf,show decide (((x[i]:Nat):Int)>((y[i]:Nat):Int))=true by simp;exact f,ct]
    unfold EQ;rw[if_neg (by omega),if_pos this]
   ·have:x[i]=y[i]:=by omega
    rw[show decide (((x[i]:Nat):Int)<((y[i]:Nat):Int))=false by simp;omega,cf,show decide (((x[i]:Nat):Int)>((y[i]:Nat):Int))=false by simp;omega,cf,this]
    unfold EQ
    congr 1
    by_cases a1:val (x.take i)<val (y.take i)
    ·rw[if_pos a1,if_pos (by omega)]
    ·by_cases a2:val (y.take i)<val (x.take i)
     ·rw[if_neg a1,if_pos a2,if_neg (by omega),if_pos (by omega)]
     ·rw[if_neg a1,if_neg a2,if_neg (by omega),if_neg (by omega)]
theorem A2i {N:Nat} {a b:List Nat} {n m:Nat} {t o t' o':Bool} {K:Int→O R} (hn:n=a.length) (j:m=b.length) (d:Au a) (e:Au b) (c:fit (a.length+b.length) N) :
  T4 N (Ar a) n t o (Ar b) m t' o' K=K (EQ (val a) (val b)):=by
 subst hn j
 have k:=c.1;have l:=c.2
 rw[VH];unfold DQ
 dsimp only
 rw[Ep rfl d (c.le (by omega)),Ep rfl e (c.le (by omega))]
 have la:=(Dz d).2
 have lb:=(Dz e).2
 by_cases f:(A9 (val a)).length=(A9 (val b)).length
 ·rw[show((((A9 (val a)).length:Nat):Int) != (((A9 (val b)).length:Nat):Int))=false by simp;omega,cf,i64 (by omega),Akg (At _) (At _) (by omega) f _ N (Nat.le_refl _) (by omega),List.take_length,f,List.take_length,Av,Av]
 ·rw[show((((A9 (val a)).length:Nat):Int) != (((A9 (val b)).length:Nat):Int))=true by simp;omega,ct]
  by_cases i:(A9 (val a)).length<(A9 (val b)).length
  ·have:=UK i
   rw[Hh i,ct]
   unfold EQ;rw[if_pos this]
  ·have:=UK (show(A9 (val b)).length<(A9 (val a)).length by omega)
   rw[Iz (by omega),cf]
   unfold EQ;rw[if_neg (by omega),if_pos this]
end
end Gx

namespace Gx
open Go Go.Proofs
section
variable {R:Type}
theorem A8k (a b:Nat):lD (a:Int) (b:Int)=((max a b:Nat):Int):=by
 unfold lD
 by_cases h:(b:Int)>(a:Int)
 ·rw[decide_eq_true h];show(b:Int)=_;omega
 ·rw[decide_eq_false h];show(a:Int)=_;omega
theorem Akh {N:Nat} {a b:List Nat} {t o t' o':Bool} {n:Nat} (q:Au a) (u:Au b) (v:a.length<n) (x:b.length<n) (hn:n≤max a.length b.length+1) (k:fit n N):∀ (m d fuel:Nat) (S:List Nat) (c:Nat),d+m=n→m<fuel→Au S→S.length=n→A5t S d→c≤1 →
  val S+4294967296 ^ d*c=val (a.take d)+val (b.take d) →
  ∀ K:Nat→LA→O R,Kr N K (Ar a) a.length t o (Ar b) b.length t' o' fuel n (c:Int) (d:Int) (Ar S)=K (A9 (val a+val b)).length (Ar (A9 (val a+val b)))
 | 0,d,fuel+1,S,c,I,_,hS,l,y,L,z=>by
  intro K
  have A:d=n:=by omega
  subst A
  rw[List.take_of_length_le (by omega),List.take_of_length_le (by omega)] at z
  have C:c=0:=by
   rcases Nat.eq_zero_or_pos c with h | h
   ·exact h
   ·exfalso
    have D:c=1:=by omega
    subst D
    obtain⟨e,rfl⟩:∃ e,d=e+1:=⟨d - 1,by omega⟩
    have x1:=Le q
    have x2:=Le u
    have y1:4294967296 ^ a.length≤4294967296 ^ e:=Nat.pow_le_pow_right (by omega) (by omega)
    have y2:4294967296 ^ b.length≤4294967296 ^ e:=Nat.pow_le_pow_right (by omega) (by omega)
    rw[Nat.pow_succ] at z
    omega
  subst C
  have F:val S=val a+val b:=by omega
  rw[Kr];unfold JE
  rw[Iz (Nat.le_refl _),cf,Nat.mul_one,List.take_of_length_le (by rw[Cv];omega),Ep l.symm hS (by rw[l];exact k),F]
 | m+1,d,fuel+1,S,c,I,M,hS,l,y,L,z=>by
  intro K
  have T:=k.1;have U:=k.2
  have ga:=se q d
  have gb:=se u d
  have step:∀ s:Nat,s=c+a.getD d 0+b.getD d 0→val (S.set d (s%4294967296))+4294967296 ^ (d+1)*(s/4294967296)=val (a.take (d+1))+val (b.take (d+1)):=by
   intro s hs
   rw[gR y (by omega),QV a d,QV b d,Nat.pow_succ]
   have e:=ee (4294967296 ^ d) s
   have V:4294967296 ^ d*s=4294967296 ^ d*c+4294967296 ^ d*a.getD d 0+4294967296 ^ d*b.getD d 0:=by rw[hs,Nat.mul_add,Nat.mul_add]
   omega
  have next:∀ s:Nat,s=c+a.getD d 0+b.getD d 0→Kr N K (Ar a) a.length t o (Ar b) b.length t' o' fuel n ((s/4294967296:Nat):Int) ((d+1:Nat):Int) (Ar (S.set d (s%4294967296)))=K (A9 (val a+val b)).length (Ar (A9 (val a+val b))):=by
   intro s hs
   exact Akh q u v x hn k m (d+1) fuel (S.set d (s%4294967296)) (s/4294967296) (by omega) (by omega) (N0 hS (by omega) d) (by simpa using l) (gQ y) (by omega) (step s hs) K
  have second:∀ w:Nat,w=c+a.getD d 0→GM N (Kr N K (Ar a) a.length t o (Ar b) b.length t' o' fuel) K (Ar a) a.length t o (Ar b) b.length t' o' n (Ar S) (w:Int) (d:Int)=K (A9 (val a+val b)).length (Ar (A9 (val a+val b))):=by
   intro w G
   unfold GM
   by_cases f:d<b.length
   ·have j:b.getD d 0=b[d]:=by rw[List.getD_eq_getElem?_getD,List.getElem?_eq_getElem f];rfl
    rw[Hh f,ct,Ab f,ct,Ahw f,Ab (by omega),ct,Azw (by omega),ct,ZZ (show b[d]<18446744073709551616 by omega),Aly,ZZ (show w+b[d]<18446744073709551616 by omega),Awj,Aq8,Aen,wS (by omega)]
    exact next _ (by rw[G,j])
   ·have j:b.getD d 0=0:=by rw[List.getD_eq_getElem?_getD,List.getElem?_eq_none (by omega)];rfl
    rw[Iz (by omega),cf,Ab (by omega),ct,Azw (by omega),ct,Awj,Aq8,Aen,wS (by omega)]
    exact next _ (by rw[G,j];rfl)
  rw[Kr];unfold JE
  rw[Hh (by omega),ct]
  by_cases i:d<a.length
  ·have j:a.getD d 0=a[d]:=by rw[List.getD_eq_getElem?_getD,List.getElem?_eq_getElem i];rfl
   rw[Hh i,ct,Ab i,ct,Ahw i,ZZ (show a[d]<18446744073709551616 by omega),Aly,ZZ (show c+a[d]<18446744073709551616 by omega)]
   exact second _ (by rw[j])
  ·have j:a.getD d 0=0:=by rw[List.getD_eq_getElem?_getD,List.getElem?_eq_none (by omega)];rfl
   rw[Iz (by omega),cf]
   exact second _ (by rw[j];rfl)
theorem Aki {N:Nat} {a b:List Nat} {n m:Nat} {t o t' o':Bool} {K:Nat→LA→O R} (hn:n=a.length) (d:m=b.length) (e:Au a) (f:Au b) (c:fit (a.length+b.length+1) N) :
  JF N (Ar a) n t o (Ar b) m t' o' K=K (A9 (val a+val b)).length (Ar (A9 (val a+val b))):=by
 subst hn d
 have i:=c.1;have j:=c.2
 rw[uN];unfold nT
 rw[A8k,wS (by omega),A7k (by omega),ct,Int.toNat_natCast,Lf]
 exact Akh e f (n:=max a.length b.length+1) (by omega) (by omega) (Nat.le_refl _) (c.le (by omega)) (max a.length b.length+1) 0 N (List.replicate (max a.length b.length+1) 0) 0 (by omega) (by omega) (Jq _) (by simp) (Y6 _) (by omega) (by rw[Kp];simp[val]) K
theorem Akj {N:Nat} {a b:List Nat} (D:Au a) (F:Au b) (t:fit a.length N) (q:b.length≤a.length) (u:val b≤val a):∀ (m d fuel:Nat) (S:List Nat) (c:Nat),d+m=a.length→m<fuel→Au S→S.length=a.length→A5t S d→c≤1 →
  val S+val (b.take d)=val (a.take d)+4294967296 ^ d*c →
  ∀ K:Nat→Bool→LA→O R,Ks N K a.length b.length (Ar a) (Ar b) fuel (c:Int) (d:Int) (Ar S)=K (A9 (val a - val b)).length true (Ar (A9 (val a - val b)))
 | 0,d,fuel+1,S,c,I,_,hS,s,v,L,G=>by
  intro K
  have x:d=a.length:=by omega
  subst x
  rw[List.take_length,List.take_of_length_le q] at G
  have k:=Le hS
  rw[s] at k
  have z:c=0:=by
   rcases Nat.lt_or_ge 0 c with h | h
   ·exfalso
    have:c=1:=by omega
    subst this
    omega
   ·omega
  subst z
  have A:val S=val a - val b:=by omega
  rw[Ks];unfold JH
  rw[Iz (Nat.le_refl _),cf,Nat.mul_one,List.take_of_length_le (by rw[Cv];omega),Ep s.symm hS (by rw[s];exact t),A]
 | m+1,d,fuel+1,S,c,I,M,hS,s,v,L,G=>by
  intro K
  have U:=t.1;have V:=t.2
  have f:d<a.length:=by omega
  have ad:=Jp D f
  have gb:=se F d
  have step:∀ y g i:Nat,y=c+b.getD d 0→a[d]+4294967296*i=g+y→val (S.set d g)+val (b.take (d+1))=val (a.take (d+1))+4294967296 ^ (d+1)*i:=by
   intro y g i n l
   rw[gR v (by omega),Cs f,QV b d,Nat.pow_succ,Nat.mul_assoc]
   have e:4294967296 ^ d*(a[d]+4294967296*i)=4294967296 ^ d*(g+(c+b.getD d 0)):=by rw[l,n]
   rw[Nat.mul_add,Nat.mul_add,Nat.mul_add] at e
   omega
  have next:∀ y g i:Nat,g<4294967296→i≤1→y=c+b.getD d 0→a[d]+4294967296*i=g+y→Ks N K a.length b.length (Ar a) (Ar b) fuel (i:Int) ((d+1:Nat):Int) (Ar (S.set d g))=K (A9 (val a - val b)).length true (Ar (A9 (val a - val b))):=by
   intro y g i l C n T
   exact Akj D F t q u m (d+1) fuel (S.set d g) i (by omega) (by omega) (N0 hS l d) (by simpa using s) (gQ v) C (step y g i n T) K
  have second:∀ y:Nat,y=c+b.getD d 0→GN N (Ks N K a.length b.length (Ar a) (Ar b) fuel) K a.length b.length (Ar a) (Ar b) (Ar S) (d:Int) (y:Int)=K (A9 (val a - val b)).length true (Ar (A9 (val a - val b))):=by
   intro y n
   unfold GN
   rw[Ab f,ct,sd f,ZZ (show a[d]<18446744073709551616 by omega)]
   by_cases k:a[d]<y
   ·rw[Hh k,ct,ct,Azw (by omega),ct,show((a[d]:Nat):Int)+4294967296=((a[d]+4294967296:Nat):Int) by omega,ZZ (show a[d]+4294967296<18446744073709551616 by omega),Alz (by omega) (by omega),A6x (by omega),Aen,wS (by omega)]
    exact next y (a[d]+4294967296 - y) 1 (by omega) (by omega) n (by omega)
   ·rw[Iz (by omega),cf,ct,Azw (by omega),ct,Alz (by omega) (by omega),A6x (by omega),Aen,wS (by omega)]
    exact next y (a[d] - y) 0 (by omega) (by omega) n (by omega)
  rw[Ks];unfold JH
  rw[Hh f,ct]
  by_cases j:d<b.length
  ·have l:b.getD d 0=b[d]:=by rw[List.getD_eq_getElem?_getD,List.getElem?_eq_getElem j];rfl
   rw[Hh j,ct,Ab j,ct,sd j,ZZ (show b[d]<18446744073709551616 by omega),Aly,ZZ (show c+b[d]<18446744073709551616 by omega)]
   exact second _ (by rw[l])
  ·have l:b.getD d 0=0:=by rw[List.getD_eq_getElem?_getD,List.getElem?_eq_none (by omega)];rfl
   rw[Iz (by omega),cf]
   exact second _ (by rw[l];rfl)
theorem A2j {N:Nat} {a b:List Nat} {n m:Nat} {t o t' o':Bool} {K:Nat→Bool→LA→O R} (hn:n=a.length) (j:m=b.length) (e:Au a) (f:Au b) (d:fit (a.length+b.length) N) :
  JI N (Ar a) n t o (Ar b) m t' o' K=if val b≤val a then K (A9 (val a - val b)).length true (Ar (A9 (val a - val b))) else K 0 false []:=by
 subst hn j
 have k:=d.1;have l:=d.2
 have la:=(Dz e).2
 have lb:=(Dz f).2
 rw[uR];unfold nV
 dsimp only
 rw[A2i rfl rfl e f d]
 by_cases c:val b≤val a
 ·have i:=Gg c
  rw[if_pos c,show decide (EQ (val a) (val b)<0)=false by (unfold EQ;rw[if_neg (by omega)];split<;>rfl),cf,Ep rfl e (d.le (by omega)),Ep rfl f (d.le (by omega)),A7k (by omega),ct,Lf]
  have:=Akj (R:=R) (N:=N) (a:=A9 (val a)) (b:=A9 (val b)) (At _) (At _) (d.le (by omega)) i (by rw[Av,Av];exact c) (A9 (val a)).length 0 N (List.replicate (A9 (val a)).length 0) 0 (by omega) (by omega) (Jq _) (by simp) (Y6 _) (by omega) (by rw[Kp];simp[val]) K
  rw[Av,Av] at this
  exact this
 ·rw[if_neg c,show decide (EQ (val a) (val b)<0)=true by (unfold EQ;rw[if_pos (by omega)];rfl),ct]
end
end Gx

namespace Gx
open Go Go.Proofs
section
variable {R:Type}
theorem Aes {N:Nat}:∀ (k fuel n v:Nat),v<2 ^ k→k<fuel→n+k≤1000000000000→∃ b:Nat,b≤k∧v<2 ^ b∧(v≠0→2 ^ b≤2*v)∧(v=0→b=0)∧∀ K:Int→O R,L8 N K fuel (n:Int) (v:Int)=K ((n+b:Nat):Int)
 | 0,fuel+1,n,v,c,_,_=>by
  have h0:v=0:=by simpa using c
  subst h0
  refine⟨0,by omega,by simp,fun h=>absurd rfl h,fun _=>rfl,fun K=>?_⟩
  rw[L8];unfold U0
  rw[show decide (((0:Nat):Int)>0)=false by rfl,cf];rfl
 | k+1,fuel+1,n,v,c,j,hn=>by
  by_cases h0:v=0
  ·subst h0
   refine⟨0,by omega,by simp,fun h=>absurd rfl h,fun _=>rfl,fun K=>?_⟩
   rw[L8];unfold U0
   rw[show decide (((0:Nat):Int)>0)=false by rfl,cf];rfl
  ·obtain⟨b,l,m,e,f,i⟩:=Aes (N:=N) k fuel (n+1) (v/2) (by rw[Nat.pow_succ] at c;omega) (by omega) (by omega)
   refine⟨b+1,by omega,by rw[Nat.pow_succ];omega,fun _=>?_,fun h=>absurd h h0,fun K=>?_⟩
   ·by_cases d:v/2=0
    ·rw[f d];simp;omega
    ·have:=e d;rw[Nat.pow_succ];omega
   ·rw[L8];unfold U0
    rw[show decide (((v:Nat):Int)>0)=true by rw[decide_eq_true_eq];omega,ct,wS (by omega),m9 v 1,show v/2 ^ 1=v/2 by rfl,i]
    congr 2;omega
theorem Ayp {N:Nat} {a:List Nat} {n:Nat} {t o:Bool} (hn:n=a.length) (e:Au a) (d:fit a.length N):∃ nb:Nat,nb≤32*a.length∧val a<2 ^ nb∧(val a≠0→2 ^ nb≤2*val a)∧(val a=0→nb=0)∧∀ K:Int→O R,OJ N (Ar a) n t o K=K (nb:Int):=by
 have v:=d.1;have x:=d.2
 have la:=(Dz e).2
 by_cases h0:val a=0
 ·refine⟨0,by omega,by rw[h0];simp,fun h=>absurd h0 h,fun _=>rfl,fun K=>?_⟩
  rw[SR];unfold OI
  rw[Ep hn e d,h0,Hf];rfl
 ·have j:(A9 (val a)).length≠0:=fun h=>h0 (Ei.1 h)
  obtain⟨k,f⟩:∃ k,(A9 (val a)).length=k+1:=⟨(A9 (val a)).length - 1,by omega⟩
  have top:=Jp (At (val a)) (show k<(A9 (val a)).length by omega)
  have c:(A9 (val a))[k]'(by omega)≠0:=by
   have:=A34 (val a) (lP h0)
   rw[List.getLast_eq_getElem] at this
   simp only[f,Nat.add_sub_cancel] at this
   exact this
  have tf:=Akf f
  have tl:=Ayo (At (val a)) f
  rw[Av] at tf tl
  obtain⟨b,y,l,m,z,q⟩:=Aes (R:=R) (N:=N) 32 N (32*k) ((A9 (val a))[k]'(by omega)) (by exact top) (by omega) (by omega)
  have i:(2:Nat) ^ (32*k+b)=4294967296 ^ k*2 ^ b:=by rw[Nat.pow_add,Nat.pow_mul]
  refine⟨32*k+b,by omega,?_,fun _=>?_,fun h=>absurd h h0,fun K=>?_⟩
  ·rw[i]
   have:((A9 (val a))[k]'(by omega)+1)*4294967296 ^ k≤2 ^ b*4294967296 ^ k:=Nat.mul_le_mul_right _ l
   rw[Nat.mul_comm (2 ^ b)] at this;omega
  ·rw[i]
   have:=Nat.mul_le_mul_left (4294967296 ^ k) (m c)
   rw[Nat.mul_left_comm] at this
   omega
  ·rw[SR];unfold OI
   have s:IntKind.wrap .i64 ((((A9 (val a)).length:Nat):Int) - 1)=((k:Nat):Int):=by rw[i64 (by omega)];omega
   have u:IntKind.wrap .i64 ((32:Int)*((k:Nat):Int))=((32*k:Nat):Int):=by rw[i64 (by omega)];omega
   rw[Ep hn e d,A6y j,cf,s,Ab (by omega),ct,sd (by omega),u]
   exact q K
theorem Auf {a:List Nat} {j:Nat} (h:j<a.length):val a=val (a.take j)+4294967296 ^ j*(a[j]+4294967296*val (a.drop (j+1))):=by
 have:=lO (a.take j) (a.drop j)
 rw[List.take_append_drop,List.length_take,Nat.min_eq_left (by omega),A4w h] at this
 exact this
theorem sf (j k:Nat):(2:Nat) ^ (32*j+k)=4294967296 ^ j*2 ^ k:=by rw[Nat.pow_add,Nat.pow_mul]
theorem A6b {a:List Nat} {j k:Nat} (b:Au a) (h:j<a.length) (f:k<32):val a/2 ^ (32*j+k)%2=a[j]/2 ^ k%2:=by
 have tl:=Le (Mj b j)
 rw[List.length_take,Nat.min_eq_left (by omega)] at tl
 have hP:0<4294967296 ^ j:=Nat.pow_pos (by omega)
 have c:0<2 ^ k:=Nat.pow_pos (by omega)
 rw[sf,←Nat.div_div_eq_div_mul,Auf h,Nat.add_mul_div_left _ _ hP,Nat.div_eq_of_lt tl,Nat.zero_add]
 have e:4294967296=2 ^ k*(2*2 ^ (31 - k)):=by rw[←Nat.pow_succ',←Nat.pow_add,show k+(31 - k+1)=32 by omega]
 have d:4294967296*val (a.drop (j+1))=2 ^ k*(2*(2 ^ (31 - k)*val (a.drop (j+1)))):=by
  rw[←Nat.mul_assoc 2,←Nat.mul_assoc,←e]
 rw[d,Nat.add_mul_div_left _ _ c,Nat.add_mul_mod_self_left]
theorem A2k {N:Nat} {a:List Nat} {n:Nat} {t o:Bool} {i:Nat} {K:Int→O R} (hn:n=a.length) (f:Au a) (hi:i<32*a.length) (hs:a.length≤1000000000):nU N (Ar a) n t o (i:Int) K=K ((val a/2 ^ i%2:Nat):Int):=by
 subst hn
 have c:i/32<a.length:=by omega
 have aj:=Jp f c
 rw[uP];unfold zx
 have j:IntKind.wrap .i64 (Int.tdiv ((i:Nat):Int) 32)=((i/32:Nat):Int):=by rw[show(32:Int)=((32:Nat):Int) by rfl,A4u,i64 (by omega)]
 have l:IntKind.wrap .u64 (Int.tmod ((i:Nat):Int) 32)=((i%32:Nat):Int):=by rw[show(32:Int)=((32:Nat):Int) by rfl,A4v,ZZ (by omega)]
 rw[j,l,show decide (((i/32:Nat):Int)≥((a.length:Nat):Int))=false by rw[decide_eq_false_iff_not];omega,cf,Ab c,ct,Ahw c,show decide (((i%32:Nat):Int)<0)=false by rw[decide_eq_false_iff_not];omega,cf,Int.toNat_natCast,Nat.min_eq_left (by omega),m9]
 have d:a[i/32]/2 ^ (i%32)<4294967296:=Nat.lt_of_le_of_lt (Nat.div_le_self _ _) aj
 have e:=Awg (k:=.u32) rfl (a:=a[i/32]/2 ^ (i%32)) (b:=1) d (by decide)
 rw[show(1:Int)=((1:Nat):Int) by rfl,e,Nat.and_one_is_mod]
 have:=A6b f c (k:=i%32) (by omega)
 rw[Nat.div_add_mod] at this
 rw[this]
theorem A40 {Q:List Nat} {j k:Nat} (hQ:Au Q) (h:j<Q.length) (c:k<32) (b:2 ^ (32*j+k+1)∣val Q):2 ^ (k+1)∣Q[j]:=by
 have tl:=Le (Mj hQ j)
 rw[List.length_take,Nat.min_eq_left (by omega)] at tl
 have hP:0<4294967296 ^ j:=Nat.pow_pos (by omega)
 rw[Nat.add_assoc,sf,Auf h] at b
 have h0:val (Q.take j)=0:=by
  have x1:4294967296 ^ j∣val (Q.take j):=(Nat.dvd_add_left (Nat.dvd_mul_right _ _)).1 (Nat.dvd_trans (Nat.dvd_mul_right _ _) b)
  exact Nat.eq_zero_of_dvd_of_lt x1 tl
 rw[h0,Nat.zero_add] at b
 have x2:=Nat.dvd_of_mul_dvd_mul_left hP b
 have x3:2 ^ (k+1)∣4294967296*val (Q.drop (j+1)):=Nat.dvd_trans ⟨2 ^ (31 - k),by rw[←Nat.pow_add,show k+1+(31 - k)=32 by omega]⟩ (Nat.dvd_mul_right _ _)
 exact(Nat.dvd_add_left x3).1 x2
theorem sh {N:Nat} {a b:List Nat} {t o:Bool} {B:Nat} (L:Au a) (l:b=A9 B) (hB:0<B) (j:fit (a.length+2*b.length+4) N):∀ (i fuel:Nat) (Q:List Nat) (r:Nat),i<fuel→i≤32*a.length→Au Q→Q.length=a.length→r=val a/2 ^ i%B→val Q=val a/2 ^ i/B*2 ^ i →
  ∀ K:Nat→Nat→Bool→LA→LA→O R,Gi N K (Ar a) a.length t o b.length (Ar b) fuel (A9 r).length ((i:Int) - 1) (Ar Q) (Ar (A9 r))=K (A9 (val a/B)).length (A9 (val a%B)).length true (Ar (A9 (val a/B))) (Ar (A9 (val a%B)))
 | 0,fuel+1,Q,r,_,_,hQ,z,hr,q=>by
  intro K
  rw[Nat.pow_zero,Nat.div_one] at hr q
  rw[Nat.mul_one] at q
  have lr:(A9 r).length≤b.length:=by
   rw[l];apply Gg;rw[hr];exact Nat.le_of_lt (Nat.mod_lt _ hB)
  rw[Gi];unfold U1
  rw[show decide ((((0:Nat):Int) - 1)≥0)=false by rfl,cf,Nat.mul_one,List.take_of_length_le (by rw[Cv];omega),Ep z.symm hQ (by rw[z];exact j.le (by omega)),Nat.mul_one,List.take_of_length_le (by rw[Cv];omega),Ep rfl (At _) (j.le (by omega)),Av,q,hr]
 | i+1,fuel+1,Q,r,Y,hi,hQ,z,hr,q=>by
  intro K
  have h1:=j.1;have h2:=j.2
  have hrB:r<B:=by rw[hr];exact Nat.mod_lt _ hB
  have lr:(A9 r).length≤b.length:=by rw[l];exact Gg (Nat.le_of_lt hrB)
  have f:val a/2 ^ i=2*(val a/2 ^ (i+1))+val a/2 ^ i%2:=by
   have:=Nat.div_add_mod (val a/2 ^ i) 2
   rw[Nat.div_div_eq_div_mul,←Nat.pow_succ] at this
   exact this.symm
  have M:=Nat.div_add_mod (val a/2 ^ (i+1)) B
  have hb2:val a/2 ^ i%2<2:=Nat.mod_lt _ (by omega)
  generalize hH:val a/2 ^ (i+1)=H at *
  generalize A:val a/2 ^ i%2=bt at *
  have d:val a/2 ^ i=B*(2*(H/B))+(2*r+bt):=by
   rw[f,hr,Nat.mul_left_comm];omega
  clear hr M f
  have C:i/32<Q.length:=by omega
  have qj:=Jp hQ C
  have D:2 ^ (32*(i/32)+i%32+1)∣val Q:=by rw[Nat.div_add_mod,q];exact Nat.dvd_mul_left _ _
  have s:=A40 hQ C (Nat.mod_lt _ (by omega)) D
  have S:2 ^ i=4294967296 ^ (i/32)*2 ^ (i%32):=by rw[←sf,Nat.div_add_mod]
  have F:2 ^ (i%32+1)≤4294967296:=(Nat.pow_le_pow_right (by omega) (show i%32+1≤32 by omega):2 ^ (i%32+1)≤2 ^ 32)
  have G:tb .u32 ((Q[i/32]:Nat):Int) (IntKind.wrap .u32 ((1:Int)*2 ^ (min (Int.toNat ((i%32:Nat):Int)) 32)))=((Q[i/32]+2 ^ (i%32):Nat):Int)∧Q[i/32]+2 ^ (i%32)<4294967296:=by
   obtain⟨c,T⟩:=s
   have V:0<2 ^ (i%32):=Nat.pow_pos (by omega)
   have U:Q[i/32]+2 ^ (i%32)<4294967296:=by
    obtain⟨w,X⟩:∃ w,4294967296=2 ^ (i%32+1)*w:=⟨2 ^ (31 - i%32),by rw[←Nat.pow_add,show i%32+1+(31 - i%32)=32 by omega]⟩
    have x1:c<w:=by rw[T,X] at qj;exact Nat.lt_of_mul_lt_mul_left qj
    have x2:=Nat.mul_le_mul_left (2 ^ (i%32+1)) (show c+1≤w from x1)
    rw[Nat.mul_add,←X,←T,Nat.mul_one,Nat.pow_succ] at x2
    omega
   refine⟨?_,U⟩
   rw[Int.toNat_natCast,Nat.min_eq_left (by omega),Int.one_mul,show(2:Int) ^ (i%32)=((2 ^ (i%32):Nat):Int) by simp,A6x (by rw[Nat.pow_succ] at F;omega),Air (k:=.u32) rfl qj (by show 2 ^ (i%32)<4294967296;rw[Nat.pow_succ] at F;omega)]
   congr 1
   have e:Q[i/32]=c*2 ^ (i%32+1):=by rw[T,Nat.mul_comm]
   rw[e];exact Awk (by rw[Nat.pow_succ];omega)
  have w1:IntKind.wrap .i64 (Int.tdiv ((i:Nat):Int) 32)=((i/32:Nat):Int):=by rw[show(32:Int)=((32:Nat):Int) by rfl,A4u,i64 (by omega)]
  have w2:IntKind.wrap .u64 (Int.tmod ((i:Nat):Int) 32)=((i%32:Nat):Int):=by rw[show(32:Int)=((32:Nat):Int) by rfl,A4v,ZZ (by omega)]
  have l2:(A9 (2*r+bt)).length≤b.length+1:=by
   apply MG
   have x1:=Le (At B)
   rw[Av,←l] at x1
   rw[Nat.pow_succ];omega
  have second:N4 N (Gi N K (Ar a) a.length t o b.length (Ar b) fuel) K (Ar a) a.length t o b.length ((i:Nat):Int) (Ar b) (Ar Q) (A9 (2*r+bt)).length (Ar (A9 (2*r+bt)))=K (A9 (val a/B)).length (A9 (val a%B)).length true (Ar (A9 (val a/B))) (Ar (A9 (val a%B))):=by
   unfold N4
   have lb:Au b:=by rw[l];exact At _
   have vb:val b=B:=by rw[l,Av]
   rw[Nat.mul_one,Nat.mul_one,List.take_of_length_le (by rw[Cv];omega),List.take_of_length_le (by rw[Cv];omega),A2j rfl rfl (At _) lb (j.le (by omega)),Av,vb]
   by_cases I:B≤2*r+bt
   ·have u:val a/2 ^ i/B=2*(H/B)+1:=by
     rw[d,show B*(2*(H/B))+(2*r+bt)=B*(2*(H/B)+1)+(2*r+bt - B) by rw[Nat.mul_add];omega,Nat.mul_add_div hB,Nat.div_eq_of_lt (show 2*r+bt - B<B by omega),Nat.add_zero]
    have y:val a/2 ^ i%B=2*r+bt - B:=by
     rw[d,show B*(2*(H/B))+(2*r+bt)=B*(2*(H/B)+1)+(2*r+bt - B) by rw[Nat.mul_add];omega,Nat.mul_add_mod,Nat.mod_eq_of_lt (by omega)]
    rw[if_pos I,ct,w1,w2,Ab (by omega),ct,sd C,show decide (((i%32:Nat):Int)<0)=false by rw[decide_eq_false_iff_not];omega,cf,ct,Azw C,ct,G.1,Aen,i64 (by omega)]
    refine sh L l hB j i fuel (Q.set (i/32) (Q[i/32]+2 ^ (i%32))) (2*r+bt - B) (by omega) (by omega) (N0 hQ G.2 _) (by simpa using z) y.symm ?_ K
    have x1:=y3 (v:=Q[i/32]+2 ^ (i%32)) C
    rw[Nat.mul_add,←S] at x1
    rw[u,Nat.add_mul,Nat.one_mul,Nat.mul_comm 2,Nat.mul_assoc,Nat.mul_comm 2,←Nat.pow_succ,←q]
    omega
   ·have u:val a/2 ^ i/B=2*(H/B):=by rw[d,Nat.mul_add_div hB,Nat.div_eq_of_lt (show 2*r+bt<B by omega),Nat.add_zero]
    have y:val a/2 ^ i%B=2*r+bt:=by rw[d,Nat.mul_add_mod,Nat.mod_eq_of_lt (by omega)]
    rw[if_neg I,cf,i64 (by omega)]
    refine sh L l hB j i fuel Q (2*r+bt) (by omega) (by omega) hQ z y.symm ?_ K
    rw[u,Nat.mul_comm 2,Nat.mul_assoc,Nat.mul_comm 2,←Nat.pow_succ,←q]
  rw[Gi];unfold U1
  rw[show(((i+1:Nat):Int) - 1)=((i:Nat):Int) by omega,show decide (((i:Nat):Int)≥0)=true by rw[decide_eq_true_eq];omega,ct,Nat.mul_one,List.take_of_length_le (by rw[Cv];omega),Aki rfl rfl (At _) (At _) (j.le (by omega)),Av,A2k rfl L (by omega) (by omega),A]
  have l3:(A9 (r+r)).length≤b.length+1:=by
   apply MG
   have x1:=Le (At B)
   rw[Av,←l] at x1
   rw[Nat.pow_succ];omega
  rcases(show bt=0∨bt=1 by omega) with rfl | rfl
  ·rw[show(((0:Nat):Int)==1)=false by rfl,cf]
   rw[show 2*r+0=r+r by omega] at second
   exact second
  ·rw[show(((1:Nat):Int)==1)=true by rfl,ct,Nat.mul_one,List.take_of_length_le (by rw[Cv];omega)]
   have:=Aki (R:=R) (N:=N) (a:=A9 (r+r)) (b:=[1]) (n:=(A9 (r+r)).length) (m:=1) (t:=false) (o:=true) (t':=false) (o':=true) (K:=fun af ag=>N4 N (Gi N K (Ar a) a.length t o b.length (Ar b) fuel) K (Ar a) a.length t o b.length ((i:Nat):Int) (Ar b) (Ar Q) af ag) rfl rfl (At _) (by intro x hx;simp at hx;omega) (j.le (by simp;omega))
   rw[Av,show val [1]=1 by rfl,show r+r+1=2*r+1 by omega] at this
   exact this.trans second
end
end Gx

namespace Gx
open Go Go.Proofs
section
variable {R:Type}
theorem UM {N:Nat} {a b:List Nat} {n m:Nat} {t o t' o':Bool} {K:Nat→Nat→Bool→LA→LA→O R} (hn:n=a.length) (u:m=b.length) (j:Au a) (q:Au b) (f:val b≠0) (e:fit (a.length+2*b.length+4) N) :
  Tl N (Ar a) n t o (Ar b) m t' o' K=K (A9 (val a/val b)).length (A9 (val a%val b)).length true (Ar (A9 (val a/val b))) (Ar (A9 (val a%val b))):=by
 have v:=e.1;have x:=e.2
 have lb:=(Dz q).2
 have k:(A9 (val b)).length≠0:=fun h=>f (Ei.1 h)
 rw[bJ];unfold JJ
 dsimp only
 have long:Ry N K (Ar a) n t o (A9 (val b)).length (Ar (A9 (val b)))=K (A9 (val a/val b)).length (A9 (val a%val b)).length true (Ar (A9 (val a/val b))) (Ar (A9 (val a%val b))):=by
  obtain⟨nb,n1,n2,n3,n4,n5⟩:=Ayp (R:=R) (N:=N) (a:=a) (n:=n) (t:=false) (o:=o) hn j (e.le (by omega))
  unfold Ry GO
  dsimp only
  rw[n5,hn,A7k (by omega),ct,Lf,i64 (by omega)]
  have s:val a/2 ^ nb=0:=Nat.div_eq_of_lt n2
  have:=sh (R:=R) (N:=N) (a:=a) (b:=A9 (val b)) (t:=t) (o:=o) (B:=val b) j rfl (by omega) (e.le (by omega)) nb N (List.replicate a.length 0) 0 (by omega) n1 (Jq _) (by simp) (by rw[s];simp) (by rw[s,Kp];simp) K
  exact this
 rw[Ep u q (e.le (by omega)),A6y k,cf,UL hn j (e.le (by omega)),Nat.mul_one,List.take_of_length_le (by rw[Cv];exact Nat.le_refl _)]
 by_cases d:val a<18446744073709551616
 ·rw[if_pos d,UL rfl (At _) (e.le (by omega)),Av]
  by_cases c:val b<18446744073709551616
  ·have i:val a/val b<18446744073709551616:=Nat.lt_of_le_of_lt (Nat.div_le_self _ _) d
   have l:val a%val b<18446744073709551616:=Nat.lt_of_le_of_lt (Nat.mod_le _ _) d
   rw[if_pos c,show((true:Bool)==true)=true by rfl,ct,A7i,ct,A6y f,cf,A4u,ZZ i,LV i (by omega),cf,A4v,LV l (by omega)]
  ·rw[if_neg c,show((true:Bool)==true)=true by rfl,ct,A7i,cf,long]
 ·rw[if_neg d,UL rfl (At _) (e.le (by omega)),Av]
  by_cases c:val b<18446744073709551616
  ·rw[if_pos c,show((false:Bool)==true)=false by rfl,cf,long]
  ·rw[if_neg c,show((false:Bool)==true)=false by rfl,cf,long]
theorem A2l {N:Nat}:∀ (k fuel A B:Nat),k<fuel→A*B<2 ^ k→B<A→fit (3*(A9 A).length+4) N→∀ K:Nat→LA→O R,E6 N K fuel (A9 A).length (A9 B).length (Ar (A9 A)) (Ar (A9 B))=K (A9 (Nat.gcd A B)).length (Ar (A9 (Nat.gcd A B))):=by
 have base:∀ (fuel A:Nat) (K:Nat→LA→O R),E6 N K (fuel+1) (A9 A).length (A9 0).length (Ar (A9 A)) (Ar (A9 0))=K (A9 (Nat.gcd A 0)).length (Ar (A9 (Nat.gcd A 0))):=by
  intro fuel A K
  rw[E6];unfold T5
  rw[Hf,show decide ((((([]:List Nat).length:Nat)):Int)>0)=false by decide,cf,Nat.gcd_zero_right]
 intro k
 induction k with
 | zero =>
  intro fuel A B e b c d K
  obtain⟨fuel,rfl⟩:∃ F,fuel=F+1:=⟨fuel - 1,by omega⟩
  have f:B=0:=by
   rcases Nat.eq_zero_or_pos B with h | h
   ·exact h
   ·have q:=Nat.mul_le_mul_left A (show 1≤B by omega)
    rw[Nat.pow_zero] at b;omega
  subst f
  exact base fuel A K
 | succ k i =>
  intro fuel A B e b c d K
  have s:=d.1;have t:=d.2
  obtain⟨fuel,rfl⟩:∃ F,fuel=F+1:=⟨fuel - 1,by omega⟩
  rcases Nat.eq_zero_or_pos B with h | h
  ·subst h;exact base fuel A K
  have j:=Gg (Nat.le_of_lt c)
  have l:(A9 B).length≠0:=fun h0=>by have:=Ei.1 h0;omega
  have m:=Nat.mod_lt A h
  have u:=A4x (show 1≤B by omega) (Nat.le_of_lt c)
  have:=i fuel B (A%B) (by omega) (by rw[Nat.pow_succ] at b;omega) m (d.le (by omega)) K
  have n:Nat.gcd B (A%B)=Nat.gcd A B:=by rw[Nat.gcd_comm,←Nat.gcd_rec,Nat.gcd_comm]
  rw[n] at this
  rw[E6];unfold T5
  rw[show decide ((((A9 B).length:Nat):Int)>0)=true by rw[decide_eq_true_eq];omega,ct,Nat.mul_one,Nat.mul_one,List.take_of_length_le (by rw[Cv];exact Nat.le_refl _),List.take_of_length_le (by rw[Cv];exact Nat.le_refl _),UM rfl rfl (At _) (At _) (by rw[Av];omega) (d.le (by omega)),Av,Av]
  exact this
theorem A2m {N:Nat} {a b:List Nat} {n m:Nat} {t o t' o':Bool} {K:Nat→LA→O R} (hn:n=a.length) (l:m=b.length) (f:Au a) (i:Au b) (d:fit (3*(a.length+b.length)+4) N) :
  fm N (Ar a) n t o (Ar b) m t' o' K=K (A9 (Nat.gcd (val a) (val b))).length (Ar (A9 (Nat.gcd (val a) (val b)))):=by
 have u:=d.1;have v:=d.2
 have la:=(Dz f).2
 have lb:=(Dz i).2
 have j:val a*val b<2 ^ (32*(a.length+b.length)):=by rw[←A4y];exact Nat.mul_lt_mul'' (Le f) (Le i)
 rw[uT];unfold nX
 dsimp only
 rw[Ep hn f (d.le (by omega)),Ep l i (d.le (by omega))]
 obtain⟨F,hF⟩:∃ F,N=F+1:=⟨N - 1,by omega⟩
 rcases Nat.eq_zero_or_pos (val b) with h | h
 ·rw[h,Hf,Nat.gcd_zero_right,hF,E6];unfold T5
  rw[show decide ((((([]:List Nat).length:Nat)):Int)>0)=false by decide,cf]
 ·have k:=Nat.mod_lt (val a) h
  have q:(A9 (val b)).length≠0:=fun h0=>by have:=Ei.1 h0;omega
  have c:val b*(val a%val b)<2 ^ (32*(a.length+b.length)):=by
   have:val b*(val a%val b)≤val b*val a:=Nat.mul_le_mul_left _ (Nat.mod_le _ _)
   rw[Nat.mul_comm (val b) (val a)] at this;omega
  have:=A2l (R:=R) (N:=N) (32*(a.length+b.length)) F (val b) (val a%val b) (by omega) c k (d.le (by omega)) K
  have s:Nat.gcd (val b) (val a%val b)=Nat.gcd (val a) (val b):=by rw[Nat.gcd_comm,←Nat.gcd_rec,Nat.gcd_comm]
  rw[s] at this
  have e:E6 N K (F+1) (A9 (val a)).length (A9 (val b)).length (Ar (A9 (val a))) (Ar (A9 (val b)))=E6 N K F (A9 (val b)).length (A9 (val a%val b)).length (Ar (A9 (val b))) (Ar (A9 (val a%val b))):=by
   rw[E6];unfold T5
   rw[show decide ((((A9 (val b)).length:Nat):Int)>0)=true by rw[decide_eq_true_eq];omega,ct,Nat.mul_one,Nat.mul_one,List.take_of_length_le (by rw[Cv];exact Nat.le_refl _),List.take_of_length_le (by rw[Cv];exact Nat.le_refl _),UM rfl rfl (At _) (At _) (by rw[Av];omega) (d.le (by omega)),Av,Av]
  conv=>lhs;rw[show(E6 N K N)=E6 N K (F+1) by rw[←hF]]
  rw[e];exact this
end
end Gx
