/- A part of the proof: what it holds is said by each theorem. -/
import Derived.Lib.ItoaNum
import Derived.Test.YtjmfofdghmlldaaGreatDoorP2
set_option linter.unusedVariables false
set_option linter.defProp false
set_option linter.unusedSimpArgs false
namespace Gx.Cf
open Go Go.Proofs
section
variable {R:Type}
def aR (c:CaseD):Prop:=∃ (H:Nat) (res:List Int) (bs:List BusD) (ls:List LineD) (us:List UnitD) (ss:List StoreD) (ts:List TieD) (os:List OutD),
 BaseG H res bs ls us ss ts∧OutsG ls.length us.length os∧(os=[]∨Dz (z_ true H res bs ls us ss ts os)=none)∧c=z_ false H res bs ls us ss ts os
theorem Awy {N:Nat} {l:List Int} {o:Bool} (hN:4096≤N) (f:l.length≤9223372036854775807) {H:Nat} {d:List Int} {bs:List BusD} {ls:List LineD} {us:List UnitD} {ss:List StoreD} {ts:List TieD} (b:BaseG H d bs ls us ss ts) (k:Nat) (i:k≤l.length) :
  ∃ c,aR c∧∀ K:LA→O R,RC N K (Aq l) l.length o (H:Int) d.length bs.length ls.length us.length ss.length (Aq d) (bs.flatMap BusD.av) (ls.flatMap LineD.av) (us.flatMap UnitD.av) (ss.flatMap StoreD.av) (k:Int) ts.length (ts.flatMap TieD.av)=K c.av:=by
 obtain⟨y,j,y0,y1,e,m⟩:=nx (R:=R) (N:=N) (t:=false) (o:=o) f 4 (by omega) (by omega) k i
 obtain⟨n,hn⟩:∃ n:Nat,y=(n:Int):=⟨y.toNat,by omega⟩
 subst hn
 obtain⟨os,a1,a2,a3⟩:=Aki (R:=R) (o:=o) hN f b n N j [] (by omega) e (by simp;omega) ⟨by simp,by simp⟩ (.inl rfl)
 refine⟨_,⟨H,d,bs,ls,us,ss,ts,os,b,a1,a2,rfl⟩,fun K=>?_⟩
 unfold RC aO
 rw[m]
 simpa using a3 K
theorem Awz {N:Nat} {l:List Int} {o:Bool} (hN:4096≤N) (j:l.length≤9223372036854775807) {H:Nat} {n:List Int} {bs:List BusD} {ls:List LineD} {us:List UnitD} {ss:List StoreD} (b:BaseG H n bs ls us ss []) (k:Nat) (V:k≤l.length) :
  ∃ c,aR c∧∀ K:LA→O R,FK N K (bs.length:Int) (Aq l) l.length o (H:Int) n.length bs.length ls.length us.length (Aq n) (bs.flatMap BusD.av) (ls.flatMap LineD.av) (us.flatMap UnitD.av) (k:Int) ss.length (ss.flatMap StoreD.av)=K c.av:=by
 have hb:=b.bl;have hH:=b.h
 obtain⟨y50,u,y500,y501,f,i⟩:=nx (R:=R) (N:=N) (t:=false) (o:=o) j 3 (by omega) (by omega) k V
 by_cases T:y50=2
 ·have z:(y50==2)=true:=by simpa using T
  obtain⟨y52,A,y520,y521,v,y⟩:=nx (R:=R) (N:=N) (t:=false) (o:=o) j (bs.length:Int) (by omega) (by omega) u f
  obtain⟨B1,X,d,C,D,hB1⟩:=FJ (R:=R) (N:=N) (m:=H) (t:=false) (o:=o) (by omega) j 12 (by omega) (by omega) (by omega) A v
  obtain⟨B2,Y,q,F,G,hB2⟩:=FJ (R:=R) (N:=N) (m:=H) (t:=false) (o:=o) (by omega) j 12 (by omega) (by omega) (by omega) X D
  obtain⟨B3,k3,s,I,L,hB3⟩:=FJ (R:=R) (N:=N) (m:=H) (t:=false) (o:=o) (by omega) j 40 (by omega) (by omega) (by omega) Y G
  obtain⟨c,M,S⟩:=Awy (R:=R) (o:=o) hN j (ts:=[⟨[116,48],y52,.of B1 false false,.of B2 false false,.of B3 false false⟩]) ⟨b.h,b.rl,b.rr,b.bl,b.bg,b.ll,b.lg,b.ul,b.ug,b.sl,b.sg,by simp,by
   intro x U;simp at U;subst U
   exact⟨rfl,⟨y520,y521⟩,d,C,q,F,s,I⟩⟩ k3 L
  refine⟨c,M,fun K=>?_⟩
  unfold FK IC
  rw[i,z,ct,y,hB1,hB2,hB3,Pd d.symm,Pd q.symm,Pd s.symm,←S K,←d]
  simp only[d]
  have e:List.flatMap TieD.av [⟨[116,48],y52,.of B1 false false,.of B2 false false,.of B3 false false⟩]=[(.str ([116,48]:List UInt8)),(.int .i64 y52),(.imm (B1.flatMap JV) H 1 false false),(.imm (B2.flatMap JV) H 1 false false),(.imm (B3.flatMap JV) H 1 false false)]:=by
   simp[TieD.av,Sl.av,d,q,s]
  rw[e];rfl
 ·have z:(y50==2)=false:=by simpa using T
  obtain⟨c,M,S⟩:=Awy (R:=R) (o:=o) hN j b u f
  refine⟨c,M,fun K=>?_⟩
  unfold FK IC
  rw[i,z,cf,←S K];rfl
theorem Aw0 {N:Nat} {l:List Int} {o:Bool} (hN:4096≤N) (b:l.length≤9223372036854775807) {H:Nat} {d:List Int} {bs:List BusD} {ls:List LineD} (h:1≤H∧H≤3) (rl:d.length=H) (rr:∀ x ∈ d,0≤x∧x<5) (bl:1≤bs.length∧bs.length≤4) (bg:∀ i (h:i<bs.length),BusG i H bs[i]) (ll:ls.length≤7) (lg:∀ i (h:i<ls.length),LineH bs.length i H ls[i]) :
  ∀ (n fuel k:Nat) (us:List UnitD),n<fuel→k≤l.length→us.length+n≤3→1≤us.length+n→(∀ i (h:i<us.length),UnitG i bs.length H us[i]) →
  ∃ c,aR c∧∀ K:LA→O R,Pb N K (bs.length:Int) (Aq l) l.length o (H:Int) d.length bs.length (Aq d) (bs.flatMap BusD.av) fuel (n:Int) (k:Int) ls.length us.length (ls.flatMap LineD.av) (us.flatMap UnitD.av)=K c.av
 | 0,fuel+1,k,us,_,U,hn,V,ug=>by
  obtain⟨y34,j,y340,y341,e,f⟩:=nx (R:=R) (N:=N) (t:=false) (o:=o) b 3 (by omega) (by omega) k U
  by_cases h2:y34=2
  ·have X:(y34==2)=true:=by simpa using h2
   obtain⟨y36,Y,y360,y361,m,q⟩:=nx (R:=R) (N:=N) (t:=false) (o:=o) b (bs.length:Int) (by omega) (by omega) j e
   obtain⟨y38,k38,y380,y381,s,v⟩:=nx (R:=R) (N:=N) (t:=false) (o:=o) b 20 (by omega) (by omega) Y m
   obtain⟨y40,k40,y400,y401,y,z⟩:=nx (R:=R) (N:=N) (t:=false) (o:=o) b 8 (by omega) (by omega) k38 s
   obtain⟨y42,k42,y420,y421,A,C⟩:=nx (R:=R) (N:=N) (t:=false) (o:=o) b 8 (by omega) (by omega) k40 y
   obtain⟨y44,k44,y440,y441,D,F⟩:=nx (R:=R) (N:=N) (t:=false) (o:=o) b 4 (by omega) (by omega) k42 A
   obtain⟨y46,k46,y460,y461,G,I⟩:=nx (R:=R) (N:=N) (t:=false) (o:=o) b (y38+1) (by omega) (by omega) k44 D
   obtain⟨y48,k48,y480,y481,L,M⟩:=nx (R:=R) (N:=N) (t:=false) (o:=o) b (y38+1) (by omega) (by omega) k46 G
   obtain⟨c,S,T⟩:=Awz (R:=R) (o:=o) hN b (us:=us) (ss:=[⟨[115,48],y36,y38,y46,y48,y40,y42,⟨1+y44,4⟩⟩]) ⟨h,rl,rr,bl,bg,ll,lg,⟨by omega,by omega⟩,ug,by simp,by
    intro x hx;simp at hx;subst hx
    exact⟨rfl,⟨y360,y361⟩,⟨y380,y381⟩,⟨y460,by simp only;omega⟩,⟨y480,by simp only;omega⟩,⟨y400,y401⟩,⟨y420,y421⟩,by simp only;omega,by simp only;omega,rfl⟩,by simp,by simp⟩ k48 L
   refine⟨c,S,fun K=>?_⟩
   rw[Pb];unfold Zg
   rw[show decide (((0:Nat):Int)>0)=false from rfl,cf,f,X,ct,q,v,z,C,F,Pa (a:=y38+1) (by omega),I,M,Pa (a:=1+y44) (by omega),←T K]
   rfl
  ·have X:(y34==2)=false:=by simpa using h2
   obtain⟨c,S,T⟩:=Awz (R:=R) (o:=o) hN b (us:=us) (ss:=[]) ⟨h,rl,rr,bl,bg,ll,lg,⟨by omega,by omega⟩,ug,by simp,by simp,by simp,by simp⟩ j e
   refine⟨c,S,fun K=>?_⟩
   rw[Pb];unfold Zg
   rw[show decide (((0:Nat):Int)>0)=false from rfl,cf,f,X,cf,←T K]
   rfl
 | n+1,fuel+1,k,us,hf,U,hn,V,ug=>by
  obtain⟨u,k1,gu,hk1,hu⟩:=Ayw (R:=R) (N:=N) (t:=false) (o:=o) (by omega) b (i:=us.length) (by omega) (nb:=(bs.length:Int)) (H:=(H:Int)) (by omega) (by omega) k U
  obtain⟨c,S,T⟩:=Aw0 (o:=o) hN b h rl rr bl bg ll lg n fuel k1 (us++[u]) (by omega) hk1 (by simp;omega) (by simp;omega) (aQ (P:=fun i u=>UnitG i bs.length H u) ug gu)
  refine⟨c,S,fun K=>?_⟩
  rw[Pb];unfold Zg
  have wn:IntKind.wrap .i64 (((n+1:Nat):Int) - 1)=(n:Int):=mM (by omega)
  have c2:(Nat.ble (us.length+1) 140737488355328&&Nat.ble ((us.length+1)*216) 140737488355328)=true:=by rw[Bx,Bx];simp;omega
  have c3:List.take (us.length*22) (us.flatMap UnitD.av)++u.av=(us++[u]).flatMap UnitD.av:=by rw[Cc Dg _ rfl];simp
  rw[show decide (((n+1:Nat):Int)>0)=true from decide_eq_true (by omega),ct,hu,show((Nat.beq (List.length u.av) 22)&&(Nat.ble 22 22))=true from rfl,ct,c2,ct,wn,←T K,←c3,List.length_append]
  rfl
theorem A2x {N:Nat} {l:List Int} {o:Bool} (hN:4096≤N) (s:l.length≤9223372036854775807) {H:Nat} {b:List Int} {bs:List BusD} (h:1≤H∧H≤3) (rl:b.length=H) (rr:∀ x ∈ b,0≤x∧x<5) (bl:1≤bs.length∧bs.length≤4) (bg:∀ i (h:i<bs.length),BusG i H bs[i]) :
  ∀ (n fuel k:Nat) (ls:List LineD),n<fuel→k≤l.length→ls.length+n≤7→(∀ i (h:i<ls.length),LineH bs.length i H ls[i]) →
  ∃ c,aR c∧∀ K:LA→O R,Pc N K (bs.length:Int) (Aq l) l.length o (H:Int) b.length bs.length (Aq b) (bs.flatMap BusD.av) fuel (n:Int) (k:Int) ls.length (ls.flatMap LineD.av)=K c.av:=by
 have fin:∀ (k:Nat) (ls:List LineD),k≤l.length→ls.length≤7→(∀ i (h:i<ls.length),LineH bs.length i H ls[i])→∃ c,aR c∧∀ K:LA→O R,(Ad N (3:Int) (Aq l) l.length false o (k:Int) (fun y22 y23=>(Pb N K (bs.length:Int) (Aq l) l.length o (H:Int) b.length bs.length (Aq b) (bs.flatMap BusD.av) N (IntKind.wrap .i64 ((1:Int)+y22)) y23 ls.length 0 (ls.flatMap LineD.av) [])))=K c.av:=by
  intro k ls q ll lg
  obtain⟨y,C,y0,y1,d,I⟩:=nx (R:=R) (N:=N) (t:=false) (o:=o) s 3 (by omega) (by omega) k q
  obtain⟨n,hn⟩:∃ n:Nat,1+y=(n:Int):=⟨(1+y).toNat,by omega⟩
  obtain⟨c,j,m⟩:=Aw0 (R:=R) (o:=o) hN s h rl rr bl bg ll lg n N C [] (by omega) d (by simp;omega) (by simp;omega) (by simp)
  refine⟨c,j,fun K=>?_⟩
  rw[I,Pa (a:=1+y) (by omega),hn]
  simpa using m K
 intro n
 induction n with
 | zero =>
  intro fuel k ls L q hn lg
  obtain⟨c,j,m⟩:=fin k ls q (by omega) lg
  refine⟨c,j,fun K=>?_⟩
  obtain⟨fuel,rfl⟩:∃ f,fuel=f+1:=⟨fuel - 1,by omega⟩
  rw[Pc];unfold Zh
  rw[show decide (((0:Nat):Int)>0)=false from rfl,←m K]
  rfl
 | succ n M =>
  intro fuel k ls L q hn lg
  obtain⟨fuel,rfl⟩:∃ f,fuel=f+1:=⟨fuel - 1,by omega⟩
  by_cases S:bs.length=1
  ·obtain⟨c,j,m⟩:=fin k ls q (by omega) lg
   refine⟨c,j,fun K=>?_⟩
   rw[Pc];unfold Zh
   rw[show decide (((n+1:Nat):Int)>0)=true from decide_eq_true (by omega),show decide ((bs.length:Int)>1)=false from decide_eq_false (by omega),←m K]
   rfl
  ·obtain⟨y26,D,y260,y261,u,v⟩:=nx (R:=R) (N:=N) (t:=false) (o:=o) s (bs.length:Int) (by omega) (by omega) k q
   obtain⟨y28,F,y280,y281,z,A⟩:=nx (R:=R) (N:=N) (t:=false) (o:=o) s ((bs.length:Int) - 1) (by omega) (by omega) D u
   have tm:∃ tx:Int,Int.tmod (y26+1+y28) (bs.length:Int)=tx∧0≤tx∧tx<(bs.length:Int)∧y26≠tx:=by
    refine⟨_,rfl,Int.tmod_nonneg _ (by omega),Int.tmod_lt_of_pos _ (by omega),?_⟩
    by_cases G:y26+1+y28<(bs.length:Int)
    ·rw[Int.tmod_eq_of_lt (by omega) G];omega
    ·have:Int.tmod (y26+1+y28) (bs.length:Int)=y26+1+y28 - (bs.length:Int):=by
      have e:y26+1+y28=(y26+1+y28 - (bs.length:Int))+1*(bs.length:Int):=by omega
      rw[Int.tmod_eq_emod_of_nonneg (by omega)]
      conv=>lhs;rw[e]
      rw[Int.add_mul_emod_self_right,Int.emod_eq_of_lt (by omega) (by omega)]
     rw[this];omega
   obtain⟨tx,T,t0,t1,tne⟩:=tm
   obtain⟨x,C,gx,d,U⟩:=Agd (R:=R) (N:=N) (t:=false) (o:=o) s (i:=ls.length) (by omega) y26 tx (H:=(H:Int)) (by omega) F z
   obtain⟨c,j,m⟩:=M fuel C (ls++[x]) (by omega) d (by simp;omega) (aQ (P:=fun i x=>LineH bs.length i H x) lg ⟨by rw[gx.fr,gx.tx];exact gx,by rw[gx.fr];exact⟨y260,y261⟩,by rw[gx.tx];exact⟨t0,t1⟩,by rw[gx.fr,gx.tx];exact tne⟩)
   refine⟨c,j,fun K=>?_⟩
   rw[Pc];unfold Zh RA
   have wn:IntKind.wrap .i64 (((n+1:Nat):Int) - 1)=(n:Int):=mM (by omega)
   have V:(Nat.ble (ls.length+1) 140737488355328&&Nat.ble ((ls.length+1)*120) 140737488355328)=true:=by rw[Bx,Bx];simp;omega
   have X:List.take (ls.length*12) (ls.flatMap LineD.av)++x.av=(ls++[x]).flatMap LineD.av:=by rw[Cc Cb _ rfl];simp
   rw[show decide (((n+1:Nat):Int)>0)=true from decide_eq_true (by omega),show decide ((bs.length:Int)>1)=true from decide_eq_true (by omega)]
   simp only[beq_self_eq_true,cond_true]
   rw[v,Pa (a:=(bs.length:Int) - 1) (by omega),A,show((bs.length:Int)==0)=false from beq_eq_false_iff_ne.2 (by omega),cf,Pa (a:=y26+1) (by omega),Pa (a:=y26+1+y28) (by omega),T,U,show((Nat.beq (List.length x.av) 12)&&(Nat.ble 12 12))=true from rfl,ct,V,ct,wn,←m K,←X,List.length_append]
   rfl
theorem Aw1 {N:Nat} {l:List Int} {o:Bool} (hN:4096≤N) (e:l.length≤9223372036854775807) {H:Nat} {b:List Int} {bs:List BusD} (h:1≤H∧H≤3) (rl:b.length=H) (rr:∀ x ∈ b,0≤x∧x<5) (bl:1≤bs.length∧bs.length≤4) (bg:∀ i (h:i<bs.length),BusG i H bs[i]) :
  ∀ (m j fuel k:Nat) (ls:List LineD),j+1+m=bs.length→m<fuel→k≤l.length→ls.length=j→(∀ i (h:i<ls.length),LineH bs.length i H ls[i]) →
  ∃ c,aR c∧∀ K:LA→O R,Wo N K (Aq l) l.length o (H:Int) b.length bs.length (Aq b) (bs.flatMap BusD.av) fuel (bs.length:Int) ((j+1:Nat):Int) (k:Int) ls.length (ls.flatMap LineD.av)=K c.av
 | 0,j,fuel+1,k,ls,C,_,q,f,lg=>by
  obtain⟨y,s,y0,y1,d,u⟩:=nx (R:=R) (N:=N) (t:=false) (o:=o) e 5 (by omega) (by omega) k q
  obtain⟨n,hn⟩:∃ n:Nat,y=(n:Int):=⟨y.toNat,by omega⟩
  subst hn
  obtain⟨c,v,z⟩:=A2x (R:=R) (o:=o) hN e h rl rr bl bg n N s ls (by omega) d (by omega) lg
  refine⟨c,v,fun K=>?_⟩
  rw[Wo];unfold ID
  rw[Iu (by omega),cf,u];exact z K
 | m+1,j,fuel+1,k,ls,C,L,q,f,lg=>by
  obtain⟨y,s,y0,y1,d,u⟩:=nx (R:=R) (N:=N) (t:=false) (o:=o) e ((j+1:Nat):Int) (by omega) (by omega) k q
  obtain⟨x,D,gx,A,F⟩:=Agd (R:=R) (N:=N) (t:=false) (o:=o) e (i:=ls.length) (by omega) y ((j+1:Nat):Int) (H:=(H:Int)) (by omega) s d
  obtain⟨c,v,z⟩:=Aw1 (o:=o) hN e h rl rr bl bg m (j+1) fuel D (ls++[x]) (by omega) (by omega) A (by simp[f]) (aQ (P:=fun i x=>LineH bs.length i H x) lg ⟨by rw[gx.fr,gx.tx];exact gx,by rw[gx.fr];omega,by rw[gx.tx];omega,by rw[gx.fr,gx.tx];omega⟩)
  refine⟨c,v,fun K=>?_⟩
  rw[Wo];unfold ID
  have G:(Nat.ble (ls.length+1) 140737488355328&&Nat.ble ((ls.length+1)*120) 140737488355328)=true:=by rw[Bx,Bx];simp;omega
  have I:List.take (ls.length*12) (ls.flatMap LineD.av)++x.av=(ls++[x]).flatMap LineD.av:=by rw[Cc Cb _ rfl];simp
  rw[Hh (by omega),ct,u,F,show((Nat.beq (List.length x.av) 12)&&(Nat.ble 12 12))=true from rfl,ct,G,ct,Bo (by omega),←z K,←I,List.length_append]
  rfl
theorem Aw2 {N:Nat} {l:List Int} {o:Bool} (hN:4096≤N) (q:l.length≤9223372036854775807) {H:Nat} {b:List Int} (h:1≤H∧H≤3) (rl:b.length=H) (rr:∀ x ∈ b,0≤x∧x<5) :
  ∀ (n fuel k:Nat) (bs:List BusD),n<fuel→k≤l.length→bs.length+n≤4→1≤bs.length+n→(∀ i (h:i<bs.length),BusG i H bs[i]) →
  ∃ c,aR c∧∀ K:LA→O R,Mt N K (Aq l) l.length o b.length (Aq b) fuel (n:Int) (k:Int) (H:Int) bs.length (bs.flatMap BusD.av)=K c.av
 | 0,fuel+1,k,bs,_,A,hn,C,bg=>by
  obtain⟨c,f,j⟩:=Aw1 (R:=R) (o:=o) hN q h rl rr ⟨by omega,by omega⟩ bg (bs.length - 1) 0 N k [] (by omega) (by omega) A rfl (by simp)
  refine⟨c,f,fun K=>?_⟩
  rw[Mt];unfold Zi
  rw[show decide (((0:Nat):Int)>0)=false from rfl,cf,←j K]
  rfl
 | n+1,fuel+1,k,bs,V,A,hn,C,bg=>by
  obtain⟨B,M,z,S,D,hB⟩:=FJ (R:=R) (N:=N) (m:=H) (t:=false) (o:=o) (by omega) q 14 (by omega) (by omega) (by omega) k A
  obtain⟨y12,u,y120,y121,d,e⟩:=nx (R:=R) (N:=N) (t:=false) (o:=o) q 2 (by omega) (by omega) M D
  have wn:IntKind.wrap .i64 (((n+1:Nat):Int) - 1)=(n:Int):=mM (by omega)
  have I:(Nat.ble (bs.length+1) 140737488355328&&Nat.ble ((bs.length+1)*48) 140737488355328)=true:=by rw[Bx,Bx];simp;omega
  have T:∀ s:Int,List.take (bs.length*3) (bs.flatMap BusD.av)++[(.str [98,A54.getD bs.length 0]),(.imm (B.flatMap JV) H 1 false false),(.int .i64 s)]=(bs++[(⟨[98,A54.getD bs.length 0],.of B false false,s⟩:BusD)]).flatMap BusD.av:=fun s=>by
   rw[Cc K8 _ rfl];simp[BusD.av,Sl.av,z]
  have go:∀ (s:Int) (kk:Nat),0≤s→s<300→kk≤l.length→∃ c,aR c∧∀ K:LA→O R,Mt N K (Aq l) l.length o b.length (Aq b) fuel (n:Int) (kk:Int) (H:Int) (bs.length+1) (List.take (bs.length*3) (bs.flatMap BusD.av)++[(.str [98,A54.getD bs.length 0]),(.imm (B.flatMap JV) H 1 false false),(.int .i64 s)])=K c.av:=by
   intro s kk U s1 F
   have gb:BusG bs.length H (⟨[98,A54.getD bs.length 0],.of B false false,s⟩:BusD):=⟨rfl,z,S,U,s1⟩
   obtain⟨c,f,j⟩:=Aw2 (o:=o) hN q h rl rr n fuel kk (bs++[(⟨[98,A54.getD bs.length 0],.of B false false,s⟩:BusD)]) (by omega) F (by simp;omega) (by simp;omega) (aQ (P:=fun i x=>BusG i H x) bg gb)
   refine⟨c,f,fun K=>?_⟩
   rw[T,←j K,List.length_append]
   rfl
  by_cases L:y12=1
  ·have e1:(y12==1)=true:=by simpa using L
   obtain⟨y14,G,y140,y141,v,y⟩:=nx (R:=R) (N:=N) (t:=false) (o:=o) q 200 (by omega) (by omega) u d
   obtain⟨c,f,j⟩:=go (100+y14) G (by omega) (by omega) v
   refine⟨c,f,fun K=>?_⟩
   rw[Mt];unfold Zi
   rw[show decide (((n+1:Nat):Int)>0)=true from decide_eq_true (by omega),ct,Th (by omega),hB,e,e1,ct,y,I,ct,wn,Pa (a:=100+y14) (by omega),Pd z.symm,j]
  ·have e1:(y12==1)=false:=by simpa using L
   obtain⟨c,f,j⟩:=go 0 u (by omega) (by omega) d
   refine⟨c,f,fun K=>?_⟩
   rw[Mt];unfold Zi
   rw[show decide (((n+1:Nat):Int)>0)=true from decide_eq_true (by omega),ct,Th (by omega),hB,e,e1,cf,I,ct,wn,Pd z.symm,j]
theorem mq {N:Nat} {l:List Int} {n:Nat} {t o:Bool} (hn:n=l.length) (hN:4096≤N) (b:l.length≤9223372036854775807):∃ c,aR c∧∀ K:LA→O R,RD N (Aq l) n t o K=K c.av:=by
 subst hn
 obtain⟨y1,q,y10,y11,d,e⟩:=nx (R:=R) (N:=N) (t:=false) (o:=o) b 3 (by omega) (by omega) 0 (by omega)
 obtain⟨H,hH⟩:∃ H:Nat,1+y1=(H:Int):=⟨(1+y1).toNat,by omega⟩
 obtain⟨B,s,k,u,f,hB⟩:=FJ (R:=R) (N:=N) (m:=H) (t:=false) (o:=o) (by omega) b 5 (by omega) (by omega) (by omega) q d
 obtain⟨y6,v,y60,y61,i,j⟩:=nx (R:=R) (N:=N) (t:=false) (o:=o) b 4 (by omega) (by omega) s f
 obtain⟨m,x⟩:∃ m:Nat,1+y6=(m:Int):=⟨(1+y6).toNat,by omega⟩
 obtain⟨c,y,A⟩:=Aw2 (R:=R) (o:=o) hN b (H:=H) (by omega) k u m N v [] (by omega) i (by simp;omega) (by simp;omega) (by simp)
 refine⟨c,y,fun K=>?_⟩
 rw[sj];unfold m9
 rw[y_];unfold Ai9
 have z:Ad N 3 (Aq l) l.length false o 0=Ad (R:=R) N 3 (Aq l) l.length false o ((0:Nat):Int):=rfl
 rw[z,e,Pa (a:=1+y1) (by omega),hH,hB,j,Pa (a:=1+y6) (by omega),x,←A K,k]
 rfl
end
end Gx.Cf

namespace Gx.Cf
open Go Go.Proofs
section
variable {R:Type}
def C3 (c:CaseD) (p:C1) (k i:Int):LA:=c.av++LO p k i
theorem Mw {N:Nat} {c:CaseD} {p:C1} {k i d j:Int} {w:Bool} {K:Bool→LA→O R} :
  U' N d j w (C3 c p k i) K=K w (C3 c p d j):=by
 rw[Agj];unfold Auk
 rcases p with _ | ⟨⟨a,b,f⟩,e,l⟩
 ·simp[C3,CaseD.av,LO,A6,Cy,Bx,GE]
 ·have:(e==0)=false:=by simpa using l
  simp[C3,CaseD.av,LO,A6,this]
theorem Ar {N:Nat} {c:CaseD} {p:C1} {k i f e:Int} {ok w:Bool} {K:Bool→LA→O R} (j:e≠0) :
  A1 N ok f e w (C3 c p k i) K=K w (C3 c (nd p ok (k,i,f) ⟨e,j⟩) k i):=by
 rw[sn];unfold zU
 rcases p with _ | ⟨⟨a,b,m⟩,l,d⟩
 ·cases ok<;>simp[C3,CaseD.av,LO,A6,nd,Bx,GE]
 ·have:(l==0)=false:=by simpa using d
  simp[C3,CaseD.av,LO,A6,nd,this]
theorem E8 {N:Nat} {c:CaseD} {p:C1} {k i f n lo hi:Int} {w:Bool} {K:Bool→LA→O R} :
  Bc N f n lo hi w (C3 c p k i) K=K w (C3 c (nd p (Fb lo hi n) (k,i,f) ⟨3,by decide⟩) k i):=by
 rw[gn];unfold jl
 rw[Ar (by decide),Ar (by decide)]
 unfold Fb
 cases h:decide (n≥lo) with
 | true=>simp at h;simp[h]
 | false=>simp at h;simp[show ¬ lo≤n by omega]
end
end Gx.Cf

namespace Gx
open Go Go.Proofs
open IntKind (wrap)
set_option maxRecDepth 100000
noncomputable section
variable {R:Type} (N:Nat)
def KE (N:Nat) (d:Int) (c:Bool) (b:LA) (r0:List UInt8→O R):O R :=
 (Bw 3 (b.drop 2) fun e f=>(cond (Ah d f) (BT (e.drop ((d.toNat)*3)) fun g=>(r0 g)) none))
def Uq:=(Ai (@KE R)).1
theorem NK:@Uq R=@KE R:=(Ai _).2
def VB (c:Bool) (b:LA) (F:KF R):List UInt8→O R:=(fun i=>F (.str i) [(100000,(bN 0 [(.optr 100001 0)])),(100001,(bP c 0 b))])
theorem VC (d:Int) (c:Bool) (b:LA) (F:KF R):C7 [] Dx N 238 [(iv d),(.optr 100000 0)] [(100000,(bN 0 [(.optr 100001 0)])),(100001,(bP c 0 b))] F=(Uq N d c b (VB c b F)):=by
 rw[NK]
 kernel_rfl
def NL (a:LA) (h:Aj) (k:KF R):O R :=
 match a,h with
 | [(.int .i64 d),(.optr 100000 0)],[(100000,⟨false,false,false,false,0,[(.optr 100001 0)],false,none⟩),(100001,⟨false,false,true,c,0,b,false,none⟩)]=>(Uq N d c b (VB c b k))
 | _,_=>none
theorem VD:An N 238 @NL:=by
 intro R Q a h k j;unfold NL;split;exact A3 (VC ..) (VC ..) trivial;exact A5
def vF:=A4 (VD N)
def vG:=C8 (VD N)
def Zl (r0:Bool→LA→O R) (b:List UInt8) (f:Int) (k0:Int→Bool→LA→O R) (e:Int) (d:Bool) (c:LA):O R :=
 (cond (decide (e<f)) (At .i64 (c.drop 11) fun m=>(cond (m != 0) (r0 d c) (Uq N e d c (fun o=>(A1 N (!(o==b)) 0 10 d c (fun p q=>(k0 (wrap .i64 (e+1)) p q))))))) (r0 d c))
def Pe (r0:Bool→LA→O R) (b:List UInt8) (f:Int):Nat→Int→Bool→LA→O R
 | 0,_,_,_=>none
 | n+1,e,d,c=>(Zl N r0 b f (Pe r0 b f n) e d c)
def mt (r0:Bool→LA→O R) (q0:Int→Int→Bool→LA→O R) (b:List UInt8) (g:Bool) (i:LA):O R :=
 (Up N b (fun r=>(A1 N r 0 9 g i (fun s l=>(At .i64 (l.drop 9) fun f=>(q0 f 0 s l))))))
def eF:=(Ai (fun (N:Nat) (b:List UInt8) (g:Bool) (i:LA) (r0:Bool→LA→O R)=>(mt N r0 (fun f e d c=>(Pe N r0 b f N e d c)) b g i))).1
theorem tA (b g i r0):(@eF R N b g i r0)=(mt N r0 (fun f e d c=>(Pe N r0 b f N e d c)) b g i):=by rw[eF,(Ai _).2]
def Agm:Gm:=[(284,Wq N),(236,C9 N),(238,vF N)]
def Auq (F:KF R):=Ki Tryz.f237 SQ (Agm N) [100000,100001] N F
def FM (F:KF R):Bool→LA→O R:=(fun t u=>F (.tup []) [(100000,(bP t 0 u)),(100001,(bN 0 [(.optr 100000 0)]))])
def Aur (b:List UInt8) (f e:Int) (d:Bool) (c:LA):St:=⟨[(0,(.optr 100000 0)),(1,(.str b)),(2,(.fn 238 [(.optr 100001 0)])),(15,(iv f)),(16,(iv e))],[(100000,(bP d 0 c)),(100001,(bN 0 [(.optr 100000 0)]))]⟩
def Aus (F:KF R):=Auq N F [1,1,0] []
theorem gv (F:KF R) (b:List UInt8) (f:Int):∀ (n:Nat) (e:Int) (d:Bool) (c:LA),Ak (Aus N F) n (Aur b f e d c)=(Pe N (FM F) b f n e d c)
 | 0,_,_,_=>by kernel_rfl
 | n+1,e,d,c=>Eq.trans (by kernel_rfl) (Bv (Zl N (FM F) b f · e d c) (funext fun e=>funext fun d=>funext fun c=>(gv F b f n e d c)):_)
theorem za (b:List UInt8) (g:Bool) (i:LA) (F:KF R):C7 (Agm N) SQ N 237 [(.optr 100000 0),(.str b),(.fn 238 [(.optr 100001 0)])] [(100000,(bP g 0 i)),(100001,(bN 0 [(.optr 100000 0)]))] F=(eF N b g i (FM F)):=by
 rw[tA]
 exact Eq.trans (by kernel_rfl) (Bv (mt N (FM F) · b g i) (funext fun f=>funext fun e=>funext fun d=>funext fun c=>(Ac ..).trans (gv N F b f N e d c)):_)
def tB (a:LA) (h:Aj) (k:KF R):O R :=
 match a,h with
 | [(.optr 100000 0),(.str b),(.fn 238 [(.optr 100001 0)])],[(100000,⟨false,false,true,g,0,i,false,none⟩),(100001,⟨false,false,false,false,0,[(.optr 100000 0)],false,none⟩)]=>(eF N b g i (FM k))
 | _,_=>none
theorem zb:An N 237 @tB:=by
 intro R Q a h k j;unfold tB;split;exact A3 (za ..) (za ..) ⟨Wr N,Da N,vG N,trivial⟩;exact A5
def Aut:=A4 (zb N)
def Auu:=C8 (zb N)
def CE (r0:Bool→LA→O R) (d:LA) (e:Nat) (b:Bool) (k0:Int→Int→Bool→LA→O R) (f c:Int) (g:Bool) (i:LA):O R :=
 (cond (decide (c<f)) (cond (Ah c e) (cond (Nat.ble 3 ((d.drop ((c.toNat)*3)).length)) (cond ((Nat.beq 0 0)&&((Nat.beq (((d.drop ((c.toNat)*3)).take 3).length) 3)&&(Nat.beq 3 3))) (U' N 1 c g i (fun m o=>(BT ((d.drop ((c.toNat)*3)).take 3) fun p=>(eF N p m o (fun q r=>(Bw 1 (((d.drop ((c.toNat)*3)).take 3).drop 1) fun s t=>(Nr N 1 s t false b 0 1048576 q r (fun u v=>(At .i64 (((d.drop ((c.toNat)*3)).take 3).drop 2) fun w=>(Bc N 2 w 0 1048576 u v (fun x y=>(k0 f (wrap .i64 (c+1)) x y)))))))))))) none) none) none) (r0 g i))
def Pf (r0:Bool→LA→O R) (d:LA) (e:Nat) (b:Bool):Nat→Int→Int→Bool→LA→O R
 | 0,_,_,_,_=>none
 | n+1,f,c,g,i=>(CE N r0 d e b (Pf r0 d e b n) f c g i)
def eG (N:Nat) (r0:Bool→LA→O R) (q0:LA→Nat→Int→Int→Bool→LA→O R) (b:Bool) (l:LA):O R :=
 (Bw 3 (l.drop 2) fun d e=>(q0 d e ((e:Nat):Int) 0 b l))
def FN:=(Ai (fun (N:Nat) (b:Bool) (l:LA) (r0:Bool→LA→O R)=>(eG N r0 (fun d e f c g i=>(Pf N r0 d e b N f c g i)) b l))).1
theorem mu (b l r0):(@FN R N b l r0)=(eG N r0 (fun d e f c g i=>(Pf N r0 d e b N f c g i)) b l):=by rw[FN,(Ai _).2]
def tC:Hints:={ H:=(hS hL (hS hL (hS (hP [1,8,9,10] hL) hL))) }
def zc:Gm:=[(233,Zj N),(237,Aut N),(235,RF N),(234,Hb N)]
def Apl (F:KF R):=Ki Tryz.f172 tC (zc N) [100000] N F
def Zm (F:KF R):Bool→LA→O R:=(fun z aa=>F (.tup []) [(100000,(bP z 0 aa))])
def Apm (d:LA) (e:Nat) (b:Bool) (f c:Int) (g:Bool) (i:LA):St:=⟨[(1,(op 0)),(8,(.imm d e 3 false b)),(9,(iv f)),(10,(iv c))],[(100000,(bP g 0 i)),(300000,(bN 0 [(.optr 100000 0)]))]⟩
def Apn (F:KF R):=Apl N F [1,1,0] []
theorem aS (F:KF R) (d:LA) (e:Nat) (b:Bool):∀ (n:Nat) (f c:Int) (g:Bool) (i:LA),Ak (Apn N F) n (Apm d e b f c g i)=(Pf N (Zm F) d e b n f c g i)
 | 0,_,_,_,_=>by kernel_rfl
 | n+1,f,c,g,i=>Eq.trans (by kernel_rfl) (Bv (CE N (Zm F) d e b · f c g i) (funext fun f=>funext fun c=>funext fun g=>funext fun i=>(aS F d e b n f c g i)):_)
theorem tD (b:Bool) (l:LA) (F:KF R):C7 (zc N) tC N 172 [(.optr 100000 0)] [(100000,(bP b 0 l))] F=(FN N b l (Zm F)):=by
 rw[mu]
 exact Eq.trans (by kernel_rfl) (Bv (eG N (Zm F) · b l) (funext fun d=>funext fun e=>funext fun f=>funext fun c=>funext fun g=>funext fun i=>(Ac ..).trans (aS N F d e b N f c g i)):_)
def mv (a:LA) (h:Aj) (k:KF R):O R :=
 match a,h with
 | [(.optr 100000 0)],[(100000,⟨false,false,true,b,0,l,false,none⟩)]=>(FN N b l (Zm k))
 | _,_=>none
theorem tE:An N 172 @mv:=by
 intro R Q a h k j;unfold mv;split;exact A3 (tD ..) (tD ..) ⟨Zk N,Auu N,RG N,Hc N,trivial⟩;exact A5
def Apo:=A4 (tE N)
def App:=C8 (tE N)
def KG (N:Nat) (d:Int) (c:Bool) (b:LA) (r0:List UInt8→O R):O R :=
 (Bw 12 (b.drop 3) fun e f=>(cond (Ah d f) (BT (e.drop ((d.toNat)*12)) fun g=>(r0 g)) none))
def Ur:=(Ai (@KG R)).1
theorem NM:@Ur R=@KG R:=(Ai _).2
def VE (c:Bool) (b:LA) (F:KF R):List UInt8→O R:=(fun i=>F (.str i) [(100000,(bN 0 [(.optr 100001 0)])),(100001,(bP c 0 b))])
theorem VF (d:Int) (c:Bool) (b:LA) (F:KF R):C7 [] Dx N 239 [(iv d),(.optr 100000 0)] [(100000,(bN 0 [(.optr 100001 0)])),(100001,(bP c 0 b))] F=(Ur N d c b (VE c b F)):=by
 rw[NM]
 kernel_rfl
def NN (a:LA) (h:Aj) (k:KF R):O R :=
 match a,h with
 | [(.int .i64 d),(.optr 100000 0)],[(100000,⟨false,false,false,false,0,[(.optr 100001 0)],false,none⟩),(100001,⟨false,false,true,c,0,b,false,none⟩)]=>(Ur N d c b (VE c b k))
 | _,_=>none
theorem VG:An N 239 @NN:=by
 intro R Q a h k j;unfold NN;split;exact A3 (VF ..) (VF ..) trivial;exact A5
def vH:=A4 (VG N)
def vI:=C8 (VG N)
def Pg (r0:Bool→LA→O R) (b:List UInt8) (f:Int) (k0:Int→Bool→LA→O R) (e:Int) (d:Bool) (c:LA):O R :=
 (cond (decide (e<f)) (At .i64 (c.drop 11) fun m=>(cond (m != 0) (r0 d c) (Ur N e d c (fun o=>(A1 N (!(o==b)) 0 10 d c (fun p q=>(k0 (wrap .i64 (e+1)) p q))))))) (r0 d c))
def Hi (r0:Bool→LA→O R) (b:List UInt8) (f:Int):Nat→Int→Bool→LA→O R
 | 0,_,_,_=>none
 | n+1,e,d,c=>(Pg N r0 b f (Hi r0 b f n) e d c)
def IH (r0:Bool→LA→O R) (q0:Int→Int→Bool→LA→O R) (b:List UInt8) (g:Bool) (i:LA):O R :=
 (Up N b (fun r=>(A1 N r 0 9 g i (fun s l=>(At .i64 (l.drop 9) fun f=>(q0 f 0 s l))))))
def Ws:=(Ai (fun (N:Nat) (b:List UInt8) (g:Bool) (i:LA) (r0:Bool→LA→O R)=>(IH N r0 (fun f e d c=>(Hi N r0 b f N e d c)) b g i))).1
theorem aT (b g i r0):(@Ws R N b g i r0)=(IH N r0 (fun f e d c=>(Hi N r0 b f N e d c)) b g i):=by rw[Ws,(Ai _).2]
def mw:Gm:=[(284,Wq N),(236,C9 N),(239,vH N)]
def Ac6 (F:KF R):=Ki Tryz.f237 SQ (mw N) [100000,100001] N F
def Rg (F:KF R):Bool→LA→O R:=(fun t u=>F (.tup []) [(100000,(bP t 0 u)),(100001,(bN 0 [(.optr 100000 0)]))])
def Ac7 (b:List UInt8) (f e:Int) (d:Bool) (c:LA):St:=⟨[(0,(.optr 100000 0)),(1,(.str b)),(2,(.fn 239 [(.optr 100001 0)])),(15,(iv f)),(16,(iv e))],[(100000,(bP d 0 c)),(100001,(bN 0 [(.optr 100000 0)]))]⟩
def Ac8 (F:KF R):=Ac6 N F [1,1,0] []
theorem NO (F:KF R) (b:List UInt8) (f:Int):∀ (n:Nat) (e:Int) (d:Bool) (c:LA),Ak (Ac8 N F) n (Ac7 b f e d c)=(Hi N (Rg F) b f n e d c)
 | 0,_,_,_=>by kernel_rfl
 | n+1,e,d,c=>Eq.trans (by kernel_rfl) (Bv (Pg N (Rg F) b f · e d c) (funext fun e=>funext fun d=>funext fun c=>(NO F b f n e d c)):_)
theorem gw (b:List UInt8) (g:Bool) (i:LA) (F:KF R):C7 (mw N) SQ N 237 [(.optr 100000 0),(.str b),(.fn 239 [(.optr 100001 0)])] [(100000,(bP g 0 i)),(100001,(bN 0 [(.optr 100000 0)]))] F=(Ws N b g i (Rg F)):=by
 rw[aT]
 exact Eq.trans (by kernel_rfl) (Bv (IH N (Rg F) · b g i) (funext fun f=>funext fun e=>funext fun d=>funext fun c=>(Ac ..).trans (NO N F b f N e d c)):_)
def aU (a:LA) (h:Aj) (k:KF R):O R :=
 match a,h with
 | [(.optr 100000 0),(.str b),(.fn 239 [(.optr 100001 0)])],[(100000,⟨false,false,true,g,0,i,false,none⟩),(100001,⟨false,false,false,false,0,[(.optr 100000 0)],false,none⟩)]=>(Ws N b g i (Rg k))
 | _,_=>none
theorem gy:An N 237 @aU:=by
 intro R Q a h k j;unfold aU;split;exact A3 (gw ..) (gw ..) ⟨Wr N,Da N,vI N,trivial⟩;exact A5
def Ac9:=A4 (gy N)
def Ada:=C8 (gy N)
def Akj (c d:Int) (e:Bool) (b:LA) (r0:Bool→LA→O R):O R :=
 (cond ((decide (d≥0))==true) (Bw 3 (b.drop 2) fun p f=>(A1 N (cond true (decide (d<((f:Nat):Int))) false) c 12 e b (fun g i=>(r0 g i)))) (A1 N false c 12 e b (fun l m=>(r0 l m))))
def RI:=(Ai (@Akj R)).1
theorem zd:@RI R=@Akj R:=(Ai _).2
def A1i:Gm:=[(236,C9 N)]
def Agn (F:KF R):Bool→LA→O R:=(fun n o=>F (.tup []) [(100000,(bP n 0 o))])
theorem Ago (c d:Int) (e:Bool) (b:LA) (F:KF R):C7 (A1i N) Dx N 240 [(.optr 100000 0),(iv c),(iv d)] [(100000,(bP e 0 b))] F=(RI N c d e b (Agn F)):=by
 rw[zd]
 kernel_rfl
def ze (a:LA) (h:Aj) (k:KF R):O R :=
 match a,h with
 | [(.optr 100000 0),(.int .i64 c),(.int .i64 d)],[(100000,⟨false,false,true,e,0,b,false,none⟩)]=>(RI N c d e b (Agn k))
 | _,_=>none
theorem Agp:An N 240 @ze:=by
 intro R Q a h k j;unfold ze;split;exact A3 (Ago ..) (Ago ..) ⟨Da N,trivial⟩;exact A5
def eI:=A4 (Agp N)
def eJ:=C8 (Agp N)
def qQ (N:Nat) (b:LA) (c:Bool) (r0:Bool→O R):O R :=
 (At .i64 (b.drop 1) fun d=>(cond ((decide (d≥1))==true) (At .i64 (b.drop 1) fun e=>(cond ((cond true (decide (e≤1048576)) false)==true) (At .i64 b fun f=>(cond ((cond true (decide (f≥(-1048576))) false)==true) (At .i64 b fun g=>(r0 (cond true (decide (g≤1048576)) false))) (r0 false))) (r0 false))) (r0 false)))
def Zn:=(Ai (@qQ R)).1
theorem mz:@Zn R=@qQ R:=(Ai _).2
def tF (F:KF R):Bool→O R:=(fun i=>F (.bool i) [])
theorem tG (b:LA) (c:Bool) (F:KF R):C7 [] Dx N 241 [(.pagg b c)] [] F=(Zn N b c (tF F)):=by
 rw[mz]
 kernel_rfl
def nA (a:LA) (h:Aj) (k:KF R):O R :=
 match a,h with
 | [(.pagg b c)],[]=>(Zn N b c (tF k))
 | _,_=>none
theorem tH:An N 241 @nA:=by
 intro R Q a h k j;unfold nA;split;exact A3 (tG ..) (tG ..) trivial;exact A5
def tI:=A4 (tH N)
def tJ:=C8 (tH N)
def Lc (N:Nat) (r0:Bool→O R) (c:LA) (b:Nat) (d e:Bool) (k0:Int→O R) (f:Int):O R :=
 (cond (decide (f<((b:Nat):Int))) (cond (Ah f b) (At .i64 (c.drop ((f.toNat)*1)) fun g=>(cond (Ah (wrap .i64 (f - 1)) b) (At .i64 (c.drop (((wrap .i64 (f - 1)).toNat)*1)) fun i=>(cond (decide (g≤i)) (r0 false) (k0 (wrap .i64 (f+1))))) none)) none) (r0 true))
def Fk (r0:Bool→O R) (c:LA) (b:Nat) (d e:Bool):Nat→Int→O R
 | 0,_=>none
 | n+1,f=>(Lc N r0 c b d e (Fk r0 c b d e n) f)
def X7 (N:Nat) (r0:Bool→O R) (q0:Int→O R) (c:LA) (b:Nat) (d e:Bool):O R :=
 (q0 1)
def Jt:=(Ai (fun (N:Nat) (c:LA) (b:Nat) (d e:Bool) (r0:Bool→O R)=>(X7 N r0 (fun f=>(Fk N r0 c b d e N f)) c b d e))).1
theorem NP (c b d e r0):(@Jt R N c b d e r0)=(X7 N r0 (fun f=>(Fk N r0 c b d e N f)) c b d e):=by rw[Jt,(Ai _).2]
def vJ (F:KF R):=Ki Tryz.f248 Awq [] [] N F
def M8 (F:KF R):Bool→O R:=(fun l=>F (.bool l) [])
def vK (c:LA) (b:Nat) (d e:Bool) (f:Int):St:=⟨[(0,(.imm c b 1 d e)),(3,(iv f))],[]⟩
def vL (F:KF R):=vJ N F [1,0,1,0] []
theorem FO (F:KF R) (c:LA) (b:Nat) (d e:Bool):∀ (n:Nat) (f:Int),Ak (vL N F) n (vK c b d e f)=(Fk N (M8 F) c b d e n f)
 | 0,_=>by kernel_rfl
 | n+1,f=>Eq.trans (by kernel_rfl) (Bv (Lc N (M8 F) c b d e · f) (funext fun f=>(FO F c b d e n f)):_)
theorem VH (c:LA) (b:Nat) (d e:Bool) (F:KF R):C7 [] Awq N 248 [(.imm c b 1 d e)] [] F=(Jt N c b d e (M8 F)):=by
 rw[NP]
 exact Eq.trans (by kernel_rfl) (Bv (X7 N (M8 F) · c b d e) (funext fun f=>(Ac ..).trans (FO N F c b d e N f)):_)
def NQ (a:LA) (h:Aj) (k:KF R):O R :=
 match a,h with
 | [(.imm c b 1 d e)],[]=>(Jt N c b d e (M8 k))
 | _,_=>none
theorem VI:An N 248 @NQ:=by
 intro R Q a h k j;unfold NQ;split;exact A3 (VH ..) (VH ..) trivial;exact A5
def Z9:=A4 (VI N)
def AA:=C8 (VI N)
def II (r0:Bool→LA→O R) (d:Int) (c:LA) (b:Nat) (f e g:Bool) (i:LA) (k0:Int→Int→Bool→LA→O R) (p m:Int) (o:Bool) (l:LA):O R :=
 (cond (decide (m<p)) (cond (Ah m b) (At .i64 (c.drop ((m.toNat)*1)) fun q=>(At .i64 (l.drop 11) fun r=>(cond (r != 0) (r0 o l) (At .i64 l fun s=>(Bc N d q 0 (wrap .i64 (s - 1)) o l (fun t u=>(k0 p (wrap .i64 (m+1)) t u))))))) none) (Jt N c b false e (fun v=>(A1 N v d 11 o l (fun w x=>(r0 w x))))))
def Sn (r0:Bool→LA→O R) (d:Int) (c:LA) (b:Nat) (f e g:Bool) (i:LA):Nat→Int→Int→Bool→LA→O R
 | 0,_,_,_,_=>none
 | n+1,p,m,o,l=>(II N r0 d c b f e g i (Sn r0 d c b f e g i n) p m o l)
def nB (N:Nat) (r0:Bool→LA→O R) (q0:Int→Int→Bool→LA→O R) (d:Int) (c:LA) (b:Nat) (f e g:Bool) (i:LA):O R :=
 (q0 ((b:Nat):Int) 0 g i)
def RK:=(Ai (fun (N:Nat) (d:Int) (c:LA) (b:Nat) (f e g:Bool) (i:LA) (r0:Bool→LA→O R)=>(nB N r0 (fun p m o l=>(Sn N r0 d c b f e g i N p m o l)) d c b f e g i))).1
theorem tK (d c b f e g i r0):(@RK R N d c b f e g i r0)=(nB N r0 (fun p m o l=>(Sn N r0 d c b f e g i N p m o l)) d c b f e g i):=by rw[RK,(Ai _).2]
def zf:Hints:={ H:=(hS (hS hL (hS (hP [0,1,2,8,9,10] hL) hL)) hL) }
def Agq:Gm:=[(234,Hb N),(248,Z9 N),(236,C9 N)]
def Auv (F:KF R):=Ki Tryz.f242 zf (Agq N) [100000] N F
def FP (F:KF R):Bool→LA→O R:=(fun y z=>F (.tup []) [(100000,(bP y 0 z))])
def Auw (d:Int) (c:LA) (b:Nat) (f e g:Bool) (i:LA) (p m:Int) (o:Bool) (l:LA):St:=⟨[(0,(.optr 100000 0)),(1,(iv d)),(2,(.imm c b 1 f e)),(8,(.imm c b 1 f e)),(9,(iv p)),(10,(iv m))],[(100000,(bP o 0 l))]⟩
def Aux (F:KF R):=Auv N F [0,1,0] []
theorem gz (F:KF R) (d:Int) (c:LA) (b:Nat) (f e g:Bool) (i:LA):∀ (n:Nat) (p m:Int) (o:Bool) (l:LA),Ak (Aux N F) n (Auw d c b f e g i p m o l)=(Sn N (FP F) d c b f e g i n p m o l)
 | 0,_,_,_,_=>by kernel_rfl
 | n+1,p,m,o,l=>Eq.trans (by kernel_rfl) (Bv (II N (FP F) d c b f e g i · p m o l) (funext fun p=>funext fun m=>funext fun o=>funext fun l=>(gz F d c b f e g i n p m o l)):_)
theorem zg (d:Int) (c:LA) (b:Nat) (f e g:Bool) (i:LA) (F:KF R):C7 (Agq N) zf N 242 [(.optr 100000 0),(iv d),(.imm c b 1 f e)] [(100000,(bP g 0 i))] F=(RK N d c b f e g i (FP F)):=by
 rw[tK]
 exact Eq.trans (by kernel_rfl) (Bv (nB N (FP F) · d c b f e g i) (funext fun p=>funext fun m=>funext fun o=>funext fun l=>(Ac ..).trans (gz N F d c b f e g i N p m o l)):_)
def tL (a:LA) (h:Aj) (k:KF R):O R :=
 match a,h with
 | [(.optr 100000 0),(.int .i64 d),(.imm c b 1 f e)],[(100000,⟨false,false,true,g,0,i,false,none⟩)]=>(RK N d c b f e g i (FP k))
 | _,_=>none
theorem zh:An N 242 @tL:=by
 intro R Q a h k j;unfold tL;split;exact A3 (zg ..) (zg ..) ⟨Hc N,AA N,Da N,trivial⟩;exact A5
def zi:=A4 (zh N)
def zj:=C8 (zh N)
def aV (k0:Int→Int→Bool→LA→O R) (r0:Bool→LA→O R) (c:LA) (f:Nat) (b:Bool) (d:Int) (g e:LA) (u:Int) (v:Bool) (w:LA):O R :=
 (At .i64 (g.drop 9) fun z=>(Bc N 6 z 0 1048576 v w (fun aa ab=>(At .i64 (g.drop 10) fun ac=>(At .i64 (g.drop 9) fun ad=>(Bc N 7 ac ad 1048576 aa ab (fun ae af=>(Bw 1 (g.drop 11) fun ag ah=>(RK N 8 ag ah false b ae af (fun ai aj=>(k0 d (wrap .i64 (u+1)) ai aj)))))))))))
def RL (k0:Int→Int→Bool→LA→O R) (r0:Bool→LA→O R) (c:LA) (f:Nat) (b:Bool) (d:Int) (g e:LA) (q3:Int→Bool→LA→O R) (r:Int) (s:Bool) (t:LA):O R :=
 (cond (Nat.ble 2 ((g.drop 7).length)) (cond ((!b)||(A0 ((g.drop 7).take 2))) (Zn N ((g.drop 7).take 2) false (fun ak=>(cond (ak==true) (At .i64 (g.drop 7) fun al=>(A1 N (cond true (decide (al≥0)) false) 5 3 s t (fun am an=>(q3 r am an)))) (A1 N false 5 3 s t (fun ao ap=>(q3 r ao ap)))))) none) none)
def aW (k0:Int→Int→Bool→LA→O R) (r0:Bool→LA→O R) (c:LA) (f:Nat) (b:Bool) (d:Int) (g e:LA) (r:Int) (s:Bool) (t:LA):O R:=(RL N k0 r0 c f b d g e (fun u v w=>(aV N k0 r0 c f b d g e u v w)) r s t)
def RM (k0:Int→Int→Bool→LA→O R) (r0:Bool→LA→O R) (c:LA) (f:Nat) (b:Bool) (d:Int) (e:LA) (q2:Int→Bool→LA→O R) (o:Int) (p:Bool) (q g:LA):O R :=
 (cond (Nat.ble 2 ((g.drop 5).length)) (cond ((!b)||(A0 ((g.drop 5).take 2))) (Zn N ((g.drop 5).take 2) false (fun aq=>(cond (aq==true) (At .i64 (g.drop 5) fun ar=>(A1 N (cond true (decide (ar≤0)) false) 4 3 p q (fun au av=>(q2 o au av)))) (A1 N false 4 3 p q (fun aw ax=>(q2 o aw ax)))))) none) none)
def IJ (k0:Int→Int→Bool→LA→O R) (r0:Bool→LA→O R) (c:LA) (f:Nat) (b:Bool) (d:Int) (e:LA) (o:Int) (p:Bool) (q g:LA):O R:=(RM N k0 r0 c f b d e (fun r s t=>(aW N k0 r0 c f b d g e r s t)) o p q g)
def CF (r0:Bool→LA→O R) (c:LA) (f:Nat) (b:Bool) (e:LA) (k0:Int→Int→Bool→LA→O R) (q1:Int→Bool→LA→LA→O R) (d i:Int) (l:Bool) (m:LA):O R :=
 (cond (decide (i<d)) (cond (Ah i f) (cond (Nat.ble 12 ((c.drop ((i.toNat)*12)).length)) (cond ((Nat.beq 0 0)&&((Nat.beq (((c.drop ((i.toNat)*12)).take 12).length) 12)&&(Nat.beq 12 12))) (U' N 2 i l m (fun ay az=>(BT ((c.drop ((i.toNat)*12)).take 12) fun ba=>(Ws N ba ay az (fun bb bc=>(At .i64 (((c.drop ((i.toNat)*12)).take 12).drop 1) fun bd=>(RI N 1 bd bb bc (fun be bf=>(At .i64 (((c.drop ((i.toNat)*12)).take 12).drop 2) fun bg=>(RI N 2 bg be bf (fun bh bi=>(At .i64 (((c.drop ((i.toNat)*12)).take 12).drop 2) fun bj=>(At .i64 (((c.drop ((i.toNat)*12)).take 12).drop 1) fun bk=>(A1 N (bj != bk) 2 1 bh bi (fun x y=>(cond (Nat.ble 2 ((((c.drop ((i.toNat)*12)).take 12).drop 3).length)) (cond ((!b)||(A0 ((((c.drop ((i.toNat)*12)).take 12).drop 3).take 2))) (Zn N ((((c.drop ((i.toNat)*12)).take 12).drop 3).take 2) false (fun bl=>(cond (bl==true) (At .i64 (((c.drop ((i.toNat)*12)).take 12).drop 3) fun bm=>(A1 N (cond true (decide (bm>0)) false) 3 3 x y (fun bn bo=>(q1 i bn bo ((c.drop ((i.toNat)*12)).take 12))))) (A1 N false 3 3 x y (fun bp bq=>(q1 i bp bq ((c.drop ((i.toNat)*12)).take 12))))))) none) none)))))))))))))))) none) none) none) (r0 l m))
def Ls (r0:Bool→LA→O R) (c:LA) (f:Nat) (b:Bool) (e:LA):Nat→Int→Int→Bool→LA→O R
 | 0,_,_,_,_=>none
 | n+1,d,i,l,m=>(CF N r0 c f b e (Ls r0 c f b e n) (fun o p q g=>(IJ N (Ls r0 c f b e n) r0 c f b d e o p q g)) d i l m)
def eK (N:Nat) (r0:Bool→LA→O R) (q0:LA→Nat→Int→Int→Bool→LA→O R) (b:Bool) (e:LA):O R :=
 (Bw 12 (e.drop 3) fun c f=>(q0 c f ((f:Nat):Int) 0 b e))
def FQ:=(Ai (fun (N:Nat) (b:Bool) (e:LA) (r0:Bool→LA→O R)=>(eK N r0 (fun c f d i l m=>(Ls N r0 c f b e N d i l m)) b e))).1
theorem nC (b e r0):(@FQ R N b e r0)=(eK N r0 (fun c f d i l m=>(Ls N r0 c f b e N d i l m)) b e):=by rw[FQ,(Ai _).2]
def tM:Hints:={ H:=(hS hL (hS hL (hS (hP [1,8,9,10] (hS hL (hS hL (hS (hS (hS hL (hS hL (hS hL (hS hL (hS hL (hS hL (hJ [1,3,8,9,10] hL (hJ [1,3,8,9,10] hL (hJ [1,3,8,9,10] hL hL))))))))) hL) hL)))) hL))) }
def zk:Gm:=[(233,Zj N),(237,Ac9 N),(240,eI N),(236,C9 N),(241,tI N),(234,Hb N),(242,zi N)]
def IK (F:KF R):=Ki Tryz.f173 tM (zk N) [100000] N F
def Gh (F:KF R):Bool→LA→O R:=(fun br bs=>F (.tup []) [(100000,(bP br 0 bs))])
def Apq (c:LA) (f:Nat) (b:Bool) (d:Int) (g e:LA) (u:Int) (v:Bool) (w:LA):St:=⟨[(1,(op 0)),(3,(op 1)),(8,(.imm c f 12 false b)),(9,(iv d)),(10,(iv u))],[(100000,(bP v 0 w)),(300000,(bN 0 [(.optr 100000 0)])),(300001,(bP b 0 g))]⟩
def Apr (F:KF R) (Q0:St→O R):=IK N F [1,1,0,0,1,1,0,0,1,1,1,1,1,1,1,1,1] [Q0]
def Aps (c:LA) (f:Nat) (b:Bool) (d:Int) (g e:LA) (r:Int) (s:Bool) (t:LA):St:=⟨[(1,(op 0)),(3,(op 1)),(8,(.imm c f 12 false b)),(9,(iv d)),(10,(iv r))],[(100000,(bP s 0 t)),(300000,(bN 0 [(.optr 100000 0)])),(300001,(bP b 0 g))]⟩
def Apt (F:KF R) (Q0:St→O R):=IK N F [1,1,0,0,1,1,0,0,1,1,1,1,1,1,1,1] [Q0]
def Apu (c:LA) (f:Nat) (b:Bool) (d:Int) (e:LA) (o:Int) (p:Bool) (q g:LA):St:=⟨[(1,(op 0)),(3,(op 1)),(8,(.imm c f 12 false b)),(9,(iv d)),(10,(iv o))],[(100000,(bP p 0 q)),(300000,(bN 0 [(.optr 100000 0)])),(300001,(bP b 0 g))]⟩
def Apv (F:KF R) (Q0:St→O R):=IK N F [1,1,0,0,1,1,0,0,1,1,1,1,1,1,1] [Q0]
def Ti (c:LA) (f:Nat) (b:Bool) (e:LA) (d i:Int) (l:Bool) (m:LA):St:=⟨[(1,(op 0)),(8,(.imm c f 12 false b)),(9,(iv d)),(10,(iv i))],[(100000,(bP l 0 m)),(300000,(bN 0 [(.optr 100000 0)]))]⟩
def tN (F:KF R):=IK N F [1,1,0] []
theorem zl (Q0:St→O R) (F:KF R) (c:LA) (f:Nat) (b:Bool) (d:Int) (g e:LA):∀ (u:Int) (v:Bool) (w:LA),B8 (Apr N F Q0) (Apq c f b d g e u v w)=(aV N (fun d i l m=>Q0 (Ti c f b e d i l m)) (Gh F) c f b d g e u v w):=by
 intro u v w
 kernel_rfl
theorem zm (Q0:St→O R) (F:KF R) (c:LA) (f:Nat) (b:Bool) (d:Int) (g e:LA):∀ (r:Int) (s:Bool) (t:LA),B8 (Apt N F Q0) (Aps c f b d g e r s t)=(aW N (fun d i l m=>Q0 (Ti c f b e d i l m)) (Gh F) c f b d g e r s t):=by
 intro r s t
 exact Eq.trans (by kernel_rfl) (Bv (RL N (fun d i l m=>Q0 (Ti c f b e d i l m)) (Gh F) c f b d g e · r s t) (funext fun u=>funext fun v=>funext fun w=>(A2 ..).trans (zl N Q0 F c f b d g e u v w)):_)
theorem zn (Q0:St→O R) (F:KF R) (c:LA) (f:Nat) (b:Bool) (d:Int) (e:LA):∀ (o:Int) (p:Bool) (q g:LA),B8 (Apv N F Q0) (Apu c f b d e o p q g)=(IJ N (fun d i l m=>Q0 (Ti c f b e d i l m)) (Gh F) c f b d e o p q g):=by
 intro o p q g
 exact Eq.trans (by kernel_rfl) (Bv (RM N (fun d i l m=>Q0 (Ti c f b e d i l m)) (Gh F) c f b d e · o p q g) (funext fun r=>funext fun s=>funext fun t=>(A2 ..).trans (zm N Q0 F c f b d g e r s t)):_)
theorem aX (F:KF R) (c:LA) (f:Nat) (b:Bool) (e:LA):∀ (n:Nat) (d i:Int) (l:Bool) (m:LA),Ak (tN N F) n (Ti c f b e d i l m)=(Ls N (Gh F) c f b e n d i l m)
 | 0,_,_,_,_=>by kernel_rfl
 | n+1,d,i,l,m=>have e0:=(funext fun d=>funext fun i=>funext fun l=>funext fun m=>(aX F c f b e n d i l m))
  Eq.trans (by kernel_rfl) (PQ (CF N (Gh F) c f b e · · d i l m) e0 (funext fun o=>funext fun p=>funext fun q=>funext fun g=>(A2 ..).trans ((zn N (Ak (tN N F) n) F c f b d e o p q g).trans (Bv (IJ N · (Gh F) c f b d e o p q g) e0))):_)
theorem tO (b:Bool) (e:LA) (F:KF R):C7 (zk N) tM N 173 [(.optr 100000 0)] [(100000,(bP b 0 e))] F=(FQ N b e (Gh F)):=by
 rw[nC]
 exact Eq.trans (by kernel_rfl) (Bv (eK N (Gh F) · b e) (funext fun c=>funext fun f=>funext fun d=>funext fun i=>funext fun l=>funext fun m=>(Ac ..).trans (aX N F c f b e N d i l m)):_)
def nD (a:LA) (h:Aj) (k:KF R):O R :=
 match a,h with
 | [(.optr 100000 0)],[(100000,⟨false,false,true,b,0,e,false,none⟩)]=>(FQ N b e (Gh k))
 | _,_=>none
theorem tP:An N 173 @nD:=by
 intro R Q a h k j;unfold nD;split;exact A3 (tO ..) (tO ..) ⟨Zk N,Ada N,eJ N,Da N,tJ N,Hc N,zj N,trivial⟩;exact A5
def Apw:=A4 (tP N)
def Apx:=C8 (tP N)
def KH (N:Nat) (d:Int) (c:Bool) (b:LA) (r0:List UInt8→O R):O R :=
 (Bw 22 (b.drop 4) fun e f=>(cond (Ah d f) (BT (e.drop ((d.toNat)*22)) fun g=>(r0 g)) none))
def Us:=(Ai (@KH R)).1
theorem NR:@Us R=@KH R:=(Ai _).2
def VJ (c:Bool) (b:LA) (F:KF R):List UInt8→O R:=(fun i=>F (.str i) [(100000,(bN 0 [(.optr 100001 0)])),(100001,(bP c 0 b))])
theorem VK (d:Int) (c:Bool) (b:LA) (F:KF R):C7 [] Dx N 243 [(iv d),(.optr 100000 0)] [(100000,(bN 0 [(.optr 100001 0)])),(100001,(bP c 0 b))] F=(Us N d c b (VJ c b F)):=by
 rw[NR]
 kernel_rfl
def NS (a:LA) (h:Aj) (k:KF R):O R :=
 match a,h with
 | [(.int .i64 d),(.optr 100000 0)],[(100000,⟨false,false,false,false,0,[(.optr 100001 0)],false,none⟩),(100001,⟨false,false,true,c,0,b,false,none⟩)]=>(Us N d c b (VJ c b k))
 | _,_=>none
theorem VL:An N 243 @NS:=by
 intro R Q a h k j;unfold NS;split;exact A3 (VK ..) (VK ..) trivial;exact A5
def vM:=A4 (VL N)
def vN:=C8 (VL N)
def Ph (r0:Bool→LA→O R) (b:List UInt8) (f:Int) (k0:Int→Bool→LA→O R) (e:Int) (d:Bool) (c:LA):O R :=
 (cond (decide (e<f)) (At .i64 (c.drop 11) fun m=>(cond (m != 0) (r0 d c) (Us N e d c (fun o=>(A1 N (!(o==b)) 0 10 d c (fun p q=>(k0 (wrap .i64 (e+1)) p q))))))) (r0 d c))
def Hj (r0:Bool→LA→O R) (b:List UInt8) (f:Int):Nat→Int→Bool→LA→O R
 | 0,_,_,_=>none
 | n+1,e,d,c=>(Ph N r0 b f (Hj r0 b f n) e d c)
def IL (r0:Bool→LA→O R) (q0:Int→Int→Bool→LA→O R) (b:List UInt8) (g:Bool) (i:LA):O R :=
 (Up N b (fun r=>(A1 N r 0 9 g i (fun s l=>(At .i64 (l.drop 9) fun f=>(q0 f 0 s l))))))
def Wt:=(Ai (fun (N:Nat) (b:List UInt8) (g:Bool) (i:LA) (r0:Bool→LA→O R)=>(IL N r0 (fun f e d c=>(Hj N r0 b f N e d c)) b g i))).1
theorem aY (b g i r0):(@Wt R N b g i r0)=(IL N r0 (fun f e d c=>(Hj N r0 b f N e d c)) b g i):=by rw[Wt,(Ai _).2]
def nE:Gm:=[(284,Wq N),(236,C9 N),(243,vM N)]
def Adb (F:KF R):=Ki Tryz.f237 SQ (nE N) [100000,100001] N F
def Rh (F:KF R):Bool→LA→O R:=(fun t u=>F (.tup []) [(100000,(bP t 0 u)),(100001,(bN 0 [(.optr 100000 0)]))])
def Adc (b:List UInt8) (f e:Int) (d:Bool) (c:LA):St:=⟨[(0,(.optr 100000 0)),(1,(.str b)),(2,(.fn 243 [(.optr 100001 0)])),(15,(iv f)),(16,(iv e))],[(100000,(bP d 0 c)),(100001,(bN 0 [(.optr 100000 0)]))]⟩
def Add (F:KF R):=Adb N F [1,1,0] []
theorem NT (F:KF R) (b:List UInt8) (f:Int):∀ (n:Nat) (e:Int) (d:Bool) (c:LA),Ak (Add N F) n (Adc b f e d c)=(Hj N (Rh F) b f n e d c)
 | 0,_,_,_=>by kernel_rfl
 | n+1,e,d,c=>Eq.trans (by kernel_rfl) (Bv (Ph N (Rh F) b f · e d c) (funext fun e=>funext fun d=>funext fun c=>(NT F b f n e d c)):_)
theorem hE (b:List UInt8) (g:Bool) (i:LA) (F:KF R):C7 (nE N) SQ N 237 [(.optr 100000 0),(.str b),(.fn 243 [(.optr 100001 0)])] [(100000,(bP g 0 i)),(100001,(bN 0 [(.optr 100000 0)]))] F=(Wt N b g i (Rh F)):=by
 rw[aY]
 exact Eq.trans (by kernel_rfl) (Bv (IL N (Rh F) · b g i) (funext fun f=>funext fun e=>funext fun d=>funext fun c=>(Ac ..).trans (NT N F b f N e d c)):_)
def aZ (a:LA) (h:Aj) (k:KF R):O R :=
 match a,h with
 | [(.optr 100000 0),(.str b),(.fn 243 [(.optr 100001 0)])],[(100000,⟨false,false,true,g,0,i,false,none⟩),(100001,⟨false,false,false,false,0,[(.optr 100000 0)],false,none⟩)]=>(Wt N b g i (Rh k))
 | _,_=>none
theorem hG:An N 237 @aZ:=by
 intro R Q a h k j;unfold aZ;split;exact A3 (hE ..) (hE ..) ⟨Wr N,Da N,vN N,trivial⟩;exact A5
def Ade:=A4 (hG N)
def Adf:=C8 (hG N)
end
end Gx

namespace Gx
open Go Go.Proofs
open IntKind (wrap)
set_option maxRecDepth 100000
noncomputable section
variable {R:Type} (N:Nat)
def M9 (r0:Bool→LA→O R) (d:Int) (c:Bool) (b:LA) (k1:Int→Bool→LA→O R) (g:Int) (p:Bool) (q:LA):O R :=
 (Bw 2 (b.drop 4) fun av v=>(cond (decide (g<((v:Nat):Int))) (Bw 2 (b.drop 4) fun w x=>(cond (Ah g x) (At .i64 ((w.drop ((g.toNat)*2)).drop 1) fun y=>(Bw 2 (b.drop 4) fun z aa=>(cond (Ah (wrap .i64 (g - 1)) aa) (At .i64 ((z.drop (((wrap .i64 (g - 1)).toNat)*2)).drop 1) fun ab=>(A1 N (decide (y≥ab)) 4 11 p q (fun ac ad=>(k1 (wrap .i64 (g+1)) ac ad)))) none))) none)) (At .i64 (b.drop 3) fun ae=>(At .i64 (b.drop 2) fun af=>(A1 N (d==(wrap .i64 (ae - af))) 4 4 p q (fun ag ah=>(r0 ag ah)))))))
def Ik (r0:Bool→LA→O R) (d:Int) (c:Bool) (b:LA):Nat→Int→Bool→LA→O R
 | 0,_,_,_=>none
 | n+1,g,p,q=>(M9 N r0 d c b (Ik r0 d c b n) g p q)
def R8 (r0:Bool→LA→O R) (f:LA) (i:Nat) (c:Bool) (b:LA) (k0:Int→Int→Int→Bool→LA→O R) (q1:Int→Bool→LA→O R) (d l e:Int) (m:Bool) (o:LA):O R :=
 (cond (decide (e<l)) (cond (Ah e i) (cond (Nat.ble 2 ((f.drop ((e.toNat)*2)).length)) (cond ((!c)||(A0 ((f.drop ((e.toNat)*2)).take 2))) (cond ((Nat.beq (((f.drop ((e.toNat)*2)).take 2).length) 2)&&((Nat.ble 2 2)&&(!false))) (At .i64 (setCells [(.int .i64 0),(.int .i64 0)] 0 ((f.drop ((e.toNat)*2)).take 2)) fun ai=>(Bc N 4 ai 1 1048576 m o (fun aj ak=>(At .i64 ((setCells [(.int .i64 0),(.int .i64 0)] 0 ((f.drop ((e.toNat)*2)).take 2)).drop 1) fun al=>(Bc N 4 al (-1048576) 1048576 aj ak (fun am an=>(At .i64 (setCells [(.int .i64 0),(.int .i64 0)] 0 ((f.drop ((e.toNat)*2)).take 2)) fun ao=>(k0 (wrap .i64 (d+ao)) l (wrap .i64 (e+1)) am an)))))))) none) none) none) none) (q1 1 m o))
def Il (r0:Bool→LA→O R) (f:LA) (i:Nat) (c:Bool) (b:LA):Nat→Int→Int→Int→Bool→LA→O R
 | 0,_,_,_,_,_=>none
 | n+1,d,l,e,m,o=>(R8 N r0 f i c b (Il r0 f i c b n) (fun g p q=>(Ik N r0 d c b N g p q)) d l e m o)
def CG (r0:Bool→LA→O R) (q0:LA→Nat→Int→Int→Int→Bool→LA→O R) (b:LA) (c r:Bool) (s:LA):O R :=
 (Bw 2 (b.drop 4) fun aw ap=>(A1 N (decide (((ap:Nat):Int)≤8)) 4 8 r s (fun u t=>(At .i64 (t.drop 11) fun aq=>(cond (aq != 0) (r0 u t) (Bw 2 (b.drop 4) fun f i=>(q0 f i 0 ((i:Nat):Int) 0 u t)))))))
def Pi:=(Ai (fun (N:Nat) (b:LA) (c r:Bool) (s:LA) (r0:Bool→LA→O R)=>(CG N r0 (fun f i d l e m o=>(Il N r0 f i c b N d l e m o)) b c r s))).1
theorem VM (b c r s r0):(@Pi R N b c r s r0)=(CG N r0 (fun f i d l e m o=>(Il N r0 f i c b N d l e m o)) b c r s):=by rw[Pi,(Ai _).2]
def a6:Hints:={ H:=(hS hL (hS hL (hS hL (hS hL (hS (hS hL (hS (hP [0,3,4,20,21,22] hL) hL)) (hS (hS hL (hS (hP [0,3,4,7] hL) hL)) hL)))))) }
def hI:Gm:=[(236,C9 N),(234,Hb N)]
def a7 (F:KF R):=Ki Tryz.f244 a6 (hI N) [100000] N F
def Im (F:KF R):Bool→LA→O R:=(fun ar au=>F (.tup []) [(100000,(bP ar 0 au))])
def zo (d:Int) (c:Bool) (b:LA) (g:Int) (p:Bool) (q:LA):St:=⟨[(0,(.optr 100000 0)),(3,(op 0)),(4,(iv d)),(7,(iv g))],[(100000,(bP p 0 q)),(300000,(bP c 0 b))]⟩
def zp (F:KF R):=a7 N F [1,1,1,1,1,0,1,0] []
def zq (f:LA) (i:Nat) (c:Bool) (b:LA) (d l e:Int) (m:Bool) (o:LA):St:=⟨[(0,(.optr 100000 0)),(3,(op 0)),(4,(iv d)),(20,(.imm f i 2 false c)),(21,(iv l)),(22,(iv e))],[(100000,(bP m 0 o)),(300000,(bP c 0 b))]⟩
def zr (F:KF R):=a7 N F [1,1,1,1,0,1,0] []
theorem IM (F:KF R) (d:Int) (c:Bool) (b:LA):∀ (n:Nat) (g:Int) (p:Bool) (q:LA),Ak (zp N F) n (zo d c b g p q)=(Ik N (Im F) d c b n g p q)
 | 0,_,_,_=>by kernel_rfl
 | n+1,g,p,q=>Eq.trans (by kernel_rfl) (Bv (M9 N (Im F) d c b · g p q) (funext fun g=>funext fun p=>funext fun q=>(IM F d c b n g p q)):_)
theorem IN (F:KF R) (f:LA) (i:Nat) (c:Bool) (b:LA):∀ (n:Nat) (d l e:Int) (m:Bool) (o:LA),Ak (zr N F) n (zq f i c b d l e m o)=(Il N (Im F) f i c b n d l e m o)
 | 0,_,_,_,_,_=>by kernel_rfl
 | n+1,d,l,e,m,o=>Eq.trans (by kernel_rfl) (PQ (R8 N (Im F) f i c b · · d l e m o) (funext fun d=>funext fun l=>funext fun e=>funext fun m=>funext fun o=>(IN F f i c b n d l e m o)) (funext fun g=>funext fun p=>funext fun q=>(Ac ..).trans (IM N F d c b N g p q)):_)
theorem a8 (b:LA) (c r:Bool) (s:LA) (F:KF R):C7 (hI N) a6 N 244 [(.optr 100000 0),(.pagg b c)] [(100000,(bP r 0 s))] F=(Pi N b c r s (Im F)):=by
 rw[VM]
 exact Eq.trans (by kernel_rfl) (Bv (CG N (Im F) · b c r s) (funext fun f=>funext fun i=>funext fun d=>funext fun l=>funext fun e=>funext fun m=>funext fun o=>(Ac ..).trans (IN N F f i c b N d l e m o)):_)
def VN (a:LA) (h:Aj) (k:KF R):O R :=
 match a,h with
 | [(.optr 100000 0),(.pagg b c)],[(100000,⟨false,false,true,r,0,s,false,none⟩)]=>(Pi N b c r s (Im k))
 | _,_=>none
theorem a_:An N 244 @VN:=by
 intro R Q a h k j;unfold VN;split;exact A3 (a8 ..) (a8 ..) ⟨Da N,Hc N,trivial⟩;exact A5
def zt:=A4 (a_ N)
def zu:=C8 (a_ N)
def bA (k0:Int→Int→Bool→LA→O R) (r0:Bool→LA→O R) (b:LA) (g:Nat) (c:Bool) (e:Int) (i f:LA) (u:Int) (v:Bool) (w:LA):O R :=
 (At .i64 (i.drop 19) fun ab=>(cond (ab==2) (At .i64 (i.drop 21) fun ac=>(At .i64 (i.drop 2) fun ad=>(At .i64 (i.drop 3) fun ae=>(Bc N 21 ac ad ae v w (fun af ag=>(k0 e (wrap .i64 (u+1)) af ag)))))) (At .i64 (i.drop 21) fun ah=>(Bc N 21 ah 0 0 v w (fun ai aj=>(k0 e (wrap .i64 (u+1)) ai aj))))))
def RN (k0:Int→Int→Bool→LA→O R) (r0:Bool→LA→O R) (b:LA) (g:Nat) (c:Bool) (e:Int) (i f:LA) (q3:Int→Bool→LA→O R) (r:Int) (s:Bool) (t:LA):O R :=
 (At .i64 (i.drop 20) fun ak=>(Bc N 20 ak 1 48 s t (fun z aa=>(At .i64 (i.drop 19) fun al=>(cond ((al != 1)==false) (At .i64 (i.drop 20) fun am=>(At .i64 (i.drop 12) fun an=>(A1 N (cond false true (decide (am≤an))) 20 3 z aa (fun ao ap=>(q3 r ao ap))))) (A1 N true 20 3 z aa (fun aq ar=>(q3 r aq ar))))))))
def bB (k0:Int→Int→Bool→LA→O R) (r0:Bool→LA→O R) (b:LA) (g:Nat) (c:Bool) (e:Int) (i f:LA) (r:Int) (s:Bool) (t:LA):O R:=(RN N k0 r0 b g c e i f (fun u v w=>(bA N k0 r0 b g c e i f u v w)) r s t)
def RO (k0:Int→Int→Bool→LA→O R) (r0:Bool→LA→O R) (b:LA) (g:Nat) (c:Bool) (e:Int) (f:LA) (q2:Int→Bool→LA→O R) (o:Int) (p:Bool) (q i:LA):O R :=
 (At .i64 (i.drop 19) fun au=>(cond ((au != 1)==false) (At .i64 (i.drop 12) fun av=>(A1 N (cond false true (av != 0)) 19 16 p q (fun aw ax=>(q2 o aw ax)))) (A1 N true 19 16 p q (fun ay az=>(q2 o ay az)))))
def IP (k0:Int→Int→Bool→LA→O R) (r0:Bool→LA→O R) (b:LA) (g:Nat) (c:Bool) (e:Int) (f:LA) (o:Int) (p:Bool) (q i:LA):O R:=(RO N k0 r0 b g c e f (fun r s t=>(bB N k0 r0 b g c e i f r s t)) o p q i)
def CH (r0:Bool→LA→O R) (b:LA) (g:Nat) (c:Bool) (f:LA) (k0:Int→Int→Bool→LA→O R) (q1:Int→Bool→LA→LA→O R) (e d:Int) (l:Bool) (m:LA):O R :=
 (cond (decide (d<e)) (cond (Ah d g) (cond (Nat.ble 22 ((b.drop ((d.toNat)*22)).length)) (cond ((Nat.beq 0 0)&&((Nat.beq (((b.drop ((d.toNat)*22)).take 22).length) 22)&&(Nat.beq 22 22))) (U' N 3 d l m (fun ba bb=>(BT ((b.drop ((d.toNat)*22)).take 22) fun bc=>(Wt N bc ba bb (fun bd be=>(At .i64 (((b.drop ((d.toNat)*22)).take 22).drop 1) fun bf=>(RI N 1 bf bd be (fun bg bh=>(At .i64 (((b.drop ((d.toNat)*22)).take 22).drop 2) fun bi=>(Bc N 2 bi 0 1048576 bg bh (fun bj bk=>(At .i64 (((b.drop ((d.toNat)*22)).take 22).drop 3) fun bl=>(At .i64 (((b.drop ((d.toNat)*22)).take 22).drop 2) fun bm=>(Bc N 3 bl bm 1048576 bj bk (fun bn bo=>(cond (Nat.ble 22 (((b.drop ((d.toNat)*22)).take 22).length)) (Pi N (((b.drop ((d.toNat)*22)).take 22).take 22) c bn bo (fun bp bq=>(At .i64 (((b.drop ((d.toNat)*22)).take 22).drop 5) fun br=>(Bc N 5 br 0 1048576 bp bq (fun bs bt=>(At .i64 (((b.drop ((d.toNat)*22)).take 22).drop 6) fun bu=>(Bc N 6 bu 0 1048576 bs bt (fun bv bw=>(At .i64 (((b.drop ((d.toNat)*22)).take 22).drop 7) fun bx=>(Bc N 7 bx 0 1048576 bv bw (fun bz ca=>(At .i64 (((b.drop ((d.toNat)*22)).take 22).drop 8) fun cb=>(At .i64 (((b.drop ((d.toNat)*22)).take 22).drop 2) fun cc=>(At .i64 (((b.drop ((d.toNat)*22)).take 22).drop 3) fun cd=>(Bc N 8 cb cc cd bz ca (fun ce cf=>(At .i64 (((b.drop ((d.toNat)*22)).take 22).drop 9) fun cg=>(At .i64 (((b.drop ((d.toNat)*22)).take 22).drop 2) fun ch=>(At .i64 (((b.drop ((d.toNat)*22)).take 22).drop 3) fun ci=>(Bc N 9 cg ch ci ce cf (fun cj ck=>(At .i64 (((b.drop ((d.toNat)*22)).take 22).drop 10) fun cl=>(Bc N 10 cl 0 24 cj ck (fun cm cn=>(At .i64 (((b.drop ((d.toNat)*22)).take 22).drop 11) fun co=>(Bc N 11 co 0 24 cm cn (fun cp cq=>(At .i64 (((b.drop ((d.toNat)*22)).take 22).drop 12) fun cr=>(Bc N 12 cr 0 24 cp cq (fun cs ct=>(At .i64 (((b.drop ((d.toNat)*22)).take 22).drop 13) fun cu=>(Bc N 13 cu 0 1048576 cs ct (fun cv cw=>(At .i64 (((b.drop ((d.toNat)*22)).take 22).drop 14) fun cx=>(Bc N 14 cx 0 1048576 cv cw (fun cy cz=>(At .i64 (((b.drop ((d.toNat)*22)).take 22).drop 15) fun da=>(Bc N 15 da 0 24 cy cz (fun db dc=>(At .i64 (((b.drop ((d.toNat)*22)).take 22).drop 16) fun dd=>(Bc N 16 dd 0 1048576 db dc (fun de df=>(At .i64 (((b.drop ((d.toNat)*22)).take 22).drop 17) fun dg=>(Bc N 17 dg 0 1048576 de df (fun dh di=>(Bw 1 (((b.drop ((d.toNat)*22)).take 22).drop 18) fun dj dk=>(RK N 18 dj dk false c dh di (fun x y=>(At .i64 (((b.drop ((d.toNat)*22)).take 22).drop 19) fun dl=>(cond ((dl==0)==false) (At .i64 (((b.drop ((d.toNat)*22)).take 22).drop 19) fun dm=>(cond ((cond false true (dm==1))==false) (At .i64 (((b.drop ((d.toNat)*22)).take 22).drop 19) fun dn=>(A1 N (cond false true (dn==2)) 19 12 x y (fun dp dq=>(q1 d dp dq ((b.drop ((d.toNat)*22)).take 22))))) (A1 N true 19 12 x y (fun dr ds=>(q1 d dr ds ((b.drop ((d.toNat)*22)).take 22)))))) (A1 N true 19 12 x y (fun dt du=>(q1 d dt du ((b.drop ((d.toNat)*22)).take 22)))))))))))))))))))))))))))))))))))))))))))))))))))))) none)))))))))))))))) none) none) none) (r0 l m))
def Lt (r0:Bool→LA→O R) (b:LA) (g:Nat) (c:Bool) (f:LA):Nat→Int→Int→Bool→LA→O R
 | 0,_,_,_,_=>none
 | n+1,e,d,l,m=>(CH N r0 b g c f (Lt r0 b g c f n) (fun o p q i=>(IP N (Lt r0 b g c f n) r0 b g c e f o p q i)) e d l m)
def eM (N:Nat) (r0:Bool→LA→O R) (q0:LA→Nat→Int→Int→Bool→LA→O R) (c:Bool) (f:LA):O R :=
 (Bw 22 (f.drop 4) fun b g=>(q0 b g ((g:Nat):Int) 0 c f))
def FR:=(Ai (fun (N:Nat) (c:Bool) (f:LA) (r0:Bool→LA→O R)=>(eM N r0 (fun b g e d l m=>(Lt N r0 b g c f N e d l m)) c f))).1
theorem nF (c f r0):(@FR R N c f r0)=(eM N r0 (fun b g e d l m=>(Lt N r0 b g c f N e d l m)) c f):=by rw[FR,(Ai _).2]
def tQ:Hints:={ H:=(hS hL (hS hL (hS (hP [1,8,9,10] (hS hL (hS hL (hS (hS (hS hL (hS hL (hS hL (hS hL (hS hL (hS hL (hS hL (hS hL (hS hL (hS hL (hS hL (hS hL (hS hL (hS hL (hS hL (hS hL (hS hL (hS hL (hS hL (hS hL (hS hL (hJ [1,3,8,9,10] hL (hJ [1,3,8,9,10] hL (hS hL (hJ [1,3,8,9,10] hL hL))))))))))))))))))))))))) hL) hL)))) hL))) }
def zw:Gm:=[(233,Zj N),(237,Ade N),(240,eI N),(234,Hb N),(244,zt N),(242,zi N),(236,C9 N)]
def IQ (F:KF R):=Ki Tryz.f174 tQ (zw N) [100000] N F
def Gi (F:KF R):Bool→LA→O R:=(fun dv dw=>F (.tup []) [(100000,(bP dv 0 dw))])
def Apy (b:LA) (g:Nat) (c:Bool) (e:Int) (i f:LA) (u:Int) (v:Bool) (w:LA):St:=⟨[(1,(op 0)),(3,(op 1)),(8,(.imm b g 22 false c)),(9,(iv e)),(10,(iv u))],[(100000,(bP v 0 w)),(300000,(bN 0 [(.optr 100000 0)])),(300001,(bP c 0 i))]⟩
def Apz (F:KF R) (Q0:St→O R):=IQ N F [1,1,0,0,1,1,0,0,1,1,1,1,1,1,1,1,1,1,1,1,1,1,1,1,1,1,1,1,1,1,1,1,1] [Q0]
def Ap0 (b:LA) (g:Nat) (c:Bool) (e:Int) (i f:LA) (r:Int) (s:Bool) (t:LA):St:=⟨[(1,(op 0)),(3,(op 1)),(8,(.imm b g 22 false c)),(9,(iv e)),(10,(iv r))],[(100000,(bP s 0 t)),(300000,(bN 0 [(.optr 100000 0)])),(300001,(bP c 0 i))]⟩
def Ap1 (F:KF R) (Q0:St→O R):=IQ N F [1,1,0,0,1,1,0,0,1,1,1,1,1,1,1,1,1,1,1,1,1,1,1,1,1,1,1,1,1,1,1] [Q0]
def Ap2 (b:LA) (g:Nat) (c:Bool) (e:Int) (f:LA) (o:Int) (p:Bool) (q i:LA):St:=⟨[(1,(op 0)),(3,(op 1)),(8,(.imm b g 22 false c)),(9,(iv e)),(10,(iv o))],[(100000,(bP p 0 q)),(300000,(bN 0 [(.optr 100000 0)])),(300001,(bP c 0 i))]⟩
def Ap3 (F:KF R) (Q0:St→O R):=IQ N F [1,1,0,0,1,1,0,0,1,1,1,1,1,1,1,1,1,1,1,1,1,1,1,1,1,1,1,1,1,1] [Q0]
def Tj (b:LA) (g:Nat) (c:Bool) (f:LA) (e d:Int) (l:Bool) (m:LA):St:=⟨[(1,(op 0)),(8,(.imm b g 22 false c)),(9,(iv e)),(10,(iv d))],[(100000,(bP l 0 m)),(300000,(bN 0 [(.optr 100000 0)]))]⟩
def tR (F:KF R):=IQ N F [1,1,0] []
theorem zx (Q0:St→O R) (F:KF R) (b:LA) (g:Nat) (c:Bool) (e:Int) (i f:LA):∀ (u:Int) (v:Bool) (w:LA),B8 (Apz N F Q0) (Apy b g c e i f u v w)=(bA N (fun e d l m=>Q0 (Tj b g c f e d l m)) (Gi F) b g c e i f u v w):=by
 intro u v w
 kernel_rfl
theorem zy (Q0:St→O R) (F:KF R) (b:LA) (g:Nat) (c:Bool) (e:Int) (i f:LA):∀ (r:Int) (s:Bool) (t:LA),B8 (Ap1 N F Q0) (Ap0 b g c e i f r s t)=(bB N (fun e d l m=>Q0 (Tj b g c f e d l m)) (Gi F) b g c e i f r s t):=by
 intro r s t
 exact Eq.trans (by kernel_rfl) (Bv (RN N (fun e d l m=>Q0 (Tj b g c f e d l m)) (Gi F) b g c e i f · r s t) (funext fun u=>funext fun v=>funext fun w=>(A2 ..).trans (zx N Q0 F b g c e i f u v w)):_)
theorem Aaa (Q0:St→O R) (F:KF R) (b:LA) (g:Nat) (c:Bool) (e:Int) (f:LA):∀ (o:Int) (p:Bool) (q i:LA),B8 (Ap3 N F Q0) (Ap2 b g c e f o p q i)=(IP N (fun e d l m=>Q0 (Tj b g c f e d l m)) (Gi F) b g c e f o p q i):=by
 intro o p q i
 exact Eq.trans (by kernel_rfl) (Bv (RO N (fun e d l m=>Q0 (Tj b g c f e d l m)) (Gi F) b g c e f · o p q i) (funext fun r=>funext fun s=>funext fun t=>(A2 ..).trans (zy N Q0 F b g c e i f r s t)):_)
theorem bC (F:KF R) (b:LA) (g:Nat) (c:Bool) (f:LA):∀ (n:Nat) (e d:Int) (l:Bool) (m:LA),Ak (tR N F) n (Tj b g c f e d l m)=(Lt N (Gi F) b g c f n e d l m)
 | 0,_,_,_,_=>by kernel_rfl
 | n+1,e,d,l,m=>have e0:=(funext fun e=>funext fun d=>funext fun l=>funext fun m=>(bC F b g c f n e d l m))
  Eq.trans (by kernel_rfl) (PQ (CH N (Gi F) b g c f · · e d l m) e0 (funext fun o=>funext fun p=>funext fun q=>funext fun i=>(A2 ..).trans ((Aaa N (Ak (tR N F) n) F b g c e f o p q i).trans (Bv (IP N · (Gi F) b g c e f o p q i) e0))):_)
theorem tS (c:Bool) (f:LA) (F:KF R):C7 (zw N) tQ N 174 [(.optr 100000 0)] [(100000,(bP c 0 f))] F=(FR N c f (Gi F)):=by
 rw[nF]
 exact Eq.trans (by kernel_rfl) (Bv (eM N (Gi F) · c f) (funext fun b=>funext fun g=>funext fun e=>funext fun d=>funext fun l=>funext fun m=>(Ac ..).trans (bC N F b g c f N e d l m)):_)
def nG (a:LA) (h:Aj) (k:KF R):O R :=
 match a,h with
 | [(.optr 100000 0)],[(100000,⟨false,false,true,c,0,f,false,none⟩)]=>(FR N c f (Gi k))
 | _,_=>none
theorem tT:An N 174 @nG:=by
 intro R Q a h k j;unfold nG;split;exact A3 (tS ..) (tS ..) ⟨Zk N,Adf N,eJ N,Hc N,zu N,zj N,Da N,trivial⟩;exact A5
def Ap4:=A4 (tT N)
def Ap5:=C8 (tT N)
def FS (N:Nat) (d:Int) (c:Bool) (b:LA) (r0:List UInt8→O R):O R :=
 (Bw 9 (b.drop 5) fun e f=>(cond (Ah d f) (BT (e.drop ((d.toNat)*9)) fun g=>(r0 g)) none))
def Ri:=(Ai (@FS R)).1
theorem IR:@Ri R=@FS R:=(Ai _).2
def NU (c:Bool) (b:LA) (F:KF R):List UInt8→O R:=(fun i=>F (.str i) [(100000,(bN 0 [(.optr 100001 0)])),(100001,(bP c 0 b))])
theorem NV (d:Int) (c:Bool) (b:LA) (F:KF R):C7 [] Dx N 245 [(iv d),(.optr 100000 0)] [(100000,(bN 0 [(.optr 100001 0)])),(100001,(bP c 0 b))] F=(Ri N d c b (NU c b F)):=by
 rw[IR]
 kernel_rfl
def IS (a:LA) (h:Aj) (k:KF R):O R :=
 match a,h with
 | [(.int .i64 d),(.optr 100000 0)],[(100000,⟨false,false,false,false,0,[(.optr 100001 0)],false,none⟩),(100001,⟨false,false,true,c,0,b,false,none⟩)]=>(Ri N d c b (NU c b k))
 | _,_=>none
theorem NW:An N 245 @IS:=by
 intro R Q a h k j;unfold IS;split;exact A3 (NV ..) (NV ..) trivial;exact A5
def qR:=A4 (NW N)
def qS:=C8 (NW N)
def Pj (r0:Bool→LA→O R) (b:List UInt8) (f:Int) (k0:Int→Bool→LA→O R) (e:Int) (d:Bool) (c:LA):O R :=
 (cond (decide (e<f)) (At .i64 (c.drop 11) fun m=>(cond (m != 0) (r0 d c) (Ri N e d c (fun o=>(A1 N (!(o==b)) 0 10 d c (fun p q=>(k0 (wrap .i64 (e+1)) p q))))))) (r0 d c))
def Hk (r0:Bool→LA→O R) (b:List UInt8) (f:Int):Nat→Int→Bool→LA→O R
 | 0,_,_,_=>none
 | n+1,e,d,c=>(Pj N r0 b f (Hk r0 b f n) e d c)
def IT (r0:Bool→LA→O R) (q0:Int→Int→Bool→LA→O R) (b:List UInt8) (g:Bool) (i:LA):O R :=
 (Up N b (fun r=>(A1 N r 0 9 g i (fun s l=>(At .i64 (l.drop 9) fun f=>(q0 f 0 s l))))))
def Wu:=(Ai (fun (N:Nat) (b:List UInt8) (g:Bool) (i:LA) (r0:Bool→LA→O R)=>(IT N r0 (fun f e d c=>(Hk N r0 b f N e d c)) b g i))).1
theorem bD (b g i r0):(@Wu R N b g i r0)=(IT N r0 (fun f e d c=>(Hk N r0 b f N e d c)) b g i):=by rw[Wu,(Ai _).2]
def nH:Gm:=[(284,Wq N),(236,C9 N),(245,qR N)]
def Adg (F:KF R):=Ki Tryz.f237 SQ (nH N) [100000,100001] N F
def Rj (F:KF R):Bool→LA→O R:=(fun t u=>F (.tup []) [(100000,(bP t 0 u)),(100001,(bN 0 [(.optr 100000 0)]))])
def Adh (b:List UInt8) (f e:Int) (d:Bool) (c:LA):St:=⟨[(0,(.optr 100000 0)),(1,(.str b)),(2,(.fn 245 [(.optr 100001 0)])),(15,(iv f)),(16,(iv e))],[(100000,(bP d 0 c)),(100001,(bN 0 [(.optr 100000 0)]))]⟩
def Adi (F:KF R):=Adg N F [1,1,0] []
theorem NX (F:KF R) (b:List UInt8) (f:Int):∀ (n:Nat) (e:Int) (d:Bool) (c:LA),Ak (Adi N F) n (Adh b f e d c)=(Hk N (Rj F) b f n e d c)
 | 0,_,_,_=>by kernel_rfl
 | n+1,e,d,c=>Eq.trans (by kernel_rfl) (Bv (Pj N (Rj F) b f · e d c) (funext fun e=>funext fun d=>funext fun c=>(NX F b f n e d c)):_)
theorem hU (b:List UInt8) (g:Bool) (i:LA) (F:KF R):C7 (nH N) SQ N 237 [(.optr 100000 0),(.str b),(.fn 245 [(.optr 100001 0)])] [(100000,(bP g 0 i)),(100001,(bN 0 [(.optr 100000 0)]))] F=(Wu N b g i (Rj F)):=by
 rw[bD]
 exact Eq.trans (by kernel_rfl) (Bv (IT N (Rj F) · b g i) (funext fun f=>funext fun e=>funext fun d=>funext fun c=>(Ac ..).trans (NX N F b f N e d c)):_)
def bE (a:LA) (h:Aj) (k:KF R):O R :=
 match a,h with
 | [(.optr 100000 0),(.str b),(.fn 245 [(.optr 100001 0)])],[(100000,⟨false,false,true,g,0,i,false,none⟩),(100001,⟨false,false,false,false,0,[(.optr 100000 0)],false,none⟩)]=>(Wu N b g i (Rj k))
 | _,_=>none
theorem hY:An N 237 @bE:=by
 intro R Q a h k j;unfold bE;split;exact A3 (hU ..) (hU ..) ⟨Wr N,Da N,qS N,trivial⟩;exact A5
def Adj:=A4 (hY N)
def Adk:=C8 (hY N)
def X8 (r0:Bool→LA→O R) (c:LA) (f:Nat) (d:Bool) (k0:Int→Int→Bool→LA→O R) (e b:Int) (g:Bool) (i:LA):O R :=
 (cond (decide (b<e)) (cond (Ah b f) (cond (Nat.ble 9 ((c.drop ((b.toNat)*9)).length)) (cond ((Nat.beq 0 0)&&((Nat.beq (((c.drop ((b.toNat)*9)).take 9).length) 9)&&(Nat.beq 9 9))) (U' N 4 b g i (fun p q=>(BT ((c.drop ((b.toNat)*9)).take 9) fun r=>(Wu N r p q (fun s t=>(At .i64 (((c.drop ((b.toNat)*9)).take 9).drop 1) fun u=>(RI N 1 u s t (fun v w=>(At .i64 (((c.drop ((b.toNat)*9)).take 9).drop 2) fun x=>(Bc N 2 x 0 1048576 v w (fun y z=>(At .i64 (((c.drop ((b.toNat)*9)).take 9).drop 3) fun aa=>(At .i64 (((c.drop ((b.toNat)*9)).take 9).drop 2) fun ab=>(Bc N 3 aa 0 ab y z (fun ac ad=>(At .i64 (((c.drop ((b.toNat)*9)).take 9).drop 4) fun ae=>(At .i64 (((c.drop ((b.toNat)*9)).take 9).drop 2) fun af=>(Bc N 4 ae 0 af ac ad (fun ag ah=>(At .i64 (((c.drop ((b.toNat)*9)).take 9).drop 5) fun ai=>(Bc N 5 ai 0 1048576 ag ah (fun aj ak=>(At .i64 (((c.drop ((b.toNat)*9)).take 9).drop 6) fun al=>(Bc N 6 al 0 1048576 aj ak (fun m o=>(cond (Nat.ble 2 ((((c.drop ((b.toNat)*9)).take 9).drop 7).length)) (cond ((!d)||(A0 ((((c.drop ((b.toNat)*9)).take 9).drop 7).take 2))) (cond ((Nat.beq (((((c.drop ((b.toNat)*9)).take 9).drop 7).take 2).length) 2)&&((Nat.ble 2 2)&&(!false))) (cond (Nat.ble 2 ((setCells [(.int .i64 0),(.int .i64 0)] 0 ((((c.drop ((b.toNat)*9)).take 9).drop 7).take 2)).length)) (Zn N ((setCells [(.int .i64 0),(.int .i64 0)] 0 ((((c.drop ((b.toNat)*9)).take 9).drop 7).take 2)).take 2) false (fun am=>(cond (am==true) (At .i64 (setCells [(.int .i64 0),(.int .i64 0)] 0 ((((c.drop ((b.toNat)*9)).take 9).drop 7).take 2)) fun an=>(cond ((cond true (decide (an>0)) false)==true) (At .i64 (setCells [(.int .i64 0),(.int .i64 0)] 0 ((((c.drop ((b.toNat)*9)).take 9).drop 7).take 2)) fun ao=>(At .i64 ((setCells [(.int .i64 0),(.int .i64 0)] 0 ((((c.drop ((b.toNat)*9)).take 9).drop 7).take 2)).drop 1) fun ap=>(A1 N (cond true (decide (ao≤ap)) false) 7 3 m o (fun aq ar=>(k0 e (wrap .i64 (b+1)) aq ar))))) (A1 N false 7 3 m o (fun au av=>(k0 e (wrap .i64 (b+1)) au av))))) (A1 N false 7 3 m o (fun aw ax=>(k0 e (wrap .i64 (b+1)) aw ax)))))) none) none) none) none)))))))))))))))))))))))))) none) none) none) (r0 g i))
def Mx (r0:Bool→LA→O R) (c:LA) (f:Nat) (d:Bool):Nat→Int→Int→Bool→LA→O R
 | 0,_,_,_,_=>none
 | n+1,e,b,g,i=>(X8 N r0 c f d (Mx r0 c f d n) e b g i)
def RP (N:Nat) (r0:Bool→LA→O R) (q0:LA→Nat→Int→Int→Bool→LA→O R) (d:Bool) (l:LA):O R :=
 (Bw 9 (l.drop 5) fun c f=>(q0 c f ((f:Nat):Int) 0 d l))
def Wv:=(Ai (fun (N:Nat) (d:Bool) (l:LA) (r0:Bool→LA→O R)=>(RP N r0 (fun c f e b g i=>(Mx N r0 c f d N e b g i)) d l))).1
theorem hZ (d l r0):(@Wv R N d l r0)=(RP N r0 (fun c f e b g i=>(Mx N r0 c f d N e b g i)) d l):=by rw[Wv,(Ai _).2]
def nI:Hints:={ H:=(hS hL (hS hL (hS (hP [1,9,10,11] hL) hL))) }
def tU:Gm:=[(233,Zj N),(237,Adj N),(240,eI N),(234,Hb N),(241,tI N),(236,C9 N)]
def Akk (F:KF R):=Ki Tryz.f175 nI (tU N) [100000] N F
def Ut (F:KF R):Bool→LA→O R:=(fun ay az=>F (.tup []) [(100000,(bP ay 0 az))])
def Akl (c:LA) (f:Nat) (d:Bool) (e b:Int) (g:Bool) (i:LA):St:=⟨[(1,(op 0)),(9,(.imm c f 9 false d)),(10,(iv e)),(11,(iv b))],[(100000,(bP g 0 i)),(300000,(bN 0 [(.optr 100000 0)]))]⟩
def Akm (F:KF R):=Akk N F [1,1,0] []
theorem VO (F:KF R) (c:LA) (f:Nat) (d:Bool):∀ (n:Nat) (e b:Int) (g:Bool) (i:LA),Ak (Akm N F) n (Akl c f d e b g i)=(Mx N (Ut F) c f d n e b g i)
 | 0,_,_,_,_=>by kernel_rfl
 | n+1,e,b,g,i=>Eq.trans (by kernel_rfl) (Bv (X8 N (Ut F) c f d · e b g i) (funext fun e=>funext fun b=>funext fun g=>funext fun i=>(VO F c f d n e b g i)):_)
theorem nK (d:Bool) (l:LA) (F:KF R):C7 (tU N) nI N 175 [(.optr 100000 0)] [(100000,(bP d 0 l))] F=(Wv N d l (Ut F)):=by
 rw[hZ]
 exact Eq.trans (by kernel_rfl) (Bv (RP N (Ut F) · d l) (funext fun c=>funext fun f=>funext fun e=>funext fun b=>funext fun g=>funext fun i=>(Ac ..).trans (VO N F c f d N e b g i)):_)
def h_ (a:LA) (h:Aj) (k:KF R):O R :=
 match a,h with
 | [(.optr 100000 0)],[(100000,⟨false,false,true,d,0,l,false,none⟩)]=>(Wv N d l (Ut k))
 | _,_=>none
theorem nL:An N 175 @h_:=by
 intro R Q a h k j;unfold h_;split;exact A3 (nK ..) (nK ..) ⟨Zk N,Adk N,eJ N,Hc N,tJ N,Da N,trivial⟩;exact A5
def Akn:=A4 (nL N)
def Ako:=C8 (nL N)
def RQ (N:Nat) (d:Int) (c:Bool) (b:LA) (r0:List UInt8→O R):O R :=
 (Bw 5 (b.drop 6) fun e f=>(cond (Ah d f) (BT (e.drop ((d.toNat)*5)) fun g=>(r0 g)) none))
def Zo:=(Ai (@RQ R)).1
theorem VP:@Zo R=@RQ R:=(Ai _).2
def bF (c:Bool) (b:LA) (F:KF R):List UInt8→O R:=(fun i=>F (.str i) [(100000,(bN 0 [(.optr 100001 0)])),(100001,(bP c 0 b))])
theorem bG (d:Int) (c:Bool) (b:LA) (F:KF R):C7 [] Dx N 246 [(iv d),(.optr 100000 0)] [(100000,(bN 0 [(.optr 100001 0)])),(100001,(bP c 0 b))] F=(Zo N d c b (bF c b F)):=by
 rw[VP]
 kernel_rfl
def VQ (a:LA) (h:Aj) (k:KF R):O R :=
 match a,h with
 | [(.int .i64 d),(.optr 100000 0)],[(100000,⟨false,false,false,false,0,[(.optr 100001 0)],false,none⟩),(100001,⟨false,false,true,c,0,b,false,none⟩)]=>(Zo N d c b (bF c b k))
 | _,_=>none
theorem bH:An N 246 @VQ:=by
 intro R Q a h k j;unfold VQ;split;exact A3 (bG ..) (bG ..) trivial;exact A5
def Aab:=A4 (bH N)
def Aac:=C8 (bH N)
def Pk (r0:Bool→LA→O R) (b:List UInt8) (f:Int) (k0:Int→Bool→LA→O R) (e:Int) (d:Bool) (c:LA):O R :=
 (cond (decide (e<f)) (At .i64 (c.drop 11) fun m=>(cond (m != 0) (r0 d c) (Zo N e d c (fun o=>(A1 N (!(o==b)) 0 10 d c (fun p q=>(k0 (wrap .i64 (e+1)) p q))))))) (r0 d c))
def Hl (r0:Bool→LA→O R) (b:List UInt8) (f:Int):Nat→Int→Bool→LA→O R
 | 0,_,_,_=>none
 | n+1,e,d,c=>(Pk N r0 b f (Hl r0 b f n) e d c)
def IU (r0:Bool→LA→O R) (q0:Int→Int→Bool→LA→O R) (b:List UInt8) (g:Bool) (i:LA):O R :=
 (Up N b (fun r=>(A1 N r 0 9 g i (fun s l=>(At .i64 (l.drop 9) fun f=>(q0 f 0 s l))))))
def Ww:=(Ai (fun (N:Nat) (b:List UInt8) (g:Bool) (i:LA) (r0:Bool→LA→O R)=>(IU N r0 (fun f e d c=>(Hl N r0 b f N e d c)) b g i))).1
theorem bI (b g i r0):(@Ww R N b g i r0)=(IU N r0 (fun f e d c=>(Hl N r0 b f N e d c)) b g i):=by rw[Ww,(Ai _).2]
def nM:Gm:=[(284,Wq N),(236,C9 N),(246,Aab N)]
def Adl (F:KF R):=Ki Tryz.f237 SQ (nM N) [100000,100001] N F
def Rk (F:KF R):Bool→LA→O R:=(fun t u=>F (.tup []) [(100000,(bP t 0 u)),(100001,(bN 0 [(.optr 100000 0)]))])
def Adm (b:List UInt8) (f e:Int) (d:Bool) (c:LA):St:=⟨[(0,(.optr 100000 0)),(1,(.str b)),(2,(.fn 246 [(.optr 100001 0)])),(15,(iv f)),(16,(iv e))],[(100000,(bP d 0 c)),(100001,(bN 0 [(.optr 100000 0)]))]⟩
def Adn (F:KF R):=Adl N F [1,1,0] []
theorem NY (F:KF R) (b:List UInt8) (f:Int):∀ (n:Nat) (e:Int) (d:Bool) (c:LA),Ak (Adn N F) n (Adm b f e d c)=(Hl N (Rk F) b f n e d c)
 | 0,_,_,_=>by kernel_rfl
 | n+1,e,d,c=>Eq.trans (by kernel_rfl) (Bv (Pk N (Rk F) b f · e d c) (funext fun e=>funext fun d=>funext fun c=>(NY F b f n e d c)):_)
theorem iA (b:List UInt8) (g:Bool) (i:LA) (F:KF R):C7 (nM N) SQ N 237 [(.optr 100000 0),(.str b),(.fn 246 [(.optr 100001 0)])] [(100000,(bP g 0 i)),(100001,(bN 0 [(.optr 100000 0)]))] F=(Ww N b g i (Rk F)):=by
 rw[bI]
 exact Eq.trans (by kernel_rfl) (Bv (IU N (Rk F) · b g i) (funext fun f=>funext fun e=>funext fun d=>funext fun c=>(Ac ..).trans (NY N F b f N e d c)):_)
def bJ (a:LA) (h:Aj) (k:KF R):O R :=
 match a,h with
 | [(.optr 100000 0),(.str b),(.fn 246 [(.optr 100001 0)])],[(100000,⟨false,false,true,g,0,i,false,none⟩),(100001,⟨false,false,false,false,0,[(.optr 100000 0)],false,none⟩)]=>(Ww N b g i (Rk k))
 | _,_=>none
theorem iB:An N 237 @bJ:=by
 intro R Q a h k j;unfold bJ;split;exact A3 (iA ..) (iA ..) ⟨Wr N,Da N,Aac N,trivial⟩;exact A5
def Ado:=A4 (iB N)
def Adp:=C8 (iB N)
def IV (r0:Bool→LA→O R) (d:LA) (e:Nat) (b:Bool) (k0:Int→Int→Bool→LA→O R) (f c:Int) (g:Bool) (i:LA):O R :=
 (cond (decide (c<f)) (cond (Ah c e) (cond (Nat.ble 5 ((d.drop ((c.toNat)*5)).length)) (cond ((Nat.beq 0 0)&&((Nat.beq (((d.drop ((c.toNat)*5)).take 5).length) 5)&&(Nat.beq 5 5))) (U' N 5 c g i (fun m o=>(BT ((d.drop ((c.toNat)*5)).take 5) fun p=>(Ww N p m o (fun q r=>(At .i64 (((d.drop ((c.toNat)*5)).take 5).drop 1) fun s=>(RI N 1 s q r (fun t u=>(Bw 1 (((d.drop ((c.toNat)*5)).take 5).drop 2) fun v w=>(Nr N 2 v w false b 0 1048576 t u (fun x y=>(Bw 1 (((d.drop ((c.toNat)*5)).take 5).drop 3) fun z aa=>(Nr N 3 z aa false b 0 1048576 x y (fun ab ac=>(Bw 1 (((d.drop ((c.toNat)*5)).take 5).drop 4) fun ad ae=>(Nr N 4 ad ae false b (-1048576) 1048576 ab ac (fun af ag=>(k0 f (wrap .i64 (c+1)) af ag)))))))))))))))))) none) none) none) (r0 g i))
def So (r0:Bool→LA→O R) (d:LA) (e:Nat) (b:Bool):Nat→Int→Int→Bool→LA→O R
 | 0,_,_,_,_=>none
 | n+1,f,c,g,i=>(IV N r0 d e b (So r0 d e b n) f c g i)
def nN (N:Nat) (r0:Bool→LA→O R) (q0:LA→Nat→Int→Int→Bool→LA→O R) (b:Bool) (l:LA):O R :=
 (Bw 5 (l.drop 6) fun d e=>(q0 d e ((e:Nat):Int) 0 b l))
def RR:=(Ai (fun (N:Nat) (b:Bool) (l:LA) (r0:Bool→LA→O R)=>(nN N r0 (fun d e f c g i=>(So N r0 d e b N f c g i)) b l))).1
theorem tV (b l r0):(@RR R N b l r0)=(nN N r0 (fun d e f c g i=>(So N r0 d e b N f c g i)) b l):=by rw[RR,(Ai _).2]
def Aad:Hints:={ H:=(hS hL (hS hL (hS (hP [1,8,9,10] hL) hL))) }
def Agr:Gm:=[(233,Zj N),(237,Ado N),(240,eI N),(235,RF N)]
def Auy (F:KF R):=Ki Tryz.f176 Aad (Agr N) [100000] N F
def FT (F:KF R):Bool→LA→O R:=(fun ah ai=>F (.tup []) [(100000,(bP ah 0 ai))])
def Auz (d:LA) (e:Nat) (b:Bool) (f c:Int) (g:Bool) (i:LA):St:=⟨[(1,(op 0)),(8,(.imm d e 5 false b)),(9,(iv f)),(10,(iv c))],[(100000,(bP g 0 i)),(300000,(bN 0 [(.optr 100000 0)]))]⟩
def Au0 (F:KF R):=Auy N F [1,1,0] []
theorem iC (F:KF R) (d:LA) (e:Nat) (b:Bool):∀ (n:Nat) (f c:Int) (g:Bool) (i:LA),Ak (Au0 N F) n (Auz d e b f c g i)=(So N (FT F) d e b n f c g i)
 | 0,_,_,_,_=>by kernel_rfl
 | n+1,f,c,g,i=>Eq.trans (by kernel_rfl) (Bv (IV N (FT F) d e b · f c g i) (funext fun f=>funext fun c=>funext fun g=>funext fun i=>(iC F d e b n f c g i)):_)
theorem Aae (b:Bool) (l:LA) (F:KF R):C7 (Agr N) Aad N 176 [(.optr 100000 0)] [(100000,(bP b 0 l))] F=(RR N b l (FT F)):=by
 rw[tV]
 exact Eq.trans (by kernel_rfl) (Bv (nN N (FT F) · b l) (funext fun d=>funext fun e=>funext fun f=>funext fun c=>funext fun g=>funext fun i=>(Ac ..).trans (iC N F d e b N f c g i)):_)
def tW (a:LA) (h:Aj) (k:KF R):O R :=
 match a,h with
 | [(.optr 100000 0)],[(100000,⟨false,false,true,b,0,l,false,none⟩)]=>(RR N b l (FT k))
 | _,_=>none
theorem Aaf:An N 176 @tW:=by
 intro R Q a h k j;unfold tW;split;exact A3 (Aae ..) (Aae ..) ⟨Zk N,Adp N,eJ N,RG N,trivial⟩;exact A5
def Au1:=A4 (Aaf N)
def Au2:=C8 (Aaf N)
def AB (N:Nat) (d:Int) (c:Bool) (b:LA) (r0:List UInt8→O R):O R :=
 (Bw 4 (b.drop 7) fun e f=>(cond (Ah d f) (BT (e.drop ((d.toNat)*4)) fun g=>(r0 g)) none))
def Pl:=(Ai (@AB R)).1
theorem FU:@Pl R=@AB R:=(Ai _).2
def IW (c:Bool) (b:LA) (F:KF R):List UInt8→O R:=(fun i=>F (.str i) [(100000,(bN 0 [(.optr 100001 0)])),(100001,(bP c 0 b))])
theorem IX (d:Int) (c:Bool) (b:LA) (F:KF R):C7 [] Dx N 247 [(iv d),(.optr 100000 0)] [(100000,(bN 0 [(.optr 100001 0)])),(100001,(bP c 0 b))] F=(Pl N d c b (IW c b F)):=by
 rw[FU]
 kernel_rfl
def FV (a:LA) (h:Aj) (k:KF R):O R :=
 match a,h with
 | [(.int .i64 d),(.optr 100000 0)],[(100000,⟨false,false,false,false,0,[(.optr 100001 0)],false,none⟩),(100001,⟨false,false,true,c,0,b,false,none⟩)]=>(Pl N d c b (IW c b k))
 | _,_=>none
theorem IY:An N 247 @FV:=by
 intro R Q a h k j;unfold FV;split;exact A3 (IX ..) (IX ..) trivial;exact A5
def nO:=A4 (IY N)
def nP:=C8 (IY N)
end
end Gx

namespace Gx
open Go Go.Proofs
open IntKind (wrap)
set_option maxRecDepth 100000
noncomputable section
variable {R:Type} (N:Nat)
def Pm (r0:Bool→LA→O R) (b:List UInt8) (f:Int) (k0:Int→Bool→LA→O R) (e:Int) (d:Bool) (c:LA):O R :=
 (cond (decide (e<f)) (At .i64 (c.drop 11) fun m=>(cond (m != 0) (r0 d c) (Pl N e d c (fun o=>(A1 N (!(o==b)) 0 10 d c (fun p q=>(k0 (wrap .i64 (e+1)) p q))))))) (r0 d c))
def Hm (r0:Bool→LA→O R) (b:List UInt8) (f:Int):Nat→Int→Bool→LA→O R
 | 0,_,_,_=>none
 | n+1,e,d,c=>(Pm N r0 b f (Hm r0 b f n) e d c)
def IZ (r0:Bool→LA→O R) (q0:Int→Int→Bool→LA→O R) (b:List UInt8) (g:Bool) (i:LA):O R :=
 (Up N b (fun r=>(A1 N r 0 9 g i (fun s l=>(At .i64 (l.drop 9) fun f=>(q0 f 0 s l))))))
def Wx:=(Ai (fun (N:Nat) (b:List UInt8) (g:Bool) (i:LA) (r0:Bool→LA→O R)=>(IZ N r0 (fun f e d c=>(Hm N r0 b f N e d c)) b g i))).1
theorem bK (b g i r0):(@Wx R N b g i r0)=(IZ N r0 (fun f e d c=>(Hm N r0 b f N e d c)) b g i):=by rw[Wx,(Ai _).2]
def nQ:Gm:=[(284,Wq N),(236,C9 N),(247,nO N)]
def Adq (F:KF R):=Ki Tryz.f237 SQ (nQ N) [100000,100001] N F
def Rl (F:KF R):Bool→LA→O R:=(fun t u=>F (.tup []) [(100000,(bP t 0 u)),(100001,(bN 0 [(.optr 100000 0)]))])
def Adr (b:List UInt8) (f e:Int) (d:Bool) (c:LA):St:=⟨[(0,(.optr 100000 0)),(1,(.str b)),(2,(.fn 247 [(.optr 100001 0)])),(15,(iv f)),(16,(iv e))],[(100000,(bP d 0 c)),(100001,(bN 0 [(.optr 100000 0)]))]⟩
def Ads (F:KF R):=Adq N F [1,1,0] []
theorem NZ (F:KF R) (b:List UInt8) (f:Int):∀ (n:Nat) (e:Int) (d:Bool) (c:LA),Ak (Ads N F) n (Adr b f e d c)=(Hm N (Rl F) b f n e d c)
 | 0,_,_,_=>by kernel_rfl
 | n+1,e,d,c=>Eq.trans (by kernel_rfl) (Bv (Pm N (Rl F) b f · e d c) (funext fun e=>funext fun d=>funext fun c=>(NZ F b f n e d c)):_)
theorem iD (b:List UInt8) (g:Bool) (i:LA) (F:KF R):C7 (nQ N) SQ N 237 [(.optr 100000 0),(.str b),(.fn 247 [(.optr 100001 0)])] [(100000,(bP g 0 i)),(100001,(bN 0 [(.optr 100000 0)]))] F=(Wx N b g i (Rl F)):=by
 rw[bK]
 exact Eq.trans (by kernel_rfl) (Bv (IZ N (Rl F) · b g i) (funext fun f=>funext fun e=>funext fun d=>funext fun c=>(Ac ..).trans (NZ N F b f N e d c)):_)
def bL (a:LA) (h:Aj) (k:KF R):O R :=
 match a,h with
 | [(.optr 100000 0),(.str b),(.fn 247 [(.optr 100001 0)])],[(100000,⟨false,false,true,g,0,i,false,none⟩),(100001,⟨false,false,false,false,0,[(.optr 100000 0)],false,none⟩)]=>(Wx N b g i (Rl k))
 | _,_=>none
theorem iE:An N 237 @bL:=by
 intro R Q a h k j;unfold bL;split;exact A3 (iD ..) (iD ..) ⟨Wr N,Da N,nP N,trivial⟩;exact A5
def Adt:=A4 (iE N)
def Adu:=C8 (iE N)
def CI (r0:Bool→LA→O R) (i:LA) (m:Nat) (b:Bool) (k2:Int→Int→Bool→LA→O R) (s f:Int) (t:Bool) (u:LA):O R :=
 (cond (decide (f<s)) (cond (Ah f m) (cond (Nat.ble 3 ((i.drop ((f.toNat)*3)).length)) (cond ((!b)||(A0 ((i.drop ((f.toNat)*3)).take 3))) (cond ((Nat.beq (((i.drop ((f.toNat)*3)).take 3).length) 3)&&((Nat.ble 3 3)&&(!false))) (At .i64 ((setCells [(.int .i64 0),(.int .i64 0),(.int .i64 0)] 0 ((i.drop ((f.toNat)*3)).take 3)).drop 1) fun ab=>(Bc N 3 ab 0 1048576 t u (fun ac ad=>(At .i64 ((setCells [(.int .i64 0),(.int .i64 0),(.int .i64 0)] 0 ((i.drop ((f.toNat)*3)).take 3)).drop 2) fun ae=>(Bc N 3 ae 0 1048576 ac ad (fun af ag=>(k2 s (wrap .i64 (f+1)) af ag))))))) none) none) none) none) (r0 t u))
def Tk (r0:Bool→LA→O R) (i:LA) (m:Nat) (b:Bool):Nat→Int→Int→Bool→LA→O R
 | 0,_,_,_,_=>none
 | n+1,s,f,t,u=>(CI N r0 i m b (Tk r0 i m b n) s f t u)
def CJ (r0:Bool→LA→O R) (g:LA) (o:Nat) (b:Bool) (c:LA) (k1:Nat→Int→Int→Bool→LA→LA→O R) (q2:LA→Nat→Int→Int→Bool→LA→O R) (e:Nat) (p d:Int) (q:Bool) (l r:LA):O R :=
 (cond (decide (d<p)) (cond (Ah d o) (cond (Nat.ble 3 ((g.drop ((d.toNat)*3)).length)) (cond ((!b)||(A0 ((g.drop ((d.toNat)*3)).take 3))) (cond ((Nat.beq (((g.drop ((d.toNat)*3)).take 3).length) 3)&&((Nat.ble 3 3)&&(!false))) (At .i64 (setCells [(.int .i64 0),(.int .i64 0),(.int .i64 0)] 0 ((g.drop ((d.toNat)*3)).take 3)) fun ah=>(cond ((decide (ah≥0))==true) (At .i64 (setCells [(.int .i64 0),(.int .i64 0),(.int .i64 0)] 0 ((g.drop ((d.toNat)*3)).take 3)) fun ai=>(Bw 22 (l.drop 4) fun bf aj=>(A1 N (cond true (decide (ai<((aj:Nat):Int))) false) 3 12 q l (fun ak al=>(At .i64 (setCells [(.int .i64 0),(.int .i64 0),(.int .i64 0)] 0 ((g.drop ((d.toNat)*3)).take 3)) fun am=>(cond ((Nat.ble (e+1) 140737488355328)&&(Nat.ble ((e+1)*8) 140737488355328)) (k1 (e+1) p (wrap .i64 (d+1)) ak al ((r.take (e*1))++[(.int .i64 am)])) none)))))) (A1 N false 3 12 q l (fun an ao=>(At .i64 (setCells [(.int .i64 0),(.int .i64 0),(.int .i64 0)] 0 ((g.drop ((d.toNat)*3)).take 3)) fun ap=>(cond ((Nat.ble (e+1) 140737488355328)&&(Nat.ble ((e+1)*8) 140737488355328)) (k1 (e+1) p (wrap .i64 (d+1)) an ao ((r.take (e*1))++[(.int .i64 ap)])) none)))))) none) none) none) none) (Jt N (r.take (e*1)) e false true (fun aq=>(A1 N aq 3 11 q l (fun ar au=>(Bw 3 (c.drop 3) fun i m=>(q2 i m ((m:Nat):Int) 0 ar au)))))))
def Pn (r0:Bool→LA→O R) (g:LA) (o:Nat) (b:Bool) (c:LA):Nat→Nat→Int→Int→Bool→LA→LA→O R
 | 0,_,_,_,_,_,_=>none
 | n+1,e,p,d,q,l,r=>(CJ N r0 g o b c (Pn r0 g o b c n) (fun i m s f t u=>(Tk N r0 i m b N s f t u)) e p d q l r)
def RS (r0:Bool→LA→O R) (b:Bool) (c:LA) (q1:LA→Nat→Nat→Int→Int→Bool→LA→LA→O R) (v:Bool) (w:LA):O R :=
 (Bw 3 (c.drop 3) fun bg av=>(A1 N (decide (((av:Nat):Int)≤16)) 3 8 v w (fun aa z=>(At .i64 (z.drop 11) fun aw=>(cond (aw != 0) (r0 aa z) (Bw 3 (c.drop 3) fun g o=>(q1 g o 0 ((o:Nat):Int) 0 aa z [])))))))
def I_ (r0:Bool→LA→O R) (b:Bool) (c:LA) (v:Bool) (w:LA):O R:=(RS N r0 b c (fun g o e p d q l r=>(Pn N r0 g o b c N e p d q l r)) v w)
def eN (r0:Bool→LA→O R) (q0:Bool→LA→O R) (c:LA) (b x:Bool) (y:LA):O R :=
 (Bw 3 (c.drop 3) fun bh ax=>(cond ((((ax:Nat):Int)==0)==false) (XY (c.drop 2) fun ay=>(A1 N (cond false true ay) 3 16 x y (fun az ba=>(q0 az ba)))) (A1 N true 3 16 x y (fun bb bc=>(q0 bb bc)))))
def N_:=(Ai (fun (N:Nat) (c:LA) (b x:Bool) (y:LA) (r0:Bool→LA→O R)=>(eN N r0 (fun v w=>(I_ N r0 b c v w)) c b x y))).1
theorem nR (c b x y r0):(@N_ R N c b x y r0)=(eN N r0 (fun v w=>(I_ N r0 b c v w)) c b x y):=by rw[N_,(Ai _).2]
def tX:Hints:={ H:=(hS hL (hJ [0,3] hL (hS hL (hS hL (hS hL (hS (hS hL (hS (hP [0,3,4,31,32,33] hL) hL)) (hS hL (hS hL (hS (hP [0,64,65,66] hL) hL))))))))),nils:=[(4,1)] }
def Aag:Gm:=[(236,C9 N),(248,Z9 N),(234,Hb N)]
def bM (F:KF R):=Ki Tryz.f249 tX (Aag N) [100000] N F
def Ju (F:KF R):Bool→LA→O R:=(fun bd be=>F (.tup []) [(100000,(bP bd 0 be))])
def Ap6 (i:LA) (m:Nat) (b:Bool) (s f:Int) (t:Bool) (u:LA):St:=⟨[(0,(.optr 100000 0)),(64,(.imm i m 3 false b)),(65,(iv s)),(66,(iv f))],[(100000,(bP t 0 u))]⟩
def Ap7 (F:KF R):=bM N F [1,1,1,1,1,1,1,1,0] []
def Ap8 (g:LA) (o:Nat) (b:Bool) (c:LA) (e:Nat) (p d:Int) (q:Bool) (l r:LA):St:=⟨[(0,(.optr 100000 0)),(3,(op 0)),(4,(.own 300001 0 e)),(31,(.imm g o 3 false b)),(32,(iv p)),(33,(iv d))],[(100000,(bP q 0 l)),(300000,(bP b 0 c)),(300001,(bQ 1 r))]⟩
def Ap9 (F:KF R):=bM N F [1,1,1,1,1,0,1,0] []
def Aqa (b:Bool) (c:LA) (v:Bool) (w:LA):St:=⟨[(0,(.optr 100000 0)),(3,(op 0))],[(100000,(bP v 0 w)),(300000,(bP b 0 c))]⟩
def Aqb (F:KF R):=bM N F [1,1] []
theorem bO (F:KF R) (i:LA) (m:Nat) (b:Bool):∀ (n:Nat) (s f:Int) (t:Bool) (u:LA),Ak (Ap7 N F) n (Ap6 i m b s f t u)=(Tk N (Ju F) i m b n s f t u)
 | 0,_,_,_,_=>by kernel_rfl
 | n+1,s,f,t,u=>Eq.trans (by kernel_rfl) (Bv (CI N (Ju F) i m b · s f t u) (funext fun s=>funext fun f=>funext fun t=>funext fun u=>(bO F i m b n s f t u)):_)
theorem bR (F:KF R) (g:LA) (o:Nat) (b:Bool) (c:LA):∀ (n e:Nat) (p d:Int) (q:Bool) (l r:LA),Ak (Ap9 N F) n (Ap8 g o b c e p d q l r)=(Pn N (Ju F) g o b c n e p d q l r)
 | 0,_,_,_,_,_,_=>by kernel_rfl
 | n+1,e,p,d,q,l,r=>Eq.trans (by kernel_rfl) (PQ (CJ N (Ju F) g o b c · · e p d q l r) (funext fun e=>funext fun p=>funext fun d=>funext fun q=>funext fun l=>funext fun r=>(bR F g o b c n e p d q l r)) (funext fun i=>funext fun m=>funext fun s=>funext fun f=>funext fun t=>funext fun u=>(Ac ..).trans (bO N F i m b N s f t u)):_)
theorem Aah (F:KF R) (b:Bool) (c:LA):∀ (v:Bool) (w:LA),B8 (Aqb N F) (Aqa b c v w)=(I_ N (Ju F) b c v w):=by
 intro v w
 exact Eq.trans (by kernel_rfl) (Bv (RS N (Ju F) b c · v w) (funext fun g=>funext fun o=>funext fun e=>funext fun p=>funext fun d=>funext fun q=>funext fun l=>funext fun r=>(Ac ..).trans (bR N F g o b c N e p d q l r)):_)
theorem tY (c:LA) (b x:Bool) (y:LA) (F:KF R):C7 (Aag N) tX N 249 [(.optr 100000 0),(.pagg c b)] [(100000,(bP x 0 y))] F=(N_ N c b x y (Ju F)):=by
 rw[nR]
 exact Eq.trans (by kernel_rfl) (Bv (eN N (Ju F) · c b x y) (funext fun v=>funext fun w=>(A2 ..).trans (Aah N F b c v w)):_)
def nS (a:LA) (h:Aj) (k:KF R):O R :=
 match a,h with
 | [(.optr 100000 0),(.pagg c b)],[(100000,⟨false,false,true,x,0,y,false,none⟩)]=>(N_ N c b x y (Ju k))
 | _,_=>none
theorem tZ:An N 249 @nS:=by
 intro R Q a h k j;unfold nS;split;exact A3 (tY ..) (tY ..) ⟨Da N,AA N,Hc N,trivial⟩;exact A5
def Aqc:=A4 (tZ N)
def Aqd:=C8 (tZ N)
def Uu (k0:Int→Int→Bool→LA→O R) (r0:Bool→LA→O R) (c:LA) (f:Nat) (b:Bool) (e:Int) (u:LA) (q:Nat) (i d:LA) (k2:Int→Int→Int→Bool→LA→O R) (r s o:Int) (t:Bool) (p:LA):O R :=
 (cond (decide (o<s)) (cond (Ah o q) (At .i64 (u.drop ((o.toNat)*1)) fun y=>(cond ((decide (y≥0))==true) (Bw 12 (p.drop 3) fun bb ab=>(A1 N (cond true (decide (y<((ab:Nat):Int))) false) 1 12 t p (fun ac ad=>(k2 r s (wrap .i64 (o+1)) ac ad)))) (A1 N false 1 12 t p (fun ae af=>(k2 r s (wrap .i64 (o+1)) ae af))))) none) (Bw 1 (i.drop 1) fun ag ah=>(Jt N ag ah false b (fun ai=>(A1 N ai 1 11 t p (fun aj ak=>(cond (Nat.ble 4 (i.length)) (N_ N (i.take 4) b aj ak (fun al am=>(k0 e (wrap .i64 (r+1)) al am))) none)))))))
def Ns (k0:Int→Int→Bool→LA→O R) (r0:Bool→LA→O R) (c:LA) (f:Nat) (b:Bool) (e:Int) (u:LA) (q:Nat) (i d:LA):Nat→Int→Int→Int→Bool→LA→O R
 | 0,_,_,_,_,_=>none
 | n+1,r,s,o,t,p=>(Uu N k0 r0 c f b e u q i d (Ns k0 r0 c f b e u q i d n) r s o t p)
def Uv (N:Nat) (k0:Int→Int→Bool→LA→O R) (r0:Bool→LA→O R) (c:LA) (f:Nat) (b:Bool) (e:Int) (d:LA) (q2:LA→Nat→Int→Int→Int→Bool→LA→O R) (x:Int) (w:Bool) (v i:LA):O R :=
 (At .i64 (v.drop 11) fun an=>(cond (an != 0) (r0 w v) (Bw 1 (i.drop 1) fun u q=>(q2 u q x ((q:Nat):Int) 0 w v))))
def Rm (k0:Int→Int→Bool→LA→O R) (r0:Bool→LA→O R) (c:LA) (f:Nat) (b:Bool) (e:Int) (d:LA) (x:Int) (w:Bool) (v i:LA):O R:=(Uv N k0 r0 c f b e d (fun u q r s o t p=>(Ns N k0 r0 c f b e u q i d N r s o t p)) x w v i)
def Po (r0:Bool→LA→O R) (c:LA) (f:Nat) (b:Bool) (d:LA) (k0:Int→Int→Bool→LA→O R) (q1:Int→Bool→LA→LA→O R) (e g:Int) (l:Bool) (m:LA):O R :=
 (cond (decide (g<e)) (cond (Ah g f) (cond (Nat.ble 4 ((c.drop ((g.toNat)*4)).length)) (cond ((Nat.beq 0 0)&&((Nat.beq (((c.drop ((g.toNat)*4)).take 4).length) 4)&&(Nat.beq 4 4))) (U' N 6 g l m (fun ao ap=>(BT ((c.drop ((g.toNat)*4)).take 4) fun aq=>(Wx N aq ao ap (fun z aa=>(Bw 1 (((c.drop ((g.toNat)*4)).take 4).drop 1) fun bc ar=>(cond ((((ar:Nat):Int)==1)==false) (Bw 1 (((c.drop ((g.toNat)*4)).take 4).drop 1) fun bd au=>(A1 N (cond false true (((au:Nat):Int)==2)) 1 4 z aa (fun av aw=>(q1 g av aw ((c.drop ((g.toNat)*4)).take 4))))) (A1 N true 1 4 z aa (fun ax ay=>(q1 g ax ay ((c.drop ((g.toNat)*4)).take 4))))))))))) none) none) none) (r0 l m))
def Ev (r0:Bool→LA→O R) (c:LA) (f:Nat) (b:Bool) (d:LA):Nat→Int→Int→Bool→LA→O R
 | 0,_,_,_,_=>none
 | n+1,e,g,l,m=>(Po N r0 c f b d (Ev r0 c f b d n) (fun x w v i=>(Rm N (Ev r0 c f b d n) r0 c f b e d x w v i)) e g l m)
def JA (N:Nat) (r0:Bool→LA→O R) (q0:LA→Nat→Int→Int→Bool→LA→O R) (b:Bool) (d:LA):O R :=
 (Bw 4 (d.drop 7) fun c f=>(q0 c f ((f:Nat):Int) 0 b d))
def Sp:=(Ai (fun (N:Nat) (b:Bool) (d:LA) (r0:Bool→LA→O R)=>(JA N r0 (fun c f e g l m=>(Ev N r0 c f b d N e g l m)) b d))).1
theorem bS (b d r0):(@Sp R N b d r0)=(JA N r0 (fun c f e g l m=>(Ev N r0 c f b d N e g l m)) b d):=by rw[Sp,(Ai _).2]
def iF:Hints:={ H:=(hS hL (hS hL (hS (hP [1,10,11,12] (hS hL (hS hL (hS (hS (hS hL (hS hL (hS hL (hJ [1,3,10,11,12] hL (hS hL (hS (hS hL (hS (hP [1,3,10,11,12,43,44,45] hL) hL)) hL)))))) hL) hL)))) hL))) }
def nT:Gm:=[(233,Zj N),(237,Adt N),(236,C9 N),(248,Z9 N),(249,Aqc N)]
def KI (F:KF R):=Ki Tryz.f177 iF (nT N) [100000] N F
def Ew (F:KF R):Bool→LA→O R:=(fun az ba=>F (.tup []) [(100000,(bP az 0 ba))])
def Adv (c:LA) (f:Nat) (b:Bool) (e:Int) (u:LA) (q:Nat) (i d:LA) (r s o:Int) (t:Bool) (p:LA):St:=⟨[(1,(op 0)),(3,(op 1)),(10,(.imm c f 4 false b)),(11,(iv e)),(12,(iv r)),(43,(.imm u q 1 false b)),(44,(iv s)),(45,(iv o))],[(100000,(bP t 0 p)),(300000,(bN 0 [(.optr 100000 0)])),(300001,(bP b 0 i))]⟩
def Adw (F:KF R) (Q0:St→O R):=KI N F [1,1,0,0,1,1,0,0,1,1,1,1,1,0,1,0] [Q0]
def Adx (c:LA) (f:Nat) (b:Bool) (e:Int) (d:LA) (x:Int) (w:Bool) (v i:LA):St:=⟨[(1,(op 0)),(3,(op 1)),(10,(.imm c f 4 false b)),(11,(iv e)),(12,(iv x))],[(100000,(bP w 0 v)),(300000,(bN 0 [(.optr 100000 0)])),(300001,(bP b 0 i))]⟩
def Ady (F:KF R) (Q0:St→O R):=KI N F [1,1,0,0,1,1,0,0,1,1,1,1] [Q0]
def Rn (c:LA) (f:Nat) (b:Bool) (d:LA) (e g:Int) (l:Bool) (m:LA):St:=⟨[(1,(op 0)),(10,(.imm c f 4 false b)),(11,(iv e)),(12,(iv g))],[(100000,(bP l 0 m)),(300000,(bN 0 [(.optr 100000 0)]))]⟩
def iG (F:KF R):=KI N F [1,1,0] []
theorem N' (Q0:St→O R) (F:KF R) (c:LA) (f:Nat) (b:Bool) (e:Int) (u:LA) (q:Nat) (i d:LA):∀ (n:Nat) (r s o:Int) (t:Bool) (p:LA),Ak (Adw N F Q0) n (Adv c f b e u q i d r s o t p)=(Ns N (fun e g l m=>Q0 (Rn c f b d e g l m)) (Ew F) c f b e u q i d n r s o t p)
 | 0,_,_,_,_,_=>by kernel_rfl
 | n+1,r,s,o,t,p=>Eq.trans (by kernel_rfl) (Bv (Uu N (fun e g l m=>Q0 (Rn c f b d e g l m)) (Ew F) c f b e u q i d · r s o t p) (funext fun r=>funext fun s=>funext fun o=>funext fun t=>funext fun p=>(N' Q0 F c f b e u q i d n r s o t p)):_)
theorem qT (Q0:St→O R) (F:KF R) (c:LA) (f:Nat) (b:Bool) (e:Int) (d:LA):∀ (x:Int) (w:Bool) (v i:LA),B8 (Ady N F Q0) (Adx c f b e d x w v i)=(Rm N (fun e g l m=>Q0 (Rn c f b d e g l m)) (Ew F) c f b e d x w v i):=by
 intro x w v i
 exact Eq.trans (by kernel_rfl) (Bv (Uv N (fun e g l m=>Q0 (Rn c f b d e g l m)) (Ew F) c f b e d · x w v i) (funext fun u=>funext fun q=>funext fun r=>funext fun s=>funext fun o=>funext fun t=>funext fun p=>(Ac ..).trans (N' N Q0 F c f b e u q i d N r s o t p)):_)
theorem OA (F:KF R) (c:LA) (f:Nat) (b:Bool) (d:LA):∀ (n:Nat) (e g:Int) (l:Bool) (m:LA),Ak (iG N F) n (Rn c f b d e g l m)=(Ev N (Ew F) c f b d n e g l m)
 | 0,_,_,_,_=>by kernel_rfl
 | n+1,e,g,l,m=>have e0:=(funext fun e=>funext fun g=>funext fun l=>funext fun m=>(OA F c f b d n e g l m))
  Eq.trans (by kernel_rfl) (PQ (Po N (Ew F) c f b d · · e g l m) e0 (funext fun x=>funext fun w=>funext fun v=>funext fun i=>(A2 ..).trans ((qT N (Ak (iG N F) n) F c f b e d x w v i).trans (Bv (Rm N · (Ew F) c f b e d x w v i) e0))):_)
theorem iH (b:Bool) (d:LA) (F:KF R):C7 (nT N) iF N 177 [(.optr 100000 0)] [(100000,(bP b 0 d))] F=(Sp N b d (Ew F)):=by
 rw[bS]
 exact Eq.trans (by kernel_rfl) (Bv (JA N (Ew F) · b d) (funext fun c=>funext fun f=>funext fun e=>funext fun g=>funext fun l=>funext fun m=>(Ac ..).trans (OA N F c f b d N e g l m)):_)
def bT (a:LA) (h:Aj) (k:KF R):O R :=
 match a,h with
 | [(.optr 100000 0)],[(100000,⟨false,false,true,b,0,d,false,none⟩)]=>(Sp N b d (Ew k))
 | _,_=>none
theorem iI:An N 177 @bT:=by
 intro R Q a h k j;unfold bT;split;exact A3 (iH ..) (iH ..) ⟨Zk N,Adu N,Da N,AA N,Aqd N,trivial⟩;exact A5
def Adz:=A4 (iI N)
def Ad0:=C8 (iI N)
def Fq (N:Nat) (r0:Int→O R) (c:LA) (b:Nat) (e f:Bool) (d:Int) (k0:Int→Int→O R) (i g:Int):O R :=
 (cond (decide (g<i)) (cond (Ah g b) (At .i64 (c.drop ((g.toNat)*1)) fun l=>(cond (d==l) (r0 g) (k0 i (wrap .i64 (g+1))))) none) (r0 (-1)))
def Ca (r0:Int→O R) (c:LA) (b:Nat) (e f:Bool) (d:Int):Nat→Int→Int→O R
 | 0,_,_=>none
 | n+1,i,g=>(Fq N r0 c b e f d (Ca r0 c b e f d n) i g)
def Hd (N:Nat) (r0:Int→O R) (q0:Int→Int→O R) (c:LA) (b:Nat) (e f:Bool) (d:Int):O R :=
 (q0 ((b:Nat):Int) 0)
def Fu:=(Ai (fun (N:Nat) (c:LA) (b:Nat) (e f:Bool) (d:Int) (r0:Int→O R)=>(Hd N r0 (fun i g=>(Ca N r0 c b e f d N i g)) c b e f d))).1
theorem Qk (c b e f d r0):(@Fu R N c b e f d r0)=(Hd N r0 (fun i g=>(Ca N r0 c b e f d N i g)) c b e f d):=by rw[Fu,(Ai _).2]
def KJ (F:KF R):=Ki Tryz.f303 f7 [] [] N F
def D9 (F:KF R):Int→O R:=(fun m=>F (iv m) [])
def KK (c:LA) (b:Nat) (e f:Bool) (d i g:Int):St:=⟨[(0,(.imm c b 1 e f)),(1,(iv d)),(7,(iv i)),(8,(iv g))],[]⟩
def KL (F:KF R):=KJ N F [1,0,1,0] []
theorem N9 (F:KF R) (c:LA) (b:Nat) (e f:Bool) (d:Int):∀ (n:Nat) (i g:Int),Ak (KL N F) n (KK c b e f d i g)=(Ca N (D9 F) c b e f d n i g)
 | 0,_,_=>by kernel_rfl
 | n+1,i,g=>Eq.trans (by kernel_rfl) (Bv (Fq N (D9 F) c b e f d · i g) (funext fun i=>funext fun g=>(N9 F c b e f d n i g)):_)
theorem Ro (c:LA) (b:Nat) (e f:Bool) (d:Int) (F:KF R):C7 [] f7 N 303 [(.imm c b 1 e f),(iv d)] [] F=(Fu N c b e f d (D9 F)):=by
 rw[Qk]
 exact Eq.trans (by kernel_rfl) (Bv (Hd N (D9 F) · c b e f d) (funext fun i=>funext fun g=>(Ac ..).trans (N9 N F c b e f d N i g)):_)
def Ql (a:LA) (h:Aj) (k:KF R):O R :=
 match a,h with
 | [(.imm c b 1 e f),(.int .i64 d)],[]=>(Fu N c b e f d (D9 k))
 | _,_=>none
theorem Rp:An N 303 @Ql:=by
 intro R Q a h k j;unfold Ql;split;exact A3 (Ro ..) (Ro ..) trivial;exact A5
def KM:=A4 (Rp N)
def KN:=C8 (Rp N)
def I8 (b:LA) (c:Nat) (f d:Bool) (e:Int) (r0:Bool→O R):O R :=
 (Fu N b c false d e (fun g=>(r0 (decide (g≥0)))))
def C5:=(Ai (@I8 R)).1
theorem Na:@C5 R=@I8 R:=(Ai _).2
def FW:Gm:=[(303,KM N)]
def Oa (F:KF R):Bool→O R:=(fun i=>F (.bool i) [])
theorem Ob (b:LA) (c:Nat) (f d:Bool) (e:Int) (F:KF R):C7 (FW N) Dx N 285 [(.imm b c 1 f d),(iv e)] [] F=(C5 N b c f d e (Oa F)):=by
 rw[Na]
 kernel_rfl
def Nb (a:LA) (h:Aj) (k:KF R):O R :=
 match a,h with
 | [(.imm b c 1 f d),(.int .i64 e)],[]=>(C5 N b c f d e (Oa k))
 | _,_=>none
theorem Oc:An N 285 @Nb:=by
 intro R Q a h k j;unfold Nb;split;exact A3 (Ob ..) (Ob ..) ⟨KN N,trivial⟩;exact A5
def Od:=A4 (Oc N)
def Oe:=C8 (Oc N)
def X9 (r0:Nat→LA→O R) (b:Int) (f:LA) (g:Nat) (c:Bool) (k0:Nat→Int→Int→LA→O R) (e:Nat) (i d:Int) (l:LA):O R :=
 (cond (decide (d<i)) (cond (Ah d g) (cond (Nat.ble 12 ((f.drop ((d.toNat)*12)).length)) (cond ((Nat.beq 0 0)&&((Nat.beq (((f.drop ((d.toNat)*12)).take 12).length) 12)&&(Nat.beq 12 12))) (Bw 1 (((f.drop ((d.toNat)*12)).take 12).drop 11) fun o p=>(C5 N o p false c b (fun q=>(cond (!q) (cond ((Nat.ble (e+1) 140737488355328)&&(Nat.ble ((e+1)*8) 140737488355328)) (k0 (e+1) i (wrap .i64 (d+1)) ((l.take (e*1))++[(.int .i64 d)])) none) (k0 e i (wrap .i64 (d+1)) l))))) none) none) none) (r0 e l))
def My (r0:Nat→LA→O R) (b:Int) (f:LA) (g:Nat) (c:Bool):Nat→Nat→Int→Int→LA→O R
 | 0,_,_,_,_=>none
 | n+1,e,i,d,l=>(X9 N r0 b f g c (My r0 b f g c n) e i d l)
def RT (N:Nat) (r0:Nat→LA→O R) (q0:LA→Nat→Nat→Int→Int→LA→O R) (m:LA) (c:Bool) (b:Int):O R :=
 (Bw 12 (m.drop 3) fun f g=>(q0 f g 0 ((g:Nat):Int) 0 []))
def DN:=(Ai (fun (N:Nat) (m:LA) (c:Bool) (b:Int) (r0:Nat→LA→O R)=>(RT N r0 (fun f g e i d l=>(My N r0 b f g c N e i d l)) m c b))).1
theorem iJ (m c b r0):(@DN R N m c b r0)=(RT N r0 (fun f g e i d l=>(My N r0 b f g c N e i d l)) m c b):=by rw[DN,(Ai _).2]
def nU:Hints:={ H:=(hS hL (hS hL (hS (hS hL (hS (hP [1,5,9,10,11] hL) hL)) hL))),nils:=[(4,1),(5,1)],modes:=[(2,1)] }
def t6:Gm:=[(285,Od N)]
def Akp (F:KF R):=Ki Tryz.f250 nU (t6 N) [] N F
def Uw (F:KF R):Nat→LA→O R:=(fun r s=>F (.own 300000 0 r) (hq [(bQ 1 s)]))
def Akq (b:Int) (f:LA) (g:Nat) (c:Bool) (e:Nat) (i d:Int) (l:LA):St:=⟨[(1,(iv b)),(5,(.own 300000 0 e)),(9,(.imm f g 12 false c)),(10,(iv i)),(11,(iv d))],(hq [(bQ 1 l)])⟩
def Akr (F:KF R):=Akp N F [1,1,0,1,0] []
theorem VR (F:KF R) (b:Int) (f:LA) (g:Nat) (c:Bool):∀ (n e:Nat) (i d:Int) (l:LA),Ak (Akr N F) n (Akq b f g c e i d l)=(My N (Uw F) b f g c n e i d l)
 | 0,_,_,_,_=>by kernel_rfl
 | n+1,e,i,d,l=>Eq.trans (by kernel_rfl) (Bv (X9 N (Uw F) b f g c · e i d l) (funext fun e=>funext fun i=>funext fun d=>funext fun l=>(VR F b f g c n e i d l)):_)
theorem nV (m:LA) (c:Bool) (b:Int) (F:KF R):C7 (t6 N) nU N 250 [(.pagg m c),(iv b)] [] F=(DN N m c b (Uw F)):=by
 rw[iJ]
 exact Eq.trans (by kernel_rfl) (Bv (RT N (Uw F) · m c b) (funext fun f=>funext fun g=>funext fun e=>funext fun i=>funext fun d=>funext fun l=>(Ac ..).trans (VR N F b f g c N e i d l)):_)
def iK (a:LA) (h:Aj) (k:KF R):O R :=
 match a,h with
 | [(.pagg m c),(.int .i64 b)],[]=>(DN N m c b (Uw k))
 | _,_=>none
theorem nW:An N 250 @iK:=by
 intro R Q a h k j;unfold iK;split;exact A3 (nV ..) (nV ..) ⟨Oe N,trivial⟩;exact A5
def Aks:=A4 (nW N)
def Akt:=C8 (nW N)
def Gu (N:Nat) (r0:O R) (b:Int) (k0:O R):O R :=
 r0
def Dc (r0:O R) (b:Int):Nat→O R
 | 0=>none
 | n+1=>(Gu N r0 b (Dc r0 b n))
def Fr (N:Nat) (r0:O R) (q0:O R) (b:Int):O R :=
 q0
def Ea:=(Ai (fun (N:Nat) (b:Int) (r0:O R)=>(Fr N r0 (Dc N r0 b N) b))).1
theorem Nc (b r0):(@Ea R N b r0)=(Fr N r0 (Dc N r0 b N) b):=by rw[Ea,(Ai _).2]
def CK (F:KF R):=Ki Tryz.f303 f7 [] [] N F
def Dd (F:KF R):O R:=F (iv (-1)) []
def CL (b:Int):St:=⟨[(0,.nsl),(1,(iv b)),(7,(iv 0)),(8,(iv 0))],[]⟩
def CM (F:KF R):=CK N F [1,0,1,0] []
theorem Ld (F:KF R) (b:Int):∀ (n:Nat) ,Ak (CM N F) n (CL b)=(Dc N (Dd F) b n)
 | 0=>by kernel_rfl
 | n+1=>Eq.trans (by kernel_rfl) (Bv (Gu N (Dd F) b ·) (Ld F b n):_)
theorem Of (b:Int) (F:KF R):C7 [] f7 N 303 [.nsl,(iv b)] [] F=(Ea N b (Dd F)):=by
 rw[Nc]
 exact Eq.trans (by kernel_rfl) (Bv (Fr N (Dd F) · b) ((Ac ..).trans (Ld N F b N)):_)
def Nd (a:LA) (h:Aj) (k:KF R):O R :=
 match a,h with
 | [.nsl,(.int .i64 b)],[]=>(Ea N b (Dd k))
 | _,_=>none
theorem Og:An N 303 @Nd:=by
 intro R Q a h k j;unfold Nd;split;exact A3 (Of ..) (Of ..) trivial;exact A5
def CN:=A4 (Og N)
def CO:=C8 (Og N)
def Gv (b:Int) (r0:O R):O R :=
 (Ea N b r0)
def De:=(Ai (@Gv R)).1
theorem Kk:@De R=@Gv R:=(Ai _).2
def Zp:Gm:=[(303,CN N)]
def Le (F:KF R):O R:=F (.bool false) []
theorem Lf (b:Int) (F:KF R):C7 (Zp N) Dx N 285 [.nsl,(iv b)] [] F=(De N b (Le F)):=by
 rw[Kk]
 kernel_rfl
def Kl (a:LA) (h:Aj) (k:KF R):O R :=
 match a,h with
 | [.nsl,(.int .i64 b)],[]=>(De N b (Le k))
 | _,_=>none
theorem Lg:An N 285 @Kl:=by
 intro R Q a h k j;unfold Kl;split;exact A3 (Lf ..) (Lf ..) ⟨CO N,trivial⟩;exact A5
def Wy:=A4 (Lg N)
def Wz:=C8 (Lg N)
end
end Gx

namespace Gx.Cf
open Go Go.Proofs
section
variable {R:Type}
theorem JB {N:Nat} {l:List Int} {t o:Bool} {K:Bool→O R} (hs:l.length<4611686018427387904):∀ (m j fuel:Nat),j+1+m=l.length→m<fuel →
  Fk N K (Aq l) l.length t o fuel ((j+1:Nat):Int)=K (jd (l.drop j))
 | 0,j,fuel+1,c,_=>by
  rw[Fk];unfold Lc
  rw[Iu (by omega),cf,B7 (by omega),Cx (by omega),QM]
 | m+1,j,fuel+1,c,d=>by
  rw[Fk];unfold Lc
  have h:j+1<l.length:=by omega
  have h':j<l.length:=by omega
  rw[Hh h,ct,Ab h,ct,E' h,mM (by omega),Ab h',ct,E' h',Bo (by omega),JB hs m (j+1) fuel (by omega) (by omega),B7 h',B7 h,DM]
  by_cases b:l[j+1]≤l[j]
  ·have:¬ l[j]<l[j+1]:=by omega
   simp[b,this]
  ·have:l[j]<l[j+1]:=by omega
   simp[b,this]
theorem Ux {N:Nat} {l:List Int} {n:Nat} {t o:Bool} {K:Bool→O R} (hn:n=l.length) (hs:Es l.length N):Jt N (Aq l) n t o K=K (jd l):=by
 subst hn
 rw[NP];unfold X7
 rcases l with _ | ⟨a,r⟩
 ·have hN:=hs.1
  rcases N with _ | N
  ·simp at hN
  ·dsimp only;rw[Fk];unfold Lc;simp[mL]
 ·have:=JB (R:=R) (N:=N) (t:=t) (o:=o) (K:=K) hs.2 r.length 0 N (by simp;omega) (by have:=hs.1;simp at this;omega)
  simpa using this
theorem Aai {N:Nat} {v:Int} {l:List Int} {t o:Bool} {K:Int→O R} (hs:l.length<4611686018427387904):∀ (m j fuel:Nat),j+m=l.length→m<fuel →
  ∃ r:Int,(decide (r≥0)=(l.drop j).contains v)∧Ca N K (Aq l) l.length t o v fuel (l.length:Int) (j:Int)=K r
 | 0,j,fuel+1,b,_=>by
  rw[Ca];unfold Fq
  rw[Iu (by omega),cf,Cx (by omega)];exact⟨-1,by simp,rfl⟩
 | m+1,j,fuel+1,b,c=>by
  rw[Ca];unfold Fq
  have h:j<l.length:=by omega
  rw[Hh h,ct,Ab h,ct,E' h,Bo (by omega),B7 h,List.contains_cons]
  cases d:v==l[j] with
  | true=>exact⟨j,by simp,rfl⟩
  | false=>simpa using Aai hs m (j+1) fuel (by omega) (by omega)
theorem iL {N:Nat} {v:Int} {l:List Int} {n:Nat} {t o:Bool} {K:Bool→O R} (hn:n=l.length) (hs:Es l.length N):C5 N (Aq l) n t o v K=K (l.contains v):=by
 subst hn
 rw[Na];unfold I8
 rw[Qk];unfold Hd
 obtain⟨r,b,c⟩:=Aai (R:=R) (N:=N) (v:=v) (t:=false) (o:=o) (K:=fun y1=>K (decide (y1≥0))) hs.2 l.length 0 N (by omega) hs.1
 simp only[List.drop_zero] at b
 rw[←b]
 simpa using c
theorem Aku {N:Nat} {v:Int} {K:O R} (hN:8≤N):De N v K=K:=by
 rw[Kk];unfold Gv
 rw[Nc];unfold Fr
 rcases N with _ | N
 ·omega
 ·rw[Dc];unfold Gu;rfl
end
end Gx.Cf

namespace Gx.Cf
open Go Go.Proofs
section
variable {R:Type}
theorem Lh {c:CaseD} {p:C1} {k i:Int} {f:Int→O R}:At .i64 (List.drop 11 (C3 c p k i)) f=f (Bp p):=by
 rcases p with _ | ⟨⟨a,b,d⟩,e,j⟩<;>simp[C3,CaseD.av,LO,A6,Bp]
theorem qU {c:CaseD} {k i:Int} {f:Int→O R}:At .i64 (List.drop 9 (C3 c none k i)) f=f i:=by simp[C3,CaseD.av,LO,A6]
theorem nX {c:CaseD} {p:C1} {k i:Int} {f:Int→O R}:At .i64 (C3 c p k i) f=f c.hours:=by simp[C3,CaseD.av,A6]
theorem Au3 {c:CaseD} {p:C1} {k i:Int} {f:LA→Nat→O R}:Bw 1 (List.drop 1 (C3 c p k i)) f=f (Aq c.reserve.l) c.reserve.l.length:=by simp[C3,CaseD.av,D6,Fa]
theorem nY {c:CaseD} {p:C1} {k i:Int} {f:LA→Nat→O R}:Bw 3 (List.drop 2 (C3 c p k i)) f=f (c.buses.l.flatMap BusD.av) c.buses.l.length:=by simp[C3,CaseD.av,D6]
theorem nZ {c:CaseD} {p:C1} {k i:Int} {f:LA→Nat→O R}:Bw 12 (List.drop 3 (C3 c p k i)) f=f (c.lines.l.flatMap LineD.av) c.lines.l.length:=by simp[C3,CaseD.av,D6]
theorem n6 {c:CaseD} {p:C1} {k i:Int} {f:LA→Nat→O R}:Bw 22 (List.drop 4 (C3 c p k i)) f=f (c.units.l.flatMap UnitD.av) c.units.l.length:=by simp[C3,CaseD.av,D6]
theorem qV {c:CaseD} {p:C1} {k i:Int} {f:LA→Nat→O R}:Bw 9 (List.drop 5 (C3 c p k i)) f=f (c.stores.l.flatMap StoreD.av) c.stores.l.length:=by simp[C3,CaseD.av,D6]
theorem Akv {c:CaseD} {p:C1} {k i:Int} {f:LA→Nat→O R}:Bw 5 (List.drop 6 (C3 c p k i)) f=f (c.ties.l.flatMap TieD.av) c.ties.l.length:=by simp[C3,CaseD.av,D6]
theorem vf {c:CaseD} {p:C1} {k i:Int} {f:LA→Nat→O R}:Bw 4 (List.drop 7 (C3 c p k i)) f=f (c.outs.l.flatMap OutD.av) c.outs.l.length:=by simp[C3,CaseD.av,D6]
theorem bU {N:Nat} {c:CaseD} {k i f lo hi:Int} {l:List Int} {t o w:Bool} {K:Bool→LA→O R} (hs:l.length<4611686018427387904):∀ (m j fuel:Nat) (p:C1),j+m=l.length→m<fuel →
  Mv N K f lo hi (Aq l) l.length t o fuel (l.length:Int) (j:Int) w (C3 c p k i)=K w (C3 c (nd p ((l.drop j).all (Fb lo hi)) (k,i,f) ⟨3,by decide⟩) k i)
 | 0,j,fuel+1,p,b,_=>by
  rw[Mv];unfold X6
  rw[Iu (by omega),cf,Cx (by omega),List.all_nil,F7]
 | m+1,j,fuel+1,p,b,n=>by
  rw[Mv];unfold X6
  have h:j<l.length:=by omega
  rw[Hh h,ct,Ab h,ct,E' h,Lh,E8,Bo (by omega),bU hs m (j+1) fuel _ (by omega) (by omega),B7 h,List.all_cons,Qj]
  rcases p with _ | ⟨x,e,d⟩
  ·simp[Bp]
  ·have:(e != 0)=true:=by simpa using d
   simp[Bp,this,nd]
theorem Pp {N:Nat} {c:CaseD} {p:C1} {k i f lo hi:Int} {l:List Int} {n:Nat} {t o w:Bool} {K:Bool→LA→O R} (hn:n=l.length) (hs:Es l.length N) :
  Nr N f (Aq l) n t o lo hi w (C3 c p k i) K=K w (C3 c (gc c.hours l lo hi (k,i,f) p) k i):=by
 subst hn
 rw[gq];unfold RE
 rw[nX,Ar (by decide)]
 have:=bU (R:=R) (N:=N) (c:=c) (k:=k) (i:=i) (f:=f) (lo:=lo) (hi:=hi) (t:=t) (o:=o) (w:=w) (K:=K) hs.2 l.length 0 N (nd p ((l.length:Int)==c.hours) (k,i,f) ⟨4,by decide⟩) (by omega) hs.1
 simpa[gc] using this
theorem n7 {N:Nat} {c:CaseD} {k i f:Int} {l:List Int} {t o w w0:Bool} {h0:LA} {K:Bool→LA→O R} (hs:Es l.length N):∀ (m j fuel:Nat) (p:C1),j+m=l.length→m<fuel →
  Sn N K f (Aq l) l.length t o w0 h0 fuel (l.length:Int) (j:Int) w (C3 c p k i)=K w (C3 c (nd (nd p ((l.drop j).all (Fb 0 (IntKind.wrap .i64 (c.hours - 1)))) (k,i,f) ⟨3,by decide⟩) (jd l) (k,i,f) ⟨11,by decide⟩) k i)
 | 0,j,fuel+1,p,b,_=>by
  rw[Sn];unfold II
  rw[Iu (by omega),cf,Cx (by omega),List.all_nil,F7,Ux rfl hs,Ar (by decide)]
 | m+1,j,fuel+1,p,b,q=>by
  rw[Sn];unfold II
  have h:j<l.length:=by omega
  have d:=hs.2
  rw[Hh h,ct,Ab h,ct,E' h,Lh,nX,E8,Bo (by omega),n7 hs m (j+1) fuel _ (by omega) (by omega),B7 h,List.all_cons,Qj]
  rcases p with _ | ⟨x,e,n⟩
  ·simp[Bp]
  ·have:(e != 0)=true:=by simpa using n
   simp[Bp,this,nd]
theorem n8 {N:Nat} {c:CaseD} {p:C1} {k i f:Int} {l:List Int} {n:Nat} {t o w:Bool} {K:Bool→LA→O R} (hn:n=l.length) (hs:Es l.length N) :
  RK N f (Aq l) n t o w (C3 c p k i) K=K w (C3 c (aF c.hours l (k,i,f) p) k i):=by
 subst hn
 rw[tK];unfold nB
 have:=n7 (R:=R) (N:=N) (c:=c) (k:=k) (i:=i) (f:=f) (t:=t) (o:=o) (w:=w) (w0:=w) (h0:=C3 c p k i) (K:=K) hs l.length 0 N p (by omega) hs.1
 simpa[aF] using this
theorem JC {N:Nat} {c:CaseD} {p:C1} {k i f b:Int} {w:Bool} {K:Bool→LA→O R} :
  RI N f b w (C3 c p k i) K=K w (C3 c (nd p (UP c b) (k,i,f) ⟨12,by decide⟩) k i):=by
 rw[zd];unfold Akj
 rw[nY,Ar (by decide),Ar (by decide)]
 unfold UP
 cases h:decide (b≥0) with
 | true=>simp at h;simp[h]
 | false=>simp at h;simp[show ¬ 0≤b by omega]
theorem iM {N:Nat} {f:FracD} {o:Bool} {K:Bool→O R}:Zn N [.int .i64 f.num,.int .i64 f.den] o K=K (I7 f):=by
 rw[mz];unfold qQ
 simp only[List.drop_succ_cons,List.drop_zero,A6]
 unfold I7 Fb
 by_cases b:1≤f.den<;>by_cases c:f.den≤1048576<;>by_cases d:-1048576≤f.num<;>simp[b,c,d]
theorem n9 {N:Nat} {s:List UInt8} {K:Bool→O R} (hs:s.length<4611686018427387904):∀ (m j fuel:Nat),j+m=s.length→m<fuel →
  Wp N K s fuel (s.length:Int) (j:Int)=K ((s.drop j).all A09)
 | 0,j,fuel+1,b,_=>by
  rw[Wp];unfold IG
  rw[Iu (by omega),cf,Cx (by omega)];rfl
 | m+1,j,fuel+1,b,k=>by
  rw[Wp];unfold IG
  have h:j<s.length:=by omega
  rw[Hh h,ct,Ab h,ct,Bo (by omega),n9 hs m (j+1) fuel (by omega) (by omega),B7 h,List.all_cons,Ajx h]
  unfold A09 qL
  generalize s[j].toNat=v
  generalize (s.drop (j+1)).all _=r
  by_cases c:97≤v<;>by_cases d:v≤122<;>by_cases e:48≤v<;>by_cases f:v≤57<;>by_cases i:v=95 <;>
   simp[c,d,e,f,show((v:Int)<97)↔¬ 97≤v by omega,show((v:Int)<48)↔¬ 48≤v by omega,show((122:Int)<v)↔¬ v≤122 by omega,show((57:Int)<v)↔¬ v≤57 by omega,show((v:Int) != 95)=!decide (v=95) by (by_cases v=95<;>simp_all<;>omega),i]
theorem Qg {N:Nat} {s:List UInt8} {K:Bool→O R} (hN:64≤N):Up N s K=K (Mm s):=by
 rw[sx];unfold mo RH aP
 dsimp only
 unfold Mm
 by_cases b:1≤s.length
 ·by_cases c:s.length≤16
  ·have d:=n9 (R:=R) (N:=N) (s:=s) (K:=K) (by omega) s.length 0 N (by omega) (by omega)
   simp only[List.drop_zero,Int.natCast_zero] at d
   rw[d]
   have h0:Ah 0 s.length=true:=Ab (i:=0) (by omega)
   rw[h0]
   simp only[b,c,show(decide ((s.length:Int)<1))=false by simp;omega,show(decide ((s.length:Int)>16))=false by simp;omega,decide_true,cond_true,cond_false,beq_self_eq_true]
   cases s==[99,111,114,114,101,99,116,105,118,101]
   ·unfold qL
    generalize (List.getD s 0 0).toNat=v
    by_cases e:97≤v<;>by_cases f:v≤122<;>simp[e,f,show((v:Int)<97)↔¬ 97≤v by omega,show((122:Int)<v)↔¬ v≤122 by omega]
   ·simp
  ·simp[b,c,show((s.length:Int)<1)↔¬ 1≤s.length by omega,show((16:Int)<s.length)↔¬ s.length≤16 by omega]
 ·simp[b,show((s.length:Int)<1)↔¬ 1≤s.length by omega]
end
end Gx.Cf

namespace Gx.Cf
open Go Go.Proofs
section
variable {R:Type}
theorem n_ {N:Nat} {c:CaseD} {p:C1} {k i:Int} {w:Bool} {j:Nat} {K:List UInt8→O R} (h:j<c.buses.l.length):Uq N (j:Int) w (C3 c p k i) K=K c.buses.l[j].name:=by
 rw[NK];unfold KE
 rw[nY,Ab h,ct,Int.toNat_natCast,Ay K8 _ _ h]
 simp[BusD.av,El]
theorem na {N:Nat} {c:CaseD} {k i:Int} {s:List UInt8} {w:Bool} {K:Bool→LA→O R} {n:Nat} (hn:n≤c.buses.l.length) (hs:n<4611686018427387904):∀ (m j fuel:Nat) (p:C1),j+m=n→m<fuel →
  Pe N K s (n:Int) fuel (j:Int) w (C3 c p k i)=K w (C3 c (nd p ((((c.buses.l.map (·.name)).take n).drop j).all fun x=>!(x==s)) (k,i,0) ⟨10,by decide⟩) k i)
 | 0,j,fuel+1,p,b,_=>by
  rw[Pe];unfold Zl
  rw[Iu (by omega),cf,Cx (by simp;omega),List.all_nil,F7]
 | m+1,j,fuel+1,p,b,t=>by
  rw[Pe];unfold Zl
  have h:j<c.buses.l.length:=by omega
  have d:j<((c.buses.l.map (·.name)).take n).length:=by simp;omega
  rw[Hh (by omega),ct,Lh,n_ h,Ar (by decide),Bo (by omega),na hn hs m (j+1) fuel _ (by omega) (by omega),B7 d,List.all_cons,Qj]
  have e:((c.buses.l.map (·.name)).take n)[j]=c.buses.l[j].name:=by simp
  rw[e]
  rcases p with _ | ⟨x,f,q⟩
  ·simp[Bp]
  ·have:(f != 0)=true:=by simpa using q
   simp[Bp,this,nd]
theorem Akw {N:Nat} {c:CaseD} {p:C1} {k:Int} {n:Nat} {s:List UInt8} {w:Bool} {K:Bool→LA→O R} (hN:64≤N) (hn:n≤c.buses.l.length) (hs:Es n N) :
  eF N s w (C3 c p k (n:Int)) K=K w (C3 c (Kj ((c.buses.l.map (·.name)).take n) k n s p) k n):=by
 rw[tA];unfold mt
 rw[Qg hN,Ar (by decide)]
 unfold Kj
 cases m:nd p (Mm s) (k,(n:Int),0) ⟨9,by decide⟩ with
 | none =>
  rw[qU]
  have:=na (R:=R) (N:=N) (c:=c) (k:=k) (i:=n) (s:=s) (w:=w) (K:=K) hn hs.2 n 0 N none (by omega) hs.1
  simpa using this
 | some x =>
  obtain⟨⟨a,b,f⟩,e,d⟩:=x
  have j:∀ g:Int→O R,At .i64 (List.drop 9 (C3 c (some ((a,b,f),⟨e,d⟩)) k n)) g=g b:=by intro g;simp[C3,CaseD.av,LO,A6]
  rw[j,PR]
  rcases N with _ | N
  ·omega
  ·dsimp only
   rw[Pe];unfold Zl
   rw[Lh]
   have:(e != 0)=true:=by simpa using d
   cases decide (0<b)<;>simp[Bp,this]
theorem nc {N:Nat} {c:CaseD} {p:C1} {k i:Int} {w:Bool} {j:Nat} {K:List UInt8→O R} (h:j<c.lines.l.length):Ur N (j:Int) w (C3 c p k i) K=K c.lines.l[j].name:=by
 rw[NM];unfold KG
 rw[nZ,Ab h,ct,Int.toNat_natCast,Ay Cb _ _ h]
 simp[LineD.av,El]
theorem VS {N:Nat} {c:CaseD} {k i:Int} {s:List UInt8} {w:Bool} {K:Bool→LA→O R} {n:Nat} (hn:n≤c.lines.l.length) (hs:n<4611686018427387904):∀ (m j fuel:Nat) (p:C1),j+m=n→m<fuel →
  Hi N K s (n:Int) fuel (j:Int) w (C3 c p k i)=K w (C3 c (nd p ((((c.lines.l.map (·.name)).take n).drop j).all fun x=>!(x==s)) (k,i,0) ⟨10,by decide⟩) k i)
 | 0,j,fuel+1,p,b,_=>by
  rw[Hi];unfold Pg
  rw[Iu (by omega),cf,Cx (by simp;omega),List.all_nil,F7]
 | m+1,j,fuel+1,p,b,t=>by
  rw[Hi];unfold Pg
  have h:j<c.lines.l.length:=by omega
  have d:j<((c.lines.l.map (·.name)).take n).length:=by simp;omega
  rw[Hh (by omega),ct,Lh,nc h,Ar (by decide),Bo (by omega),VS hn hs m (j+1) fuel _ (by omega) (by omega),B7 d,List.all_cons,Qj]
  have e:((c.lines.l.map (·.name)).take n)[j]=c.lines.l[j].name:=by simp
  rw[e]
  rcases p with _ | ⟨x,f,q⟩
  ·simp[Bp]
  ·have:(f != 0)=true:=by simpa using q
   simp[Bp,this,nd]
theorem vO {N:Nat} {c:CaseD} {p:C1} {k:Int} {n:Nat} {s:List UInt8} {w:Bool} {K:Bool→LA→O R} (hN:64≤N) (hn:n≤c.lines.l.length) (hs:Es n N) :
  Ws N s w (C3 c p k (n:Int)) K=K w (C3 c (Kj ((c.lines.l.map (·.name)).take n) k n s p) k n):=by
 rw[aT];unfold IH
 rw[Qg hN,Ar (by decide)]
 unfold Kj
 cases m:nd p (Mm s) (k,(n:Int),0) ⟨9,by decide⟩ with
 | none =>
  rw[qU]
  have:=VS (R:=R) (N:=N) (c:=c) (k:=k) (i:=n) (s:=s) (w:=w) (K:=K) hn hs.2 n 0 N none (by omega) hs.1
  simpa using this
 | some x =>
  obtain⟨⟨a,b,f⟩,e,d⟩:=x
  have j:∀ g:Int→O R,At .i64 (List.drop 9 (C3 c (some ((a,b,f),⟨e,d⟩)) k n)) g=g b:=by intro g;simp[C3,CaseD.av,LO,A6]
  rw[j,PR]
  rcases N with _ | N
  ·omega
  ·dsimp only
   rw[Hi];unfold Pg
   rw[Lh]
   have:(e != 0)=true:=by simpa using d
   cases decide (0<b)<;>simp[Bp,this]
theorem nf {N:Nat} {c:CaseD} {p:C1} {k i:Int} {w:Bool} {j:Nat} {K:List UInt8→O R} (h:j<c.units.l.length):Us N (j:Int) w (C3 c p k i) K=K c.units.l[j].name:=by
 rw[NR];unfold KH
 rw[n6,Ab h,ct,Int.toNat_natCast,Ay Dg _ _ h]
 simp[UnitD.av,El]
theorem VT {N:Nat} {c:CaseD} {k i:Int} {s:List UInt8} {w:Bool} {K:Bool→LA→O R} {n:Nat} (hn:n≤c.units.l.length) (hs:n<4611686018427387904):∀ (m j fuel:Nat) (p:C1),j+m=n→m<fuel →
  Hj N K s (n:Int) fuel (j:Int) w (C3 c p k i)=K w (C3 c (nd p ((((c.units.l.map (·.name)).take n).drop j).all fun x=>!(x==s)) (k,i,0) ⟨10,by decide⟩) k i)
 | 0,j,fuel+1,p,b,_=>by
  rw[Hj];unfold Ph
  rw[Iu (by omega),cf,Cx (by simp;omega),List.all_nil,F7]
 | m+1,j,fuel+1,p,b,t=>by
  rw[Hj];unfold Ph
  have h:j<c.units.l.length:=by omega
  have d:j<((c.units.l.map (·.name)).take n).length:=by simp;omega
  rw[Hh (by omega),ct,Lh,nf h,Ar (by decide),Bo (by omega),VT hn hs m (j+1) fuel _ (by omega) (by omega),B7 d,List.all_cons,Qj]
  have e:((c.units.l.map (·.name)).take n)[j]=c.units.l[j].name:=by simp
  rw[e]
  rcases p with _ | ⟨x,f,q⟩
  ·simp[Bp]
  ·have:(f != 0)=true:=by simpa using q
   simp[Bp,this,nd]
theorem vP {N:Nat} {c:CaseD} {p:C1} {k:Int} {n:Nat} {s:List UInt8} {w:Bool} {K:Bool→LA→O R} (hN:64≤N) (hn:n≤c.units.l.length) (hs:Es n N) :
  Wt N s w (C3 c p k (n:Int)) K=K w (C3 c (Kj ((c.units.l.map (·.name)).take n) k n s p) k n):=by
 rw[aY];unfold IL
 rw[Qg hN,Ar (by decide)]
 unfold Kj
 cases m:nd p (Mm s) (k,(n:Int),0) ⟨9,by decide⟩ with
 | none =>
  rw[qU]
  have:=VT (R:=R) (N:=N) (c:=c) (k:=k) (i:=n) (s:=s) (w:=w) (K:=K) hn hs.2 n 0 N none (by omega) hs.1
  simpa using this
 | some x =>
  obtain⟨⟨a,b,f⟩,e,d⟩:=x
  have j:∀ g:Int→O R,At .i64 (List.drop 9 (C3 c (some ((a,b,f),⟨e,d⟩)) k n)) g=g b:=by intro g;simp[C3,CaseD.av,LO,A6]
  rw[j,PR]
  rcases N with _ | N
  ·omega
  ·dsimp only
   rw[Hj];unfold Ph
   rw[Lh]
   have:(e != 0)=true:=by simpa using d
   cases decide (0<b)<;>simp[Bp,this]
theorem jm {N:Nat} {c:CaseD} {p:C1} {k i:Int} {w:Bool} {j:Nat} {K:List UInt8→O R} (h:j<c.stores.l.length):Ri N (j:Int) w (C3 c p k i) K=K c.stores.l[j].name:=by
 rw[IR];unfold FS
 rw[qV,Ab h,ct,Int.toNat_natCast,Ay F0 _ _ h]
 simp[StoreD.av,El]
theorem VU {N:Nat} {c:CaseD} {k i:Int} {s:List UInt8} {w:Bool} {K:Bool→LA→O R} {n:Nat} (hn:n≤c.stores.l.length) (hs:n<4611686018427387904):∀ (m j fuel:Nat) (p:C1),j+m=n→m<fuel →
  Hk N K s (n:Int) fuel (j:Int) w (C3 c p k i)=K w (C3 c (nd p ((((c.stores.l.map (·.name)).take n).drop j).all fun x=>!(x==s)) (k,i,0) ⟨10,by decide⟩) k i)
 | 0,j,fuel+1,p,b,_=>by
  rw[Hk];unfold Pj
  rw[Iu (by omega),cf,Cx (by simp;omega),List.all_nil,F7]
 | m+1,j,fuel+1,p,b,t=>by
  rw[Hk];unfold Pj
  have h:j<c.stores.l.length:=by omega
  have d:j<((c.stores.l.map (·.name)).take n).length:=by simp;omega
  rw[Hh (by omega),ct,Lh,jm h,Ar (by decide),Bo (by omega),VU hn hs m (j+1) fuel _ (by omega) (by omega),B7 d,List.all_cons,Qj]
  have e:((c.stores.l.map (·.name)).take n)[j]=c.stores.l[j].name:=by simp
  rw[e]
  rcases p with _ | ⟨x,f,q⟩
  ·simp[Bp]
  ·have:(f != 0)=true:=by simpa using q
   simp[Bp,this,nd]
theorem vR {N:Nat} {c:CaseD} {p:C1} {k:Int} {n:Nat} {s:List UInt8} {w:Bool} {K:Bool→LA→O R} (hN:64≤N) (hn:n≤c.stores.l.length) (hs:Es n N) :
  Wu N s w (C3 c p k (n:Int)) K=K w (C3 c (Kj ((c.stores.l.map (·.name)).take n) k n s p) k n):=by
 rw[bD];unfold IT
 rw[Qg hN,Ar (by decide)]
 unfold Kj
 cases m:nd p (Mm s) (k,(n:Int),0) ⟨9,by decide⟩ with
 | none =>
  rw[qU]
  have:=VU (R:=R) (N:=N) (c:=c) (k:=k) (i:=n) (s:=s) (w:=w) (K:=K) hn hs.2 n 0 N none (by omega) hs.1
  simpa using this
 | some x =>
  obtain⟨⟨a,b,f⟩,e,d⟩:=x
  have j:∀ g:Int→O R,At .i64 (List.drop 9 (C3 c (some ((a,b,f),⟨e,d⟩)) k n)) g=g b:=by intro g;simp[C3,CaseD.av,LO,A6]
  rw[j,PR]
  rcases N with _ | N
  ·omega
  ·dsimp only
   rw[Hk];unfold Pj
   rw[Lh]
   have:(e != 0)=true:=by simpa using d
   cases decide (0<b)<;>simp[Bp,this]
theorem qW {N:Nat} {c:CaseD} {p:C1} {k i:Int} {w:Bool} {j:Nat} {K:List UInt8→O R} (h:j<c.ties.l.length):Zo N (j:Int) w (C3 c p k i) K=K c.ties.l[j].name:=by
 rw[VP];unfold RQ
 rw[Akv,Ab h,ct,Int.toNat_natCast,Ay La _ _ h]
 simp[TieD.av,El]
theorem VV {N:Nat} {c:CaseD} {k i:Int} {s:List UInt8} {w:Bool} {K:Bool→LA→O R} {n:Nat} (hn:n≤c.ties.l.length) (hs:n<4611686018427387904):∀ (m j fuel:Nat) (p:C1),j+m=n→m<fuel →
  Hl N K s (n:Int) fuel (j:Int) w (C3 c p k i)=K w (C3 c (nd p ((((c.ties.l.map (·.name)).take n).drop j).all fun x=>!(x==s)) (k,i,0) ⟨10,by decide⟩) k i)
 | 0,j,fuel+1,p,b,_=>by
  rw[Hl];unfold Pk
  rw[Iu (by omega),cf,Cx (by simp;omega),List.all_nil,F7]
 | m+1,j,fuel+1,p,b,t=>by
  rw[Hl];unfold Pk
  have h:j<c.ties.l.length:=by omega
  have d:j<((c.ties.l.map (·.name)).take n).length:=by simp;omega
  rw[Hh (by omega),ct,Lh,qW h,Ar (by decide),Bo (by omega),VV hn hs m (j+1) fuel _ (by omega) (by omega),B7 d,List.all_cons,Qj]
  have e:((c.ties.l.map (·.name)).take n)[j]=c.ties.l[j].name:=by simp
  rw[e]
  rcases p with _ | ⟨x,f,q⟩
  ·simp[Bp]
  ·have:(f != 0)=true:=by simpa using q
   simp[Bp,this,nd]
theorem vS {N:Nat} {c:CaseD} {p:C1} {k:Int} {n:Nat} {s:List UInt8} {w:Bool} {K:Bool→LA→O R} (hN:64≤N) (hn:n≤c.ties.l.length) (hs:Es n N) :
  Ww N s w (C3 c p k (n:Int)) K=K w (C3 c (Kj ((c.ties.l.map (·.name)).take n) k n s p) k n):=by
 rw[bI];unfold IU
 rw[Qg hN,Ar (by decide)]
 unfold Kj
 cases m:nd p (Mm s) (k,(n:Int),0) ⟨9,by decide⟩ with
 | none =>
  rw[qU]
  have:=VV (R:=R) (N:=N) (c:=c) (k:=k) (i:=n) (s:=s) (w:=w) (K:=K) hn hs.2 n 0 N none (by omega) hs.1
  simpa using this
 | some x =>
  obtain⟨⟨a,b,f⟩,e,d⟩:=x
  have j:∀ g:Int→O R,At .i64 (List.drop 9 (C3 c (some ((a,b,f),⟨e,d⟩)) k n)) g=g b:=by intro g;simp[C3,CaseD.av,LO,A6]
  rw[j,PR]
  rcases N with _ | N
  ·omega
  ·dsimp only
   rw[Hl];unfold Pk
   rw[Lh]
   have:(e != 0)=true:=by simpa using d
   cases decide (0<b)<;>simp[Bp,this]
theorem fM {N:Nat} {c:CaseD} {p:C1} {k i:Int} {w:Bool} {j:Nat} {K:List UInt8→O R} (h:j<c.outs.l.length):Pl N (j:Int) w (C3 c p k i) K=K c.outs.l[j].name:=by
 rw[FU];unfold AB
 rw[vf,Ab h,ct,Int.toNat_natCast,Ay Db _ _ h]
 simp[OutD.av,El]
theorem VW {N:Nat} {c:CaseD} {k i:Int} {s:List UInt8} {w:Bool} {K:Bool→LA→O R} {n:Nat} (hn:n≤c.outs.l.length) (hs:n<4611686018427387904):∀ (m j fuel:Nat) (p:C1),j+m=n→m<fuel →
  Hm N K s (n:Int) fuel (j:Int) w (C3 c p k i)=K w (C3 c (nd p ((((c.outs.l.map (·.name)).take n).drop j).all fun x=>!(x==s)) (k,i,0) ⟨10,by decide⟩) k i)
 | 0,j,fuel+1,p,b,_=>by
  rw[Hm];unfold Pm
  rw[Iu (by omega),cf,Cx (by simp;omega),List.all_nil,F7]
 | m+1,j,fuel+1,p,b,t=>by
  rw[Hm];unfold Pm
  have h:j<c.outs.l.length:=by omega
  have d:j<((c.outs.l.map (·.name)).take n).length:=by simp;omega
  rw[Hh (by omega),ct,Lh,fM h,Ar (by decide),Bo (by omega),VW hn hs m (j+1) fuel _ (by omega) (by omega),B7 d,List.all_cons,Qj]
  have e:((c.outs.l.map (·.name)).take n)[j]=c.outs.l[j].name:=by simp
  rw[e]
  rcases p with _ | ⟨x,f,q⟩
  ·simp[Bp]
  ·have:(f != 0)=true:=by simpa using q
   simp[Bp,this,nd]
theorem VX {N:Nat} {c:CaseD} {p:C1} {k:Int} {n:Nat} {s:List UInt8} {w:Bool} {K:Bool→LA→O R} (hN:64≤N) (hn:n≤c.outs.l.length) (hs:Es n N) :
  Wx N s w (C3 c p k (n:Int)) K=K w (C3 c (Kj ((c.outs.l.map (·.name)).take n) k n s p) k n):=by
 rw[bK];unfold IZ
 rw[Qg hN,Ar (by decide)]
 unfold Kj
 cases m:nd p (Mm s) (k,(n:Int),0) ⟨9,by decide⟩ with
 | none =>
  rw[qU]
  have:=VW (R:=R) (N:=N) (c:=c) (k:=k) (i:=n) (s:=s) (w:=w) (K:=K) hn hs.2 n 0 N none (by omega) hs.1
  simpa using this
 | some x =>
  obtain⟨⟨a,b,f⟩,e,d⟩:=x
  have j:∀ g:Int→O R,At .i64 (List.drop 9 (C3 c (some ((a,b,f),⟨e,d⟩)) k n)) g=g b:=by intro g;simp[C3,CaseD.av,LO,A6]
  rw[j,PR]
  rcases N with _ | N
  ·omega
  ·dsimp only
   rw[Hm];unfold Pm
   rw[Lh]
   have:(e != 0)=true:=by simpa using d
   cases decide (0<b)<;>simp[Bp,this]
end
end Gx.Cf

namespace Gx.Cf
open Go Go.Proofs
section
variable {R:Type}
theorem Ad1 {N:Nat} {c:CaseD} {p:C1} {k i:Int} {w:Bool} {K:Bool→LA→O R} (hs:Small c N):FL N w (C3 c p k i) K=K w (C3 c (aG c p) 0 0):=by
 rw[mj];unfold eE IE
 simp only[Mw,nX,E8,Au3,Pp rfl hs.res,nY,nZ,n6,qV,Akv,vf,Ar (show(8:Int)≠0 by decide)]
 unfold aG
 cases h:decide (((c.buses.l.length:Nat):Int)≥1) with
 | true=>simp only[beq_self_eq_true,cond_true];simp only[Fb];simp at h;simp[show(1:Int)≤(c.buses.l.length:Int) by omega]
 | false=>simp only[Fb];simp at h;simp[show ¬ ((1:Int)≤(c.buses.l.length:Int)) by simp;omega]
theorem iN {N:Nat} {c:CaseD} {w w0:Bool} (hs:Small c N):∀ (m j fuel:Nat) (p:C1) (k i:Int),j+m=c.buses.l.length→m<fuel →
  ∃ e f:Int,∀ K:Bool→LA→O R,Pf N K (c.buses.l.flatMap BusD.av) c.buses.l.length w0 fuel (c.buses.l.length:Int) (j:Int) w (C3 c p k i)=K w (C3 c (Bj (Acw c) (c.buses.l.drop j) j p) e f)
 | 0,j,fuel+1,p,k,i,q,_=>by
  refine⟨k,i,fun K=>?_⟩
  rw[Pf];unfold CE
  rw[Iu (by omega),cf,Cx (by omega),Bj]
 | m+1,j,fuel+1,p,k,i,q,y=>by
  have h:j<c.buses.l.length:=by omega
  have hN:=hs.n64
  have d:=hs.bus
  obtain⟨e,f,s⟩:=iN (w:=w) (w0:=w0) hs m (j+1) fuel (Acw c j c.buses.l[j] p) 1 j (by omega) (by omega)
  refine⟨e,f,fun K=>?_⟩
  rw[Pf];unfold CE 
  rw[Hh h,ct,Ab h,ct,Int.toNat_natCast,Ay K8 _ _ h,B7 h,Bj,←s K]
  have t:c.buses.l[j] ∈ c.buses.l:=List.getElem_mem h
  have u:=hs.dem _ t
  have n:=@Akw R N c
  generalize c.buses.l[j]=b at *
  have v:Nat.ble 3 (List.length (b.av++List.flatMap BusD.av (List.drop (j+1) c.buses.l)))=true:=by rw[Bx,List.length_append,K8];simp
  have x:List.take 3 (b.av++List.flatMap BusD.av (List.drop (j+1) c.buses.l))=b.av:=List.take_left' (K8 b)
  rw[v,ct,x,K8]
  simp only[BusD.av,List.drop_succ_cons,List.drop_zero,El,A6,D6,Fa,GE,decide_true,Bool.and_true,cond_true,Mw,Bo (show j<4611686018427387904 by have:=d.2;omega)]
  simp only[n hN (show j≤_ by omega) ⟨by have:=d.1;omega,by have:=d.2;omega⟩,Pp rfl u,E8]
  rfl
theorem Ad2 {N:Nat} {c:CaseD} {p:C1} {k i:Int} {w:Bool} (hs:Small c N):∃ b d:Int,∀ K:Bool→LA→O R,FN N w (C3 c p k i) K=K w (C3 c (Bj (Acw c) c.buses.l 0 p) b d):=by
 obtain⟨b,d,h⟩:=iN (R:=R) (w:=w) (w0:=w) hs c.buses.l.length 0 N p k i (by omega) hs.bus.1
 refine⟨b,d,fun K=>?_⟩
 rw[mu];unfold eG
 rw[nY]
 simpa using h K
theorem iO {N:Nat} {c:CaseD} {w w0:Bool} {h0:LA} (hs:Small c N):∀ (m j fuel:Nat) (p:C1) (k i:Int),j+m=c.lines.l.length→m<fuel →
  ∃ e f:Int,∀ K:Bool→LA→O R,Ls N K (c.lines.l.flatMap LineD.av) c.lines.l.length w0 h0 fuel (c.lines.l.length:Int) (j:Int) w (C3 c p k i)=K w (C3 c (Bj (MY c) (c.lines.l.drop j) j p) e f)
 | 0,j,fuel+1,p,k,i,q,_=>by
  refine⟨k,i,fun K=>?_⟩
  rw[Ls];unfold CF
  rw[Iu (by omega),cf,Cx (by omega),Bj]
 | m+1,j,fuel+1,p,k,i,q,y=>by
  have h:j<c.lines.l.length:=by omega
  have hN:=hs.n64
  have d:=hs.lin
  obtain⟨e,f,s⟩:=iO (w:=w) (w0:=w0) (h0:=h0) hs m (j+1) fuel (MY c j c.lines.l[j] p) 2 j (by omega) (by omega)
  refine⟨e,f,fun K=>?_⟩
  rw[Ls];unfold CF IJ RM aW RL aV
  rw[Hh h,ct,Ab h,ct,Int.toNat_natCast,Ay Cb _ _ h,B7 h,Bj,←s K]
  have t:c.lines.l[j] ∈ c.lines.l:=List.getElem_mem h
  have u:=hs.law _ t
  have n:=@vO R N c
  generalize c.lines.l[j]=b at *
  have v:Nat.ble 12 (List.length (b.av++List.flatMap LineD.av (List.drop (j+1) c.lines.l)))=true:=by rw[Bx,List.length_append,Cb];simp
  have x:List.take 12 (b.av++List.flatMap LineD.av (List.drop (j+1) c.lines.l))=b.av:=List.take_left' (Cb b)
  rw[v,ct,x,Cb]
  simp only[LineD.av,List.drop_succ_cons,List.drop_zero,List.take_succ_cons,List.take_zero,List.length_cons,List.length_nil,El,A6,D6,Fa,Bx,GE,A0,Nat.reduceAdd,Nat.reduceLeDiff,decide_true,Bool.and_true,Bool.or_true,cond_true,Nat.zero_add,Mw,Bo (show j<4611686018427387904 by have:=d.2;omega)]
  simp only[n hN (show j≤_ by omega) ⟨by have:=d.1;omega,by have:=d.2;omega⟩,JC,E8,n8 rfl u,iM,Ar (show(1:Int)≠0 by decide),Ar (show(3:Int)≠0 by decide)]
  unfold MY;cases I7 b.re<;>cases I7 b.smin<;>cases I7 b.smax<;>rfl
theorem Ad3 {N:Nat} {c:CaseD} {p:C1} {k i:Int} {w:Bool} (hs:Small c N):∃ b d:Int,∀ K:Bool→LA→O R,FQ N w (C3 c p k i) K=K w (C3 c (Bj (MY c) c.lines.l 0 p) b d):=by
 obtain⟨b,d,h⟩:=iO (R:=R) (w:=w) (w0:=w) (h0:=C3 c p k i) hs c.lines.l.length 0 N p k i (by omega) hs.lin.1
 refine⟨b,d,fun K=>?_⟩
 rw[nC];unfold eK
 rw[nZ]
 simpa using h K
theorem bV {N:Nat} {c:CaseD} {w w0:Bool} (hs:Small c N):∀ (m j fuel:Nat) (p:C1) (k i:Int),j+m=c.stores.l.length→m<fuel →
  ∃ e f:Int,∀ K:Bool→LA→O R,Mx N K (c.stores.l.flatMap StoreD.av) c.stores.l.length w0 fuel (c.stores.l.length:Int) (j:Int) w (C3 c p k i)=K w (C3 c (Bj (Z8 c) (c.stores.l.drop j) j p) e f)
 | 0,j,fuel+1,p,k,i,q,_=>by
  refine⟨k,i,fun K=>?_⟩
  rw[Mx];unfold X8
  rw[Iu (by omega),cf,Cx (by omega),Bj]
 | m+1,j,fuel+1,p,k,i,q,v=>by
  have h:j<c.stores.l.length:=by omega
  have hN:=hs.n64
  have d:=hs.sto
  obtain⟨e,f,s⟩:=bV (w:=w) (w0:=w0) hs m (j+1) fuel (Z8 c j c.stores.l[j] p) 4 j (by omega) (by omega)
  refine⟨e,f,fun K=>?_⟩
  rw[Mx];unfold X8 
  rw[Hh h,ct,Ab h,ct,Int.toNat_natCast,Ay F0 _ _ h,B7 h,Bj,←s K]
  have x:c.stores.l[j] ∈ c.stores.l:=List.getElem_mem h
  skip
  have n:=@vR R N c
  generalize c.stores.l[j]=b at *
  have t:Nat.ble 9 (List.length (b.av++List.flatMap StoreD.av (List.drop (j+1) c.stores.l)))=true:=by rw[Bx,List.length_append,F0];simp
  have u:List.take 9 (b.av++List.flatMap StoreD.av (List.drop (j+1) c.stores.l))=b.av:=List.take_left' (F0 b)
  rw[t,ct,u,F0]
  simp only[StoreD.av,setCells,Cy,List.nil_append,List.append_nil,List.drop_nil,List.drop_succ_cons,List.drop_zero,List.take_succ_cons,List.take_zero,List.length_cons,List.length_nil,El,A6,Bx,GE,A0,Nat.reduceAdd,decide_true,Bool.and_true,Bool.or_true,Bool.not_false,cond_true,Nat.zero_add,Nat.le_refl,Mw,Bo (show j<4611686018427387904 by have:=d.2;omega)]
  simp only[n hN (show j≤_ by omega) ⟨by have:=d.1;omega,by have:=d.2;omega⟩,JC,E8,iM,Ar (show(3:Int)≠0 by decide)]
  unfold Z8;cases I7 b.eff<;>cases decide (b.eff.num>0)<;>rfl
theorem Aaj {N:Nat} {c:CaseD} {p:C1} {k i:Int} {w:Bool} (hs:Small c N):∃ b d:Int,∀ K:Bool→LA→O R,Wv N w (C3 c p k i) K=K w (C3 c (Bj (Z8 c) c.stores.l 0 p) b d):=by
 obtain⟨b,d,h⟩:=bV (R:=R) (w:=w) (w0:=w) hs c.stores.l.length 0 N p k i (by omega) hs.sto.1
 refine⟨b,d,fun K=>?_⟩
 rw[hZ];unfold RP
 rw[qV]
 simpa using h K
theorem ng {N:Nat} {c:CaseD} {w w0:Bool} (hs:Small c N):∀ (m j fuel:Nat) (p:C1) (k i:Int),j+m=c.ties.l.length→m<fuel →
  ∃ e f:Int,∀ K:Bool→LA→O R,So N K (c.ties.l.flatMap TieD.av) c.ties.l.length w0 fuel (c.ties.l.length:Int) (j:Int) w (C3 c p k i)=K w (C3 c (Bj (Acx c) (c.ties.l.drop j) j p) e f)
 | 0,j,fuel+1,p,k,i,u,_=>by
  refine⟨k,i,fun K=>?_⟩
  rw[So];unfold IV
  rw[Iu (by omega),cf,Cx (by omega),Bj]
 | m+1,j,fuel+1,p,k,i,u,A=>by
  have h:j<c.ties.l.length:=by omega
  have hN:=hs.n64
  have d:=hs.tie
  obtain⟨e,f,v⟩:=ng (w:=w) (w0:=w0) hs m (j+1) fuel (Acx c j c.ties.l[j] p) 5 j (by omega) (by omega)
  refine⟨e,f,fun K=>?_⟩
  rw[So];unfold IV 
  rw[Hh h,ct,Ab h,ct,Int.toNat_natCast,Ay La _ _ h,B7 h,Bj,←v K]
  have n:c.ties.l[j] ∈ c.ties.l:=List.getElem_mem h
  have x:=hs.tim _ n;have q:=hs.tex _ n;have s:=hs.tpr _ n
  have t:=@vS R N c
  generalize c.ties.l[j]=b at *
  have y:Nat.ble 5 (List.length (b.av++List.flatMap TieD.av (List.drop (j+1) c.ties.l)))=true:=by rw[Bx,List.length_append,La];simp
  have z:List.take 5 (b.av++List.flatMap TieD.av (List.drop (j+1) c.ties.l))=b.av:=List.take_left' (La b)
  rw[y,ct,z,La]
  simp only[TieD.av,List.drop_succ_cons,List.drop_zero,El,A6,D6,Fa,GE,decide_true,Bool.and_true,cond_true,Mw,Bo (show j<4611686018427387904 by have:=d.2;omega)]
  simp only[t hN (show j≤_ by omega) ⟨by have:=d.1;omega,by have:=d.2;omega⟩,JC,Pp rfl x,Pp rfl q,Pp rfl s]
  rfl
theorem Akx {N:Nat} {c:CaseD} {p:C1} {k i:Int} {w:Bool} (hs:Small c N):∃ b d:Int,∀ K:Bool→LA→O R,RR N w (C3 c p k i) K=K w (C3 c (Bj (Acx c) c.ties.l 0 p) b d):=by
 obtain⟨b,d,h⟩:=ng (R:=R) (w:=w) (w0:=w) hs c.ties.l.length 0 N p k i (by omega) hs.tie.1
 refine⟨b,d,fun K=>?_⟩
 rw[tV];unfold nN
 rw[Akv]
 simpa using h K
end
end Gx.Cf

namespace Gx.Cf
open Go Go.Proofs
section
variable {R:Type}
theorem nh {N:Nat} {c:CaseD} {k i s:Int} {u:UnitD} {o w:Bool} {K:Bool→LA→O R} (hs:u.segs.l.length<4611686018427387904):∀ (m j fuel:Nat) (p:C1),j+1+m=u.segs.l.length→m<fuel →
  Ik N K s o u.av fuel ((j+1:Nat):Int) w (C3 c p k i)=K w (C3 c (nd (nd p (aH (u.segs.l.drop j)) (k,i,4) Ays) (s==IntKind.wrap .i64 (u.max - u.min)) (k,i,4) e4) k i)
 | 0,j,fuel+1,p,b,_=>by
  rw[Ik];unfold M9
  rw[KA,Iu (by omega),cf,B7 (l:=u.segs.l) (j:=j) (by omega),Cx (l:=u.segs.l) (j:=j+1) (by omega),mO,F7,Awt,Awu,Ar (by decide)]
 | m+1,j,fuel+1,p,b,d=>by
  rw[Ik];unfold M9
  have h:j+1<u.segs.l.length:=by omega
  have h':j<u.segs.l.length:=by omega
  simp only[KA]
  rw[Hh h,ct,Ab h,ct,dx h,mM (by omega),Ab h',ct,dx h',Bo (by omega),Ar (by decide),nh hs m (j+1) fuel _ (by omega) (by omega),B7 h',B7 h,FA,Qj]
theorem ni {N:Nat} {c:CaseD} {k i:Int} {u:UnitD} {o w:Bool} {K:Bool→LA→O R} (hs:Es u.segs.l.length N):∀ (m j fuel:Nat) (p:C1) (a:Int),j+m=u.segs.l.length→m<fuel →
  Il N K (u.segs.l.flatMap SegD.av) u.segs.l.length o u.av fuel a (u.segs.l.length:Int) (j:Int) w (C3 c p k i) =
   K w (C3 c (nd (nd (nd p ((u.segs.l.drop j).all sY) (k,i,4) e3) (aH u.segs.l) (k,i,4) Ays) (WY a (u.segs.l.drop j)==IntKind.wrap .i64 (u.max - u.min)) (k,i,4) e4) k i)
 | 0,j,fuel+1,p,a,e,_=>by
  rw[Il];unfold R8
  rw[Iu (by omega),cf,Cx (by omega),List.all_nil,F7,WY]
  rcases d:u.segs.l with _ | ⟨b,r⟩
  ·rw[zA,F7]
   have hN:=hs.1
   rcases N with _ | N
   ·omega
   ·dsimp only
    rw[Ik];unfold M9
    rw[KA,d]
    simp only[List.length_nil,Int.natCast_zero]
    rw[show decide ((1:Int)<0)=false by decide,cf,Awt,Awu,Ar (by decide)]
  ·have:=nh (R:=R) (N:=N) (c:=c) (k:=k) (i:=i) (s:=a) (u:=u) (o:=o) (w:=w) (K:=K) hs.2 r.length 0 N p (by rw[d];simp;omega) (by have:=hs.1;rw[d] at this;simp at this;omega)
   rw[d] at this
   simpa using this
 | m+1,j,fuel+1,p,a,e,t=>by
  rw[Il];unfold R8
  have h:j<u.segs.l.length:=by omega
  have f:=hs.2
  rw[Hh h,ct,Ab h,ct,Int.toNat_natCast,Ay O2 _ _ h,B7 h,List.all_cons,WY,Bo (by omega)]
  have n:Nat.ble 2 (List.length (u.segs.l[j].av++List.flatMap SegD.av (List.drop (j+1) u.segs.l)))=true:=by rw[Bx,List.length_append,O2];simp
  have q:List.take 2 (u.segs.l[j].av++List.flatMap SegD.av (List.drop (j+1) u.segs.l))=u.segs.l[j].av:=List.take_left' (O2 _)
  rw[n,ct,q,O2]
  simp only[SegD.av,setCells,Cy,List.nil_append,List.append_nil,List.drop_nil,List.drop_succ_cons,List.drop_zero,List.take_zero,List.length_cons,List.length_nil,A6,Bx,GE,A0,Nat.reduceAdd,decide_true,Bool.and_true,Bool.or_true,Bool.not_false,cond_true,Nat.zero_add,Nat.le_refl,E8,ni hs m (j+1) fuel _ _ (show j+1+m=_ by omega) (show m<fuel by omega)]
  rw[Qj,Qj,←Bool.and_assoc];rfl
theorem qX {N:Nat} {c:CaseD} {p:C1} {j:Nat} {u:UnitD} {o w:Bool} {K:Bool→LA→O R} (hs:Es u.segs.l.length N) :
  Pi N u.av o w (C3 c p 3 j) K=K w (C3 c (Ajy u j p) 3 j):=by
 rw[VM];unfold CG
 simp only[KA,Ar (show(8:Int)≠0 by decide),Lh]
 have:=ni (R:=R) (N:=N) (c:=c) (k:=3) (i:=j) (u:=u) (o:=o) (w:=w) (K:=K) hs u.segs.l.length 0 N (nd p (decide ((u.segs.l.length:Int)≤8)) (3,j,4) e8) 0 (by omega) hs.1
 simp only[List.drop_zero,Int.natCast_zero] at this
 rw[this]
 unfold Ajy
 cases b:nd p (decide ((u.segs.l.length:Int)≤8)) (3,(j:Int),4) e8 with
 | none=>simp[Bp]
 | some x =>
  have:(x.2.1 != 0)=true:=by simpa using x.2.2
  simp[Bp,this,nd]
theorem t7 {N:Nat} {c:CaseD} {k i:Int} {l:List MoveD} {o w:Bool} {K:Bool→LA→O R} (hs:l.length<4611686018427387904):∀ (m j fuel:Nat) (p:C1),j+m=l.length→m<fuel →
  Tk N K (l.flatMap MoveD.av) l.length o fuel (l.length:Int) (j:Int) w (C3 c p k i)=K w (C3 c (nd p ((l.drop j).all Acy) (k,i,3) e3) k i)
 | 0,j,fuel+1,p,b,_=>by
  rw[Tk];unfold CI
  rw[Iu (by omega),cf,Cx (by omega),List.all_nil,F7]
 | m+1,j,fuel+1,p,b,f=>by
  rw[Tk];unfold CI
  have h:j<l.length:=by omega
  rw[Hh h,ct,Ab h,ct,Int.toNat_natCast,Ay Eo _ _ h,B7 h,List.all_cons,Bo (by omega)]
  have d:Nat.ble 3 (List.length (l[j].av++List.flatMap MoveD.av (List.drop (j+1) l)))=true:=by rw[Bx,List.length_append,Eo];simp
  have e:List.take 3 (l[j].av++List.flatMap MoveD.av (List.drop (j+1) l))=l[j].av:=List.take_left' (Eo _)
  rw[d,ct,e,Eo]
  simp only[MoveD.av,setCells,Cy,List.nil_append,List.append_nil,List.drop_nil,List.drop_succ_cons,List.drop_zero,List.take_zero,List.length_cons,List.length_nil,A6,Bx,GE,A0,Nat.reduceAdd,decide_true,Bool.and_true,Bool.or_true,Bool.not_false,cond_true,Nat.zero_add,Nat.le_refl,E8,t7 hs m (j+1) fuel _ (show j+1+m=_ by omega) (show m<fuel by omega)]
  rw[Qj,Qj,←Bool.and_assoc];rfl
theorem t8 {N:Nat} {c:CaseD} {k i:Int} {u:OutD} {o w:Bool} {K:Bool→LA→O R} (hs:Es u.moves.l.length N) (e:u.moves.l.length≤16):∀ (m j fuel:Nat) (p:C1),j+m=u.moves.l.length→m<fuel →
  Pn N K (u.moves.l.flatMap MoveD.av) u.moves.l.length o u.av fuel j (u.moves.l.length:Int) (j:Int) w (C3 c p k i) (Aq ((u.moves.l.take j).map (·.unit))) =
   K w (C3 c (nd (nd (nd p ((u.moves.l.drop j).all (Ao2 c)) (k,i,3) Ar2) (jd (u.moves.l.map (·.unit))) (k,i,3) Ays) (u.moves.l.all Acy) (k,i,3) e3) k i)
 | 0,j,fuel+1,p,f,_=>by
  rw[Pn];unfold CJ
  have n:j=u.moves.l.length:=by omega
  rw[Iu (by omega),cf,Cx (l:=u.moves.l) (j:=j) (by omega),List.all_nil,F7,Nat.mul_one,List.take_of_length_le (by simp[Ek];omega),List.take_of_length_le (show u.moves.l.length≤j by omega)]
  rw[Ux (by simp;omega) (by simpa using hs),Ar (by decide),vd]
  have:=t7 (R:=R) (N:=N) (c:=c) (k:=k) (i:=i) (l:=u.moves.l) (o:=o) (w:=w) (K:=K) hs.2 u.moves.l.length 0 N (nd p (jd (u.moves.l.map (·.unit))) (k,i,3) Ays) (by omega) hs.1
  simpa using this
 | m+1,j,fuel+1,p,f,x=>by
  rw[Pn];unfold CJ
  have h:j<u.moves.l.length:=by omega
  have q:=hs.2
  have s:Nat.ble 3 (List.length (u.moves.l[j].av++List.flatMap MoveD.av (List.drop (j+1) u.moves.l)))=true:=by rw[Bx,List.length_append,Eo];simp
  have t:List.take 3 (u.moves.l[j].av++List.flatMap MoveD.av (List.drop (j+1) u.moves.l))=u.moves.l[j].av:=List.take_left' (Eo _)
  have y:(Nat.ble (j+1) 140737488355328&&Nat.ble ((j+1)*8) 140737488355328)=true:=by rw[Bx,Bx];simp;omega
  have v:List.take (j*1) (Aq ((u.moves.l.take j).map (·.unit)))++[.int .i64 u.moves.l[j].unit]=Aq ((u.moves.l.take (j+1)).map (·.unit)):=by
   rw[List.take_of_length_le (by simp[Ek];omega),List.take_succ_eq_append_getElem h,List.map_append,←X'];rfl
  rw[Hh h,ct,Ab h,ct,Int.toNat_natCast,Ay Eo _ _ h,B7 h,List.all_cons,Bo (by omega),s,ct,t,Eo]
  simp only[MoveD.av,setCells,Cy,List.nil_append,List.append_nil,List.drop_nil,List.drop_succ_cons,List.take_zero,List.length_cons,List.length_nil,A6,Bx,GE,A0,Nat.reduceAdd,Nat.reduceLeDiff,decide_true,Bool.and_true,Bool.or_true,Bool.not_false,cond_true,Nat.zero_add,Nat.le_refl,n6,Ar (show(12:Int)≠0 by decide),v,t8 hs e m (j+1) fuel _ (show j+1+m=_ by omega) (show m<fuel by omega)]
  rw[Qj,Qj]
  unfold Ao2
  generalize (List.drop (j+1) u.moves.l).all _=r
  have b:(decide (j≤140737488355327)&&decide ((j+1)*8≤140737488355328))=true:=by simp;omega
  by_cases d:0≤u.moves.l[j].unit
  ·have e1:decide (u.moves.l[j].unit≥0)=true:=by simpa using d
   rw[e1,b];rfl
  ·have e1:decide (u.moves.l[j].unit≥0)=false:=by simpa using d
   rw[e1,b];rfl
theorem Ad4 {N:Nat} {c:CaseD} {p:C1} {j:Nat} {u:OutD} {o w:Bool} {K:Bool→LA→O R} (hs:Es u.moves.l.length N) :
  N_ N u.av o w (C3 c p 6 j) K=K w (C3 c (je c u j p) 6 j):=by
 rw[nR];unfold eN I_ RS
 simp only[vd,A1a,Ar (show(16:Int)≠0 by decide),Ar (show(8:Int)≠0 by decide),Lh]
 have key:∀ b:C1,(cond (Bp (nd b (decide ((u.moves.l.length:Int)≤16)) (6,(j:Int),3) e8) != 0) (K w (C3 c (nd b (decide ((u.moves.l.length:Int)≤16)) (6,(j:Int),3) e8) 6 j))
   (Pn N K (u.moves.l.flatMap MoveD.av) u.moves.l.length o u.av N 0 (u.moves.l.length:Int) 0 w (C3 c (nd b (decide ((u.moves.l.length:Int)≤16)) (6,(j:Int),3) e8) 6 j) [])) =
   K w (C3 c (nd (nd (nd (nd b (decide ((u.moves.l.length:Int)≤16)) (6,(j:Int),3) e8) (u.moves.l.all (Ao2 c)) (6,j,3) Ar2) (jd (u.moves.l.map (·.unit))) (6,j,3) Ays) (u.moves.l.all Acy) (6,j,3) e3) 6 j):=by
  intro b
  cases d:nd b (decide ((u.moves.l.length:Int)≤16)) (6,(j:Int),3) e8 with
  | none =>
   have e:u.moves.l.length≤16:=by
    rcases b with _ | x
    ·by_cases e:u.moves.l.length≤16
     ·exact e
     ·have:decide ((u.moves.l.length:Int)≤16)=false:=by simp;omega
      rw[this] at d;simp[nd] at d
    ·simp[nd] at d
   have:=t8 (R:=R) (N:=N) (c:=c) (k:=6) (i:=j) (u:=u) (o:=o) (w:=w) (K:=K) hs e u.moves.l.length 0 N none (by omega) hs.1
   simp only[List.take_zero,List.map_nil,List.drop_zero,Int.natCast_zero,Aq] at this
   simp only[Bp,bne_self_eq_false,cond_false]
   exact this
  | some x =>
   have:(x.2.1 != 0)=true:=by simpa using x.2.2
   simp[Bp,this,nd]
 unfold je
 cases f:((u.moves.l.length:Int)==0) with
 | true=>simp only[Bool.true_or,cond_false,show(true==false)=false from rfl];exact key _
 | false=>simp only[beq_self_eq_true,Bool.false_or,cond_true,cond_false];exact key _
theorem iP {N:Nat} {c:CaseD} {w w0:Bool} {h0:LA} (hs:Small c N):∀ (m j fuel:Nat) (p:C1) (k i:Int),j+m=c.units.l.length→m<fuel →
  ∃ e f:Int,∀ K:Bool→LA→O R,Lt N K (c.units.l.flatMap UnitD.av) c.units.l.length w0 h0 fuel (c.units.l.length:Int) (j:Int) w (C3 c p k i)=K w (C3 c (Bj (UQ c) (c.units.l.drop j) j p) e f)
 | 0,j,fuel+1,p,k,i,v,_=>by
  refine⟨k,i,fun K=>?_⟩
  rw[Lt];unfold CH
  rw[Iu (by omega),cf,Cx (by omega),Bj]
 | m+1,j,fuel+1,p,k,i,v,C=>by
  have h:j<c.units.l.length:=by omega
  have hN:=hs.n64
  have d:=hs.uni
  obtain⟨e,f,x⟩:=iP (w:=w) (w0:=w0) (h0:=h0) hs m (j+1) fuel (UQ c j c.units.l[j] p) 3 j (by omega) (by omega)
  refine⟨e,f,fun K=>?_⟩
  rw[Lt];unfold CH IP RO bB RN bA
  rw[Hh h,ct,Ab h,ct,Int.toNat_natCast,Ay Dg _ _ h,B7 h,Bj,←x K]
  have t:c.units.l[j] ∈ c.units.l:=List.getElem_mem h
  have y:=hs.seg _ t;have n:=hs.uaw _ t
  have q:=@vP R N c
  generalize c.units.l[j]=b at *
  have z:Nat.ble 22 (List.length (b.av++List.flatMap UnitD.av (List.drop (j+1) c.units.l)))=true:=by rw[Bx,List.length_append,Dg];simp
  have A:List.take 22 (b.av++List.flatMap UnitD.av (List.drop (j+1) c.units.l))=b.av:=List.take_left' (Dg b)
  rw[z,ct,A,Dg]
  have s:∀ (p:C1) (K:Bool→LA→O R),Pi N [.str b.name,.int .i64 b.bus,.int .i64 b.min,.int .i64 b.max,b.segs.av 2 SegD.av,.int .i64 b.noLoad,.int .i64 b.rampUp,.int .i64 b.rampDown,.int .i64 b.startRamp,.int .i64 b.stopRamp,.int .i64 b.upTime,.int .i64 b.downTime,.int .i64 b.startTime,.int .i64 b.hotCost,.int .i64 b.coldCost,.int .i64 b.hotHours,.int .i64 b.reserve,.int .i64 b.reservePrice,b.away.av 1 JV,.int .i64 b.state,.int .i64 b.hours,.int .i64 b.output] w0 w (C3 c p 3 j) K=K w (C3 c (Ajy b j p) 3 j):=fun p K=>qX y
  simp only[UnitD.av,List.drop_succ_cons,List.drop_zero,List.take_succ_cons,List.take_zero,El,A6,D6,Fa,Bx,GE,decide_true,Bool.and_true,cond_true,cond_false,Nat.le_refl,Mw,Bo (show j<4611686018427387904 by have:=d.2;omega)]
  simp only[q hN (show j≤_ by omega) ⟨by have:=d.1;omega,by have:=d.2;omega⟩,JC,E8,s,n8 rfl n,Ar (show(12:Int)≠0 by decide),Ar (show(16:Int)≠0 by decide),Ar (show(3:Int)≠0 by decide)]
  unfold UQ
  unfold Fb
  by_cases u:b.state=0
  ·simp[u]
  ·by_cases s1:b.state=1
   ·simp[s1]
   ·by_cases s2:b.state=2
    ·simp[s2]
    ·have a0:(b.state==0)=false:=by simpa using u
     have a1:(b.state==1)=false:=by simpa using s1
     have a2:(b.state==2)=false:=by simpa using s2
     have a3:(decide (0≤b.state)&&decide (b.state≤2))=false:=by simp;omega
     have a4:(b.state != 1)=true:=by simpa using s1
     simp[a0,a1,a2,a3,a4]
theorem Ad5 {N:Nat} {c:CaseD} {p:C1} {k i:Int} {w:Bool} (hs:Small c N):∃ b d:Int,∀ K:Bool→LA→O R,FR N w (C3 c p k i) K=K w (C3 c (Bj (UQ c) c.units.l 0 p) b d):=by
 obtain⟨b,d,h⟩:=iP (R:=R) (w:=w) (w0:=w) (h0:=C3 c p k i) hs c.units.l.length 0 N p k i (by omega) hs.uni.1
 refine⟨b,d,fun K=>?_⟩
 rw[nF];unfold eM
 rw[n6]
 simpa using h K
end
end Gx.Cf

namespace Gx.Cf
open Go Go.Proofs
section
variable {R:Type}
def A43 (c:CaseD) (n:Int):Bool:=decide (0≤n)&&decide (n<(c.lines.l.length:Int))
theorem A38 {u:OutD}:List.take 4 u.av=u.av:=rfl
theorem RU {N:Nat} {c:CaseD} {j:Nat} {x:OutD} {w w0:Bool} {l1 h0:LA} {m2:Nat} {a i12:Int} {K0:Int→Int→Bool→LA→O R} {K:Bool→LA→O R} (hs:Es x.lines.l.length N) (b:Es x.moves.l.length N):∀ (m q fuel:Nat) (p:C1),q+m=x.lines.l.length→m<fuel →
  Ns N K0 K l1 m2 w0 a (Aq x.lines.l) x.lines.l.length x.av h0 fuel i12 (x.lines.l.length:Int) (q:Int) w (C3 c p 6 j) =
   K0 a (IntKind.wrap .i64 (i12+1)) w (C3 c (je c x j (nd (nd p ((x.lines.l.drop q).all (A43 c)) (6,j,1) Ar2) (jd x.lines.l) (6,j,1) Ays)) 6 j)
 | 0,q,fuel+1,p,e,_=>by
  rw[Ns];unfold Uu
  rw[Iu (by omega),cf,Cx (l:=x.lines.l) (j:=q) (by omega),List.all_nil,F7,mP,Ux rfl hs,Ar (by decide),A38,Ad4 b];rfl
 | m+1,q,fuel+1,p,e,i=>by
  rw[Ns];unfold Uu
  have h:q<x.lines.l.length:=by omega
  have f:=hs.2
  rw[Hh h,ct,Ab h,ct,E' h,nZ,Ar (by decide),Ar (by decide),Bo (by omega),RU hs b m (q+1) fuel _ (by omega) (by omega),RU hs b m (q+1) fuel _ (by omega) (by omega),B7 h,List.all_cons,Qj,Qj]
  unfold A43
  generalize (List.drop (q+1) x.lines.l).all _=r
  by_cases d:0≤x.lines.l[q]
  ·have e1:decide (x.lines.l[q]≥0)=true:=by simpa using d
   rw[e1];rfl
  ·have e1:decide (x.lines.l[q]≥0)=false:=by simpa using d
   rw[e1];rfl
theorem VY {N:Nat} {c:CaseD} {w w0:Bool} {h0:LA} (hs:Small c N):∀ (m j fuel:Nat) (p:C1) (k i:Int),j+m=c.outs.l.length→m<fuel →
  ∃ D F:Int,∀ K:Bool→LA→O R,Ev N K (c.outs.l.flatMap OutD.av) c.outs.l.length w0 h0 fuel (c.outs.l.length:Int) (j:Int) w (C3 c p k i)=K w (C3 c (Bj (jf c) (c.outs.l.drop j) j p) D F)
 | 0,j,fuel+1,p,k,i,G,_=>by
  refine⟨k,i,fun K=>?_⟩
  rw[Ev];unfold Po
  rw[Iu (by omega),cf,Cx (by omega),Bj]
 | m+1,j,fuel+1,p,k,i,G,S=>by
  have h:j<c.outs.l.length:=by omega
  have hN:=hs.n64
  have d:=hs.out
  have z:c.outs.l[j] ∈ c.outs.l:=List.getElem_mem h
  have A:=hs.oli _ z
  have t:=hs.omo _ z
  obtain⟨I,i1,L⟩:=VY (w:=w) (w0:=w0) (h0:=h0) hs m (j+1) fuel (jf c j c.outs.l[j] p) 6 j (by omega) (by omega)
  cases e:nd (Kj ((c.outs.l.map (·.name)).take j) 6 j c.outs.l[j].name p) ((c.outs.l[j].lines.l.length:Int)==1||(c.outs.l[j].lines.l.length:Int)==2) (6,(j:Int),1) e4 with
  | none =>
   refine⟨I,i1,fun K=>?_⟩
   rw[Ev];unfold Po Rm Uv
   rw[Hh h,ct,Ab h,ct,Int.toNat_natCast,Ay Db _ _ h,B7 h,Bj,←L K]
   have q:=@VX R N c
   generalize c.outs.l[j]=b at *
   have u:Nat.ble 4 (List.length (b.av++List.flatMap OutD.av (List.drop (j+1) c.outs.l)))=true:=by rw[Bx,List.length_append,Db];simp
   have v:List.take 4 (b.av++List.flatMap OutD.av (List.drop (j+1) c.outs.l))=b.av:=List.take_left' (Db b)
   rw[u,ct,v,Db]
   have n:∀ f:List UInt8→O R,BT b.av f=f b.name:=fun f=>by simp[OutD.av,El]
   simp only[GE,decide_true,Bool.and_true,Bool.true_and,cond_true,Mw,n,mP,q hN (show j≤_ by omega) ⟨by have:=d.1;omega,by have:=d.2;omega⟩,Ar (show(4:Int)≠0 by decide),Lh]
   have l2:=fun p=>RU (R:=R) (N:=N) (c:=c) (j:=j) (x:=b) (w:=w) (w0:=w0) (l1:=c.outs.l.flatMap OutD.av) (h0:=h0) (m2:=c.outs.l.length) (a:=c.outs.l.length) (i12:=j) (K0:=Ev N K (c.outs.l.flatMap OutD.av) c.outs.l.length w0 h0 fuel) (K:=K) A t b.lines.l.length 0 N p (by omega) A.1
   simp only[List.drop_zero,Int.natCast_zero] at l2
   simp only[l2,Bo (show j<4611686018427387904 by have:=d.2;omega)]
   unfold jf
   cases s:((b.lines.l.length:Int)==1) with
   | true =>
    rw[s] at e
    simp only[Bool.true_or] at e
    simp only[show(true==false)=false from rfl,cond_false,Bool.true_or,e,Bp,bne_self_eq_false];rfl
   | false =>
    rw[s] at e
    simp only[Bool.false_or] at e
    simp only[beq_self_eq_true,cond_true,cond_false,Bool.false_or,e,Bp,bne_self_eq_false];rfl
  | some y =>
   have C:(y.2.1 != 0)=true:=by simpa using y.2.2
   have M:jf c j c.outs.l[j] p=some y:=by unfold jf;simp only;rw[e];rfl
   refine⟨6,j,fun K=>?_⟩
   rw[Ev];unfold Po Rm Uv
   rw[Hh h,ct,Ab h,ct,Int.toNat_natCast,Ay Db _ _ h,B7 h,Bj,M,Bf (fun _ _=>Nq)]
   have q:=@VX R N c
   generalize c.outs.l[j]=b at *
   have u:Nat.ble 4 (List.length (b.av++List.flatMap OutD.av (List.drop (j+1) c.outs.l)))=true:=by rw[Bx,List.length_append,Db];simp
   have v:List.take 4 (b.av++List.flatMap OutD.av (List.drop (j+1) c.outs.l))=b.av:=List.take_left' (Db b)
   rw[u,ct,v,Db]
   have n:∀ f:List UInt8→O R,BT b.av f=f b.name:=fun f=>by simp[OutD.av,El]
   simp only[GE,decide_true,Bool.and_true,Bool.true_and,cond_true,Mw,n,mP,q hN (show j≤_ by omega) ⟨by have:=d.1;omega,by have:=d.2;omega⟩,Ar (show(4:Int)≠0 by decide),Lh]
   cases s:((b.lines.l.length:Int)==1) with
   | true =>
    rw[s] at e
    simp only[Bool.true_or] at e
    simp only[show(true==false)=false from rfl,cond_false,e,Bp,C,cond_true]
   | false =>
    rw[s] at e
    simp only[Bool.false_or] at e
    simp only[beq_self_eq_true,cond_true,cond_false,e,Bp,C]
theorem vT {N:Nat} {c:CaseD} {p:C1} {k i:Int} {w:Bool} (hs:Small c N):∃ b d:Int,∀ K:Bool→LA→O R,Sp N w (C3 c p k i) K=K w (C3 c (Bj (jf c) c.outs.l 0 p) b d):=by
 obtain⟨b,d,h⟩:=VY (R:=R) (w:=w) (w0:=w) (h0:=C3 c p k i) hs c.outs.l.length 0 N p k i (by omega) hs.out.1
 refine⟨b,d,fun K=>?_⟩
 rw[bS];unfold JA
 rw[vf]
 simpa using h K
end
end Gx.Cf

namespace Gx.Cf
theorem Conn.add {es:List (Nat×Nat)} {u v a b:Nat} (h:Conn (es++[(u,v)]) a b):Conn es a b∨(Conn es a u∧Conn es v b)∨(Conn es a v∧Conn es u b):=by
 induction h with
 | refl=>exact .inl (.refl _)
 | fwd c _ e =>
  rename_i x y i _
  rcases List.mem_append.1 c with c | c
  ·rcases e with e | ⟨f,d⟩ | ⟨f,d⟩
   ·exact .inl (.fwd c e)
   ·exact .inr (.inl ⟨.fwd c f,d⟩)
   ·exact .inr (.inr ⟨.fwd c f,d⟩)
  ·simp at c;obtain⟨rfl,rfl⟩:=c
   rcases e with e | ⟨f,d⟩ | ⟨f,d⟩
   ·exact .inr (.inl ⟨.refl _,e⟩)
   ·exact .inr (.inl ⟨.refl _,d⟩)
   ·exact .inl d
 | bwd c _ e =>
  rename_i x y i _
  rcases List.mem_append.1 c with c | c
  ·rcases e with e | ⟨f,d⟩ | ⟨f,d⟩
   ·exact .inl (.bwd c e)
   ·exact .inr (.inl ⟨.bwd c f,d⟩)
   ·exact .inr (.inr ⟨.bwd c f,d⟩)
  ·simp at c;obtain⟨rfl,rfl⟩:=c
   rcases e with e | ⟨f,d⟩ | ⟨f,d⟩
   ·exact .inr (.inr ⟨.refl _,e⟩)
   ·exact .inl d
   ·exact .inr (.inr ⟨.refl _,d⟩)
theorem Conn.new {es:List (Nat×Nat)} {u v:Nat}:Conn (es++[(u,v)]) u v:=.fwd (List.mem_append.2 (.inr (by simp))) (.refl _)
theorem Conn.old {es:List (Nat×Nat)} {e:Nat×Nat} {a b:Nat} (h:Conn es a b):Conn (es++[e]) a b:=h.mono fun _ c=>List.mem_append.2 (.inl c)
theorem Aak (es:List (Nat×Nat)):∀ u:Nat,∃ r,r≤u∧Conn es r u∧Re es r:=by
 intro u
 induction u using Nat.strongRecOn with
 | ind u d =>
  by_cases h:Re es u
  ·exact⟨u,Nat.le_refl _,.refl _,h⟩
  ·unfold Re at h
   have:∃ a,a<u∧Conn es a u:=by
    apply Classical.byContradiction
    intro hn
    exact h fun a b c=>hn ⟨a,b,c⟩
   obtain⟨a,b,c⟩:=this
   obtain⟨r,i,e,f⟩:=d a b
   exact⟨r,by omega,e.trans c,f⟩
theorem OB {es:List (Nat×Nat)} {r a:Nat} (h:Re es r) (b:Conn es a r):r≤a:=Nat.le_of_not_lt fun c=>h a c b
theorem Aal {p q:Nat→Bool} {m:Nat}:∀ {l:List Nat},l.Nodup→m ∈ l→p m=true→(∀ b ∈ l,q b=(p b&&decide (b≠m)))→(l.filter p).length=(l.filter q).length+1
 | [],_,f,_,_=>by simp at f
 | a::r,i,f,n,hq=>by
  rw[List.nodup_cons] at i
  by_cases j:a=m
  ·subst j
   have e:(r.filter p)=(r.filter q):=List.filter_congr fun b d=>by
    rw[hq b (List.mem_cons_of_mem _ d)]
    have:b≠a:=fun e=>by subst e;exact i.1 d
    simp[this]
   have c:=hq a (by simp)
   simp at c
   simp[List.filter_cons,n,c,e]
  ·have k:m ∈ r:=by
    rcases List.mem_cons.1 f with h | h
    ·exact absurd h.symm j
    ·exact h
   have s:=Aal (p:=p) (q:=q) i.2 k n (fun b d=>hq b (List.mem_cons_of_mem _ d))
   have c:=hq a (by simp)
   simp[j] at c
   rw[List.filter_cons,List.filter_cons,c]
   cases p a<;>simp[s]
theorem Au4 {n:Nat} {es:List (Nat×Nat)} {u v:Nat} (h:Conn es u v):I3 n (es++[(u,v)])=I3 n es:=by
 unfold I3
 congr 1
 apply List.filter_congr
 intro b _
 have:Re (es++[(u,v)]) b↔Re es b:=by
  constructor
  ·intro c a d f;exact c a d f.old
  ·intro c a d f
   rcases f.add with e | ⟨e,i⟩ | ⟨e,i⟩
   ·exact c a d e
   ·exact c a d (e.trans (h.trans i))
   ·exact c a d (e.trans (h.symm.trans i))
 simp[this]
open Classical in
theorem Au5 {n:Nat} {es:List (Nat×Nat)} {u v:Nat} (hu:u<n) (hv:v<n) (h:¬ Conn es u v):I3 n es=I3 n (es++[(u,v)])+1:=by
 obtain⟨ru,u1,u2,u3⟩:=Aak es u
 obtain⟨rv,v1,v2,v3⟩:=Aak es v
 have hne:ru≠rv:=fun e=>by subst e;exact h (u2.symm.trans v2)
 unfold I3
 refine Aal (m:=max ru rv) List.nodup_range (by rw[List.mem_range];omega) ?_ ?_
 ·have:Re es (max ru rv):=by rcases Nat.le_total ru rv with h1 | h1<;>simp[h1,Nat.max_eq_right,Nat.max_eq_left,u3,v3]
  simp[this]
 ·intro b _
  have:Re (es++[(u,v)]) b↔Re es b∧b≠max ru rv:=by
   constructor
   ·intro hm
    refine⟨fun a ha hc=>hm a ha hc.old,fun e=>?_⟩
    rcases Nat.lt_or_gt_of_ne hne with h1 | h1
    ·rw[Nat.max_eq_right (by omega)] at e;subst e
     exact hm ru h1 (u2.old.trans (Conn.new.trans v2.old.symm))
    ·rw[Nat.max_eq_left (by omega)] at e;subst e
     exact hm rv h1 (v2.old.trans (Conn.new.symm.trans u2.old.symm))
   ·rintro⟨hm,hne2⟩ a ha hc
    rcases hc.add with h1 | ⟨h1,h2⟩ | ⟨h1,h2⟩
    ·exact hm a ha h1
    ·
     have e1:b≤rv:=OB hm (v2.trans h2)
     have e2:rv≤b:=OB v3 (h2.symm.trans v2.symm)
     have e3:ru≤a:=OB u3 (h1.trans u2.symm)
     omega
    ·have e1:b≤ru:=OB hm (u2.trans h2)
     have e2:ru≤b:=OB u3 (h2.symm.trans u2.symm)
     have e3:rv≤a:=OB v3 (h1.trans v2.symm)
     omega
  have hd:decide (Re (es++[(u,v)]) b)=decide (Re es b∧b≠max ru rv):=by simp only[this]
  rw[hd]
  by_cases x:Re es b<;>by_cases y:b=max ru rv<;>simp[x,y]
theorem Ayx (n:Nat):I3 n []=n:=by
 have h0:∀ a b,Conn [] a b→a=b:=by
  intro a b h
  induction h with
  | refl=>rfl
  | fwd c=>simp at c
  | bwd c=>simp at c
 unfold I3
 rw[List.filter_eq_self.2]
 ·simp
 ·intro b _
  have:Re [] b:=fun a e d=>by have:=h0 a b d;omega
  simp[this]
def nk (L:List Int) (tx fr:Int):List Int:=L.map fun x=>cond (x==tx) fr x
def FX (st:List Int×Int) (e:Nat×Nat):List Int×Int :=
 cond (st.1.getD e.1 0==st.1.getD e.2 0) st (nk st.1 (st.1.getD e.2 0) (st.1.getD e.1 0),st.2 - 1)
theorem Aqe {f:Int→Int} {L:List Int} {a:Nat} (h:a<L.length):(L.map f).getD a 0=f (L.getD a 0):=by
 rw[List.getD_eq_getElem?_getD,List.getD_eq_getElem?_getD,List.getElem?_map,List.getElem?_eq_getElem h];rfl
theorem Ayy {n:Nat} {es:List (Nat×Nat)} {st:List Int×Int} {e:Nat×Nat} (h:UfOk n es st) (m:e.1<n) (q:e.2<n):UfOk n (es++[e]) (FX st e):=by
 obtain⟨u,v⟩:=e
 unfold FX
 by_cases s:st.1.getD u 0=st.1.getD v 0
 ·have c:(st.1.getD u 0==st.1.getD v 0)=true:=by simpa using s
  simp only[c,cond_true]
  have d:=(h.iff u v m q).1 s
  refine⟨h.len,fun a b k l=>?_,by rw[Au4 d];exact h.cnt⟩
  rw[h.iff a b k l]
  constructor
  ·exact Conn.old
  ·intro i
   rcases i.add with c | ⟨c,f⟩ | ⟨c,f⟩
   ·exact c
   ·exact c.trans (d.trans f)
   ·exact c.trans (d.symm.trans f)
 ·have c:(st.1.getD u 0==st.1.getD v 0)=false:=by simpa using s
  simp only[c,cond_false]
  have d:¬ Conn es u v:=fun x=>s ((h.iff u v m q).2 x)
  refine⟨by simp[nk,h.len],fun a b k l=>?_,by
   have e:=Au5 (n:=n) (es:=es) (u:=u) (v:=v) m q d
   show st.2 - 1=_
   rw[h.cnt,e];omega⟩
  have t:a<st.1.length:=by rw[h.len];exact k
  have z:b<st.1.length:=by rw[h.len];exact l
  unfold nk
  rw[Aqe t,Aqe z]
  have iff':=h.iff a b k l
  have av:=h.iff a v k q
  have bv:=h.iff b v l q
  have au:=h.iff a u k m
  have bu:=h.iff b u l m
  by_cases x:st.1.getD a 0=st.1.getD v 0<;>by_cases y:st.1.getD b 0=st.1.getD v 0
  ·have A:Conn es a b:=iff'.1 (x.trans y.symm)
   have x':(st.1.getD a 0==st.1.getD v 0)=true:=by simpa using x
   have j:(st.1.getD b 0==st.1.getD v 0)=true:=by simpa using y
   simp only[x',j,cond_true,true_iff]
   exact A.old
  ·have x':(st.1.getD a 0==st.1.getD v 0)=true:=by simpa using x
   have j:(st.1.getD b 0==st.1.getD v 0)=false:=by simpa using y
   simp only[x',j,cond_true,cond_false]
   constructor
   ·intro e;exact((av.1 x).old.trans Conn.new.symm).trans (bu.1 e.symm).symm.old
   ·intro i
    rcases i.add with c | ⟨c,f⟩ | ⟨c,f⟩
    ·exact absurd (bv.2 (c.symm.trans (av.1 x))) y
    ·exact absurd (c.symm.trans (av.1 x)) d
    ·exact(bu.2 f.symm).symm
  ·have x':(st.1.getD a 0==st.1.getD v 0)=false:=by simpa using x
   have j:(st.1.getD b 0==st.1.getD v 0)=true:=by simpa using y
   simp only[x',j,cond_true,cond_false]
   constructor
   ·intro e;exact(au.1 e).old.trans (Conn.new.trans (bv.1 y).symm.old)
   ·intro i
    rcases i.add with c | ⟨c,f⟩ | ⟨c,f⟩
    ·exact absurd (av.2 (c.trans (bv.1 y))) x
    ·exact au.2 c
    ·exact absurd (f.trans (bv.1 y)) d
  ·have x':(st.1.getD a 0==st.1.getD v 0)=false:=by simpa using x
   have j:(st.1.getD b 0==st.1.getD v 0)=false:=by simpa using y
   simp only[x',j,cond_false]
   rw[iff']
   constructor
   ·exact Conn.old
   ·intro i
    rcases i.add with c | ⟨c,f⟩ | ⟨c,f⟩
    ·exact c
    ·exact absurd (bv.2 f.symm) y
    ·exact absurd (av.2 c) x
theorem A2y (n:Nat):UfOk n [] (Fj n,(n:Int)):=by
 refine⟨by simp[Fj],fun a b d f=>?_,by rw[Ayx]⟩
 simp only[dy d,dy f]
 constructor
 ·intro e;have:a=b:=by omega
  subst this;exact .refl _
 ·intro h
  have h0:∀ a b,Conn [] a b→a=b:=by
   intro a b h
   induction h with
   | refl=>rfl
   | fwd c=>simp at c
   | bwd c=>simp at c
  rw[h0 a b h]
theorem Aw3 {n:Nat}:∀ (fs es:List (Nat×Nat)) (st:List Int×Int),UfOk n es st→(∀ e ∈ fs,e.1<n∧e.2<n)→UfOk n (es++fs) (fs.foldl FX st)
 | [],es,st,h,_=>by simpa using h
 | e::r,es,st,h,b=>by
  rw[List.foldl_cons]
  have:=Aw3 r (es++[e]) (FX st e) (Ayy h (b e (by simp)).1 (b e (by simp)).2) (fun x c=>b x (List.mem_cons_of_mem _ c))
  simpa using this
theorem Aqf {n:Nat} {es:List (Nat×Nat)} (b:∀ e ∈ es,e.1<n∧e.2<n):(es.foldl FX (Fj n,(n:Int))).2=(I3 n es:Int):=by
 have:=(Aw3 es [] _ (A2y n) b).cnt
 simpa using this
end Gx.Cf

namespace Gx
open Go Go.Proofs
open IntKind (wrap)
set_option maxRecDepth 100000
noncomputable section
variable {R:Type} (N:Nat)
def CP (N:Nat) (k1:Int→Int→Int→LA→O R) (r0:Int→O R) (b:Nat) (o p:Int) (e:LA) (d:Nat) (f g:Bool) (l q:Int) (i:Bool) (c:LA) (k3:Int→Int→Int→LA→O R) (y z t:Int) (v:LA):O R :=
 (cond (decide (t<z)) (cond (Ah t b) (At .i64 (v.drop (0+((t.toNat)*1))) fun ae=>(cond (ae==p) (cond (Ah t b) (cond ((Nat.beq 1 1)&&((Nat.ble ((0+((t.toNat)*1))+1) (v.length))&&(!false))) (k3 y z (wrap .i64 (t+1)) (v.set (0+((t.toNat)*1)) (.int .i64 o))) none) none) (k3 y z (wrap .i64 (t+1)) v))) none) (k1 y l (wrap .i64 (q+1)) v))
def Tl (k1:Int→Int→Int→LA→O R) (r0:Int→O R) (b:Nat) (o p:Int) (e:LA) (d:Nat) (f g:Bool) (l q:Int) (i:Bool) (c:LA):Nat→Int→Int→Int→LA→O R
 | 0,_,_,_,_=>none
 | n+1,y,z,t,v=>(CP N k1 r0 b o p e d f g l q i c (Tl k1 r0 b o p e d f g l q i c n) y z t v)
def RV (N:Nat) (k1:Int→Int→Int→LA→O R) (r0:Int→O R) (b:Nat) (m o p:Int) (e:LA) (d:Nat) (f g:Bool) (l:Int) (i:Bool) (c:LA) (q3:Int→Int→Int→LA→O R) (q:Int) (aa:LA):O R :=
 (q3 (wrap .i64 (m - 1)) ((b:Nat):Int) 0 aa)
def JD (k1:Int→Int→Int→LA→O R) (r0:Int→O R) (b:Nat) (m o p:Int) (e:LA) (d:Nat) (f g:Bool) (l:Int) (i:Bool) (c:LA) (q:Int) (aa:LA):O R:=(RV N k1 r0 b m o p e d f g l i c (fun y z t v=>(Tl N k1 r0 b o p e d f g l q i c N y z t v)) q aa)
def CQ (r0:Int→O R) (b:Nat) (e:LA) (d:Nat) (f g i:Bool) (c:LA) (k1:Int→Int→Int→LA→O R) (q2:Int→Int→Int→LA→O R) (m l r:Int) (s:LA):O R :=
 (cond (decide (r<l)) (cond (Ah r d) (At .i64 (e.drop ((r.toNat)*1)) fun ab=>(Bw 12 (c.drop 3) fun af ag=>(cond (Ah ab ag) (At .i64 ((af.drop ((ab.toNat)*12)).drop 1) fun ac=>(cond (Ah ac b) (At .i64 (s.drop (0+((ac.toNat)*1))) fun o=>(Bw 12 (c.drop 3) fun ah ai=>(cond (Ah ab ai) (At .i64 ((ah.drop ((ab.toNat)*12)).drop 2) fun ad=>(cond (Ah ad b) (At .i64 (s.drop (0+((ad.toNat)*1))) fun p=>(cond ((o==p)==false) (De N ab (q2 o p r s)) (k1 m l (wrap .i64 (r+1)) s))) none)) none))) none)) none))) none) (r0 m))
def Lu (r0:Int→O R) (b:Nat) (e:LA) (d:Nat) (f g i:Bool) (c:LA):Nat→Int→Int→Int→LA→O R
 | 0,_,_,_,_=>none
 | n+1,m,l,r,s=>(CQ N r0 b e d f g i c (Lu r0 b e d f g i c n) (fun o p q aa=>(JD N (Lu r0 b e d f g i c n) r0 b m o p e d f g l i c q aa)) m l r s)
def CS (N:Nat) (r0:Int→O R) (e:LA) (d:Nat) (f g:Bool) (b:Nat) (i:Bool) (c:LA) (k0:Int→Int→LA→O R) (q1:Int→Int→Int→LA→O R) (x u:Int) (w:LA):O R :=
 (cond (decide (u<x)) (cond (Ah u b) (cond ((Nat.beq 1 1)&&((Nat.ble ((0+((u.toNat)*1))+1) (w.length))&&(!false))) (k0 x (wrap .i64 (u+1)) (w.set (0+((u.toNat)*1)) (.int .i64 u))) none) none) (q1 ((b:Nat):Int) ((d:Nat):Int) 0 w))
def Pq (r0:Int→O R) (e:LA) (d:Nat) (f g:Bool) (b:Nat) (i:Bool) (c:LA):Nat→Int→Int→LA→O R
 | 0,_,_,_=>none
 | n+1,x,u,w=>(CS N r0 e d f g b i c (Pq r0 e d f g b i c n) (fun m l r s=>(Lu N r0 b e d f g i c N m l r s)) x u w)
def eP (N:Nat) (r0:Int→O R) (q0:Nat→Int→Int→LA→O R) (c:LA) (i:Bool) (e:LA) (d:Nat) (f g:Bool):O R :=
 (Bw 3 (c.drop 2) fun ak b=>(cond ((decide (0≤((b:Nat):Int)))&&((decide (((b:Nat):Int)≤((b:Nat):Int)))&&((decide (((b:Nat):Int)≤140737488355328))&&(decide ((((b:Nat):Int)*((8:Nat):Int))≤140737488355328))))) (q0 b ((b:Nat):Int) 0 (List.replicate b (.int .i64 0))) none))
def OC:=(Ai (fun (N:Nat) (c:LA) (i:Bool) (e:LA) (d:Nat) (f g:Bool) (r0:Int→O R)=>(eP N r0 (fun b x u w=>(Pq N r0 e d f g b i c N x u w)) c i e d f g))).1
theorem nm (c i e d f g r0):(@OC R N c i e d f g r0)=(eP N r0 (fun b x u w=>(Pq N r0 e d f g b i c N x u w)) c i e d f g):=by rw[OC,(Ai _).2]
def t_:Hints:={ H:=(hS hL (hS hL (hS (hS hL (hS (hP [1,2,3,7,20,21] hL) hL)) (hS hL (hS (hS hL (hS (hP [2,3,7,9,31,32,33] (hS hL (hS hL (hS (hS (hS hL (hS hL (hJ [2,3,7,9,12,13,31,32,33] hL (hS hL (hS hL (hS (hP [2,3,7,9,12,13,31,32,33,66,67] hL) hL)))))) hL) hL)))) hL)) hL))))) }
def Aam:Gm:=[(285,Wy N)]
def JE (F:KF R):=Ki Tryz.f251 t_ (Aam N) [] N F
def Fl (F:KF R):Int→O R:=(fun aj=>F (iv aj) [])
def Aqg (b:Nat) (o p:Int) (e:LA) (d:Nat) (f g:Bool) (l q:Int) (i:Bool) (c:LA) (y z t:Int) (v:LA):St:=⟨[(2,.nsl),(3,(op 0)),(7,(.own 300001 0 b)),(9,(iv y)),(12,(iv o)),(13,(iv p)),(31,(.imm e d 1 f g)),(32,(iv l)),(33,(iv q)),(66,(iv z)),(67,(iv t))],(hq [(bP i 0 c),(bQ 1 v)])⟩
def Aqh (F:KF R) (Q1:St→O R):=JE N F [1,1,1,1,0,1,0,0,1,1,0,0,1,1,1,1,1,0] [Q1]
def Aqi (b:Nat) (m o p:Int) (e:LA) (d:Nat) (f g:Bool) (l:Int) (i:Bool) (c:LA) (q:Int) (aa:LA):St:=⟨[(2,.nsl),(3,(op 0)),(7,(.own 300001 0 b)),(9,(iv m)),(12,(iv o)),(13,(iv p)),(31,(.imm e d 1 f g)),(32,(iv l)),(33,(iv q))],(hq [(bP i 0 c),(bQ 1 aa)])⟩
def Aqj (F:KF R) (Q1:St→O R):=JE N F [1,1,1,1,0,1,0,0,1,1,0,0,1,1,1] [Q1]
def Zq (b:Nat) (e:LA) (d:Nat) (f g i:Bool) (c:LA) (m l r:Int) (s:LA):St:=⟨[(2,.nsl),(3,(op 0)),(7,(.own 300001 0 b)),(9,(iv m)),(31,(.imm e d 1 f g)),(32,(iv l)),(33,(iv r))],(hq [(bP i 0 c),(bQ 1 s)])⟩
def ta (F:KF R):=JE N F [1,1,1,1,0,1,0] []
def Aqk (e:LA) (d:Nat) (f g:Bool) (b:Nat) (i:Bool) (c:LA) (x u:Int) (w:LA):St:=⟨[(1,(.imm e d 1 f g)),(2,.nsl),(3,(op 0)),(7,(.own 300001 0 b)),(20,(iv x)),(21,(iv u))],(hq [(bP i 0 c),(bQ 1 w)])⟩
def Aql (F:KF R):=JE N F [1,1,0,1,0] []
theorem bW (Q1:St→O R) (F:KF R) (b:Nat) (o p:Int) (e:LA) (d:Nat) (f g:Bool) (l q:Int) (i:Bool) (c:LA):∀ (n:Nat) (y z t:Int) (v:LA),Ak (Aqh N F Q1) n (Aqg b o p e d f g l q i c y z t v)=(Tl N (fun m l r s=>Q1 (Zq b e d f g i c m l r s)) (Fl F) b o p e d f g l q i c n y z t v)
 | 0,_,_,_,_=>by kernel_rfl
 | n+1,y,z,t,v=>Eq.trans (by kernel_rfl) (Bv (CP N (fun m l r s=>Q1 (Zq b e d f g i c m l r s)) (Fl F) b o p e d f g l q i c · y z t v) (funext fun y=>funext fun z=>funext fun t=>funext fun v=>(bW Q1 F b o p e d f g l q i c n y z t v)):_)
theorem Aan (Q1:St→O R) (F:KF R) (b:Nat) (m o p:Int) (e:LA) (d:Nat) (f g:Bool) (l:Int) (i:Bool) (c:LA):∀ (q:Int) (aa:LA),B8 (Aqj N F Q1) (Aqi b m o p e d f g l i c q aa)=(JD N (fun m l r s=>Q1 (Zq b e d f g i c m l r s)) (Fl F) b m o p e d f g l i c q aa):=by
 intro q aa
 exact Eq.trans (by kernel_rfl) (Bv (RV N (fun m l r s=>Q1 (Zq b e d f g i c m l r s)) (Fl F) b m o p e d f g l i c · q aa) (funext fun y=>funext fun z=>funext fun t=>funext fun v=>(Ac ..).trans (bW N Q1 F b o p e d f g l q i c N y z t v)):_)
theorem bX (F:KF R) (b:Nat) (e:LA) (d:Nat) (f g i:Bool) (c:LA):∀ (n:Nat) (m l r:Int) (s:LA),Ak (ta N F) n (Zq b e d f g i c m l r s)=(Lu N (Fl F) b e d f g i c n m l r s)
 | 0,_,_,_,_=>by kernel_rfl
 | n+1,m,l,r,s=>have e0:=(funext fun m=>funext fun l=>funext fun r=>funext fun s=>(bX F b e d f g i c n m l r s))
  Eq.trans (by kernel_rfl) (PQ (CQ N (Fl F) b e d f g i c · · m l r s) e0 (funext fun o=>funext fun p=>funext fun q=>funext fun aa=>(A2 ..).trans ((Aan N (Ak (ta N F) n) F b m o p e d f g l i c q aa).trans (Bv (JD N · (Fl F) b m o p e d f g l i c q aa) e0))):_)
theorem bY (F:KF R) (e:LA) (d:Nat) (f g:Bool) (b:Nat) (i:Bool) (c:LA):∀ (n:Nat) (x u:Int) (w:LA),Ak (Aql N F) n (Aqk e d f g b i c x u w)=(Pq N (Fl F) e d f g b i c n x u w)
 | 0,_,_,_=>by kernel_rfl
 | n+1,x,u,w=>Eq.trans (by kernel_rfl) (PQ (CS N (Fl F) e d f g b i c · · x u w) (funext fun x=>funext fun u=>funext fun w=>(bY F e d f g b i c n x u w)) (funext fun m=>funext fun l=>funext fun r=>funext fun s=>(Ac ..).trans (bX N F b e d f g i c N m l r s)):_)
theorem tb (c:LA) (i:Bool) (e:LA) (d:Nat) (f g:Bool) (F:KF R):C7 (Aam N) t_ N 251 [(.pagg c i),(.imm e d 1 f g),.nsl] [] F=(OC N c i e d f g (Fl F)):=by
 rw[nm]
 exact Eq.trans (by kernel_rfl) (Bv (eP N (Fl F) · c i e d f g) (funext fun b=>funext fun x=>funext fun u=>funext fun w=>(Ac ..).trans (bY N F e d f g b i c N x u w)):_)
def R9 (N:Nat) (k1:Int→Int→Int→LA→O R) (r0:Int→O R) (e:LA) (f:Nat) (l g:Bool) (b:Nat) (t u:Int) (i:LA) (d:Nat) (m o:Bool) (r q:Int) (p:Bool) (c:LA) (k3:Int→Int→Int→LA→O R) (ab ac w:Int) (y:LA):O R :=
 (cond (decide (w<ac)) (cond (Ah w b) (At .i64 (y.drop (0+((w.toNat)*1))) fun ah=>(cond (ah==u) (cond (Ah w b) (cond ((Nat.beq 1 1)&&((Nat.ble ((0+((w.toNat)*1))+1) (y.length))&&(!false))) (k3 ab ac (wrap .i64 (w+1)) (y.set (0+((w.toNat)*1)) (.int .i64 t))) none) none) (k3 ab ac (wrap .i64 (w+1)) y))) none) (k1 ab r (wrap .i64 (q+1)) y))
def Li (k1:Int→Int→Int→LA→O R) (r0:Int→O R) (e:LA) (f:Nat) (l g:Bool) (b:Nat) (t u:Int) (i:LA) (d:Nat) (m o:Bool) (r q:Int) (p:Bool) (c:LA):Nat→Int→Int→Int→LA→O R
 | 0,_,_,_,_=>none
 | n+1,ab,ac,w,y=>(R9 N k1 r0 e f l g b t u i d m o r q p c (Li k1 r0 e f l g b t u i d m o r q p c n) ab ac w y)
def AC (N:Nat) (k1:Int→Int→Int→LA→O R) (r0:Int→O R) (e:LA) (f:Nat) (l g:Bool) (b:Nat) (s t u:Int) (i:LA) (d:Nat) (m o:Bool) (r q:Int) (p:Bool) (c:LA) (q3:Int→Int→Int→LA→O R) (ad:LA):O R :=
 (q3 (wrap .i64 (s - 1)) ((b:Nat):Int) 0 ad)
def Uy (k1:Int→Int→Int→LA→O R) (r0:Int→O R) (e:LA) (f:Nat) (l g:Bool) (b:Nat) (s t u:Int) (i:LA) (d:Nat) (m o:Bool) (r q:Int) (p:Bool) (c ad:LA):O R:=(AC N k1 r0 e f l g b s t u i d m o r q p c (fun ab ac w y=>(Li N k1 r0 e f l g b t u i d m o r q p c N ab ac w y)) ad)
def Sa (r0:Int→O R) (e:LA) (f:Nat) (l g:Bool) (b:Nat) (i:LA) (d:Nat) (m o p:Bool) (c:LA) (k1:Int→Int→Int→LA→O R) (q2:Int→Int→LA→O R) (s r q:Int) (v:LA):O R :=
 (cond (decide (q<r)) (cond (Ah q d) (At .i64 (i.drop ((q.toNat)*1)) fun ae=>(Bw 12 (c.drop 3) fun ai aj=>(cond (Ah ae aj) (At .i64 ((ai.drop ((ae.toNat)*12)).drop 1) fun af=>(cond (Ah af b) (At .i64 (v.drop (0+((af.toNat)*1))) fun t=>(Bw 12 (c.drop 3) fun ak al=>(cond (Ah ae al) (At .i64 ((ak.drop ((ae.toNat)*12)).drop 2) fun ag=>(cond (Ah ag b) (At .i64 (v.drop (0+((ag.toNat)*1))) fun u=>(cond ((t==u)==false) (C5 N e f false g ae (fun am=>(cond (cond false true am) (k1 s r (wrap .i64 (q+1)) v) (q2 t u v)))) (k1 s r (wrap .i64 (q+1)) v))) none)) none))) none)) none))) none) (r0 s))
def Gj (r0:Int→O R) (e:LA) (f:Nat) (l g:Bool) (b:Nat) (i:LA) (d:Nat) (m o p:Bool) (c:LA):Nat→Int→Int→Int→LA→O R
 | 0,_,_,_,_=>none
 | n+1,s,r,q,v=>(Sa N r0 e f l g b i d m o p c (Gj r0 e f l g b i d m o p c n) (fun t u ad=>(Uy N (Gj r0 e f l g b i d m o p c n) r0 e f l g b s t u i d m o r q p c ad)) s r q v)
def Sb (N:Nat) (r0:Int→O R) (i:LA) (d:Nat) (m o:Bool) (e:LA) (f:Nat) (l g:Bool) (b:Nat) (p:Bool) (c:LA) (k0:Int→Int→LA→O R) (q1:Int→Int→Int→LA→O R) (aa x:Int) (z:LA):O R :=
 (cond (decide (x<aa)) (cond (Ah x b) (cond ((Nat.beq 1 1)&&((Nat.ble ((0+((x.toNat)*1))+1) (z.length))&&(!false))) (k0 aa (wrap .i64 (x+1)) (z.set (0+((x.toNat)*1)) (.int .i64 x))) none) none) (q1 ((b:Nat):Int) ((d:Nat):Int) 0 z))
def In (r0:Int→O R) (i:LA) (d:Nat) (m o:Bool) (e:LA) (f:Nat) (l g:Bool) (b:Nat) (p:Bool) (c:LA):Nat→Int→Int→LA→O R
 | 0,_,_,_=>none
 | n+1,aa,x,z=>(Sb N r0 i d m o e f l g b p c (In r0 i d m o e f l g b p c n) (fun s r q v=>(Gj N r0 e f l g b i d m o p c N s r q v)) aa x z)
def CT (N:Nat) (r0:Int→O R) (q0:Nat→Int→Int→LA→O R) (c:LA) (p:Bool) (i:LA) (d:Nat) (m o:Bool) (e:LA) (f:Nat) (l g:Bool):O R :=
 (Bw 3 (c.drop 2) fun ao b=>(cond ((decide (0≤((b:Nat):Int)))&&((decide (((b:Nat):Int)≤((b:Nat):Int)))&&((decide (((b:Nat):Int)≤140737488355328))&&(decide ((((b:Nat):Int)*((8:Nat):Int))≤140737488355328))))) (q0 b ((b:Nat):Int) 0 (List.replicate b (.int .i64 0))) none))
def Tm:=(Ai (fun (N:Nat) (c:LA) (p:Bool) (i:LA) (d:Nat) (m o:Bool) (e:LA) (f:Nat) (l g:Bool) (r0:Int→O R)=>(CT N r0 (fun b aa x z=>(In N r0 i d m o e f l g b p c N aa x z)) c p i d m o e f l g))).1
theorem VZ (c p i d m o e f l g r0):(@Tm R N c p i d m o e f l g r0)=(CT N r0 (fun b aa x z=>(In N r0 i d m o e f l g b p c N aa x z)) c p i d m o e f l g):=by rw[Tm,(Ai _).2]
def bZ:Hints:={ H:=(hS hL (hS hL (hS (hS hL (hS (hP [1,2,3,7,20,21] hL) hL)) (hS hL (hS (hS hL (hS (hP [2,3,7,9,31,32,33] (hS hL (hS hL (hS (hS (hS hL (hS hL (hJ [2,3,7,9,12,13,31,32,33] hL (hS hL (hS hL (hS (hP [2,3,7,9,12,13,31,32,33,66,67] hL) hL)))))) hL) hL)))) hL)) hL))))) }
def iQ:Gm:=[(285,Od N)]
def Uz (F:KF R):=Ki Tryz.f251 bZ (iQ N) [] N F
def C2 (F:KF R):Int→O R:=(fun an=>F (iv an) [])
def Aao (e:LA) (f:Nat) (l g:Bool) (b:Nat) (t u:Int) (i:LA) (d:Nat) (m o:Bool) (r q:Int) (p:Bool) (c:LA) (ab ac w:Int) (y:LA):St:=⟨[(2,(.imm e f 1 l g)),(3,(op 0)),(7,(.own 300001 0 b)),(9,(iv ab)),(12,(iv t)),(13,(iv u)),(31,(.imm i d 1 m o)),(32,(iv r)),(33,(iv q)),(66,(iv ac)),(67,(iv w))],(hq [(bP p 0 c),(bQ 1 y)])⟩
def Aap (F:KF R) (Q1:St→O R):=Uz N F [1,1,1,1,0,1,0,0,1,1,0,0,1,1,1,1,1,0] [Q1]
def Aaq (e:LA) (f:Nat) (l g:Bool) (b:Nat) (s t u:Int) (i:LA) (d:Nat) (m o:Bool) (r q:Int) (p:Bool) (c ad:LA):St:=⟨[(2,(.imm e f 1 l g)),(3,(op 0)),(7,(.own 300001 0 b)),(9,(iv s)),(12,(iv t)),(13,(iv u)),(31,(.imm i d 1 m o)),(32,(iv r)),(33,(iv q))],(hq [(bP p 0 c),(bQ 1 ad)])⟩
def Aar (F:KF R) (Q1:St→O R):=Uz N F [1,1,1,1,0,1,0,0,1,1,0,0,1,1,1] [Q1]
def Pr (e:LA) (f:Nat) (l g:Bool) (b:Nat) (i:LA) (d:Nat) (m o p:Bool) (c:LA) (s r q:Int) (v:LA):St:=⟨[(2,(.imm e f 1 l g)),(3,(op 0)),(7,(.own 300001 0 b)),(9,(iv s)),(31,(.imm i d 1 m o)),(32,(iv r)),(33,(iv q))],(hq [(bP p 0 c),(bQ 1 v)])⟩
def b_ (F:KF R):=Uz N F [1,1,1,1,0,1,0] []
def Aas (i:LA) (d:Nat) (m o:Bool) (e:LA) (f:Nat) (l g:Bool) (b:Nat) (p:Bool) (c:LA) (aa x:Int) (z:LA):St:=⟨[(1,(.imm i d 1 m o)),(2,(.imm e f 1 l g)),(3,(op 0)),(7,(.own 300001 0 b)),(20,(iv aa)),(21,(iv x))],(hq [(bP p 0 c),(bQ 1 z)])⟩
def Aat (F:KF R):=Uz N F [1,1,0,1,0] []
theorem JF (Q1:St→O R) (F:KF R) (e:LA) (f:Nat) (l g:Bool) (b:Nat) (t u:Int) (i:LA) (d:Nat) (m o:Bool) (r q:Int) (p:Bool) (c:LA):∀ (n:Nat) (ab ac w:Int) (y:LA),Ak (Aap N F Q1) n (Aao e f l g b t u i d m o r q p c ab ac w y)=(Li N (fun s r q v=>Q1 (Pr e f l g b i d m o p c s r q v)) (C2 F) e f l g b t u i d m o r q p c n ab ac w y)
 | 0,_,_,_,_=>by kernel_rfl
 | n+1,ab,ac,w,y=>Eq.trans (by kernel_rfl) (Bv (R9 N (fun s r q v=>Q1 (Pr e f l g b i d m o p c s r q v)) (C2 F) e f l g b t u i d m o r q p c · ab ac w y) (funext fun ab=>funext fun ac=>funext fun w=>funext fun y=>(JF Q1 F e f l g b t u i d m o r q p c n ab ac w y)):_)
theorem np (Q1:St→O R) (F:KF R) (e:LA) (f:Nat) (l g:Bool) (b:Nat) (s t u:Int) (i:LA) (d:Nat) (m o:Bool) (r q:Int) (p:Bool) (c:LA):∀ (ad:LA),B8 (Aar N F Q1) (Aaq e f l g b s t u i d m o r q p c ad)=(Uy N (fun s r q v=>Q1 (Pr e f l g b i d m o p c s r q v)) (C2 F) e f l g b s t u i d m o r q p c ad):=by
 intro ad
 exact Eq.trans (by kernel_rfl) (Bv (AC N (fun s r q v=>Q1 (Pr e f l g b i d m o p c s r q v)) (C2 F) e f l g b s t u i d m o r q p c · ad) (funext fun ab=>funext fun ac=>funext fun w=>funext fun y=>(Ac ..).trans (JF N Q1 F e f l g b t u i d m o r q p c N ab ac w y)):_)
theorem JG (F:KF R) (e:LA) (f:Nat) (l g:Bool) (b:Nat) (i:LA) (d:Nat) (m o p:Bool) (c:LA):∀ (n:Nat) (s r q:Int) (v:LA),Ak (b_ N F) n (Pr e f l g b i d m o p c s r q v)=(Gj N (C2 F) e f l g b i d m o p c n s r q v)
 | 0,_,_,_,_=>by kernel_rfl
 | n+1,s,r,q,v=>have e0:=(funext fun s=>funext fun r=>funext fun q=>funext fun v=>(JG F e f l g b i d m o p c n s r q v))
  Eq.trans (by kernel_rfl) (PQ (Sa N (C2 F) e f l g b i d m o p c · · s r q v) e0 (funext fun t=>funext fun u=>funext fun ad=>(A2 ..).trans ((np N (Ak (b_ N F) n) F e f l g b s t u i d m o r q p c ad).trans (Bv (Uy N · (C2 F) e f l g b s t u i d m o r q p c ad) e0))):_)
theorem JH (F:KF R) (i:LA) (d:Nat) (m o:Bool) (e:LA) (f:Nat) (l g:Bool) (b:Nat) (p:Bool) (c:LA):∀ (n:Nat) (aa x:Int) (z:LA),Ak (Aat N F) n (Aas i d m o e f l g b p c aa x z)=(In N (C2 F) i d m o e f l g b p c n aa x z)
 | 0,_,_,_=>by kernel_rfl
 | n+1,aa,x,z=>Eq.trans (by kernel_rfl) (PQ (Sb N (C2 F) i d m o e f l g b p c · · aa x z) (funext fun aa=>funext fun x=>funext fun z=>(JH F i d m o e f l g b p c n aa x z)) (funext fun s=>funext fun r=>funext fun q=>funext fun v=>(Ac ..).trans (JG N F e f l g b i d m o p c N s r q v)):_)
theorem cA (c:LA) (p:Bool) (i:LA) (d:Nat) (m o:Bool) (e:LA) (f:Nat) (l g:Bool) (F:KF R):C7 (iQ N) bZ N 251 [(.pagg c p),(.imm i d 1 m o),(.imm e f 1 l g)] [] F=(Tm N c p i d m o e f l g (C2 F)):=by
 rw[VZ]
 exact Eq.trans (by kernel_rfl) (Bv (CT N (C2 F) · c p i d m o e f l g) (funext fun b=>funext fun aa=>funext fun x=>funext fun z=>(Ac ..).trans (JH N F i d m o e f l g b p c N aa x z)):_)
def U0 (k0:Int→Bool→LA→O R) (r0:Bool→LA→O R) (l:Nat) (q d:Int) (m:LA) (o:Nat) (p:LA) (c:Bool) (b:LA) (k1:Int→Int→Bool→Int→Int→Bool→LA→O R) (r s:Int) (t:Bool) (u i:Int) (v:Bool) (w:LA):O R :=
 (cond (decide (i<u)) (cond (Ah i o) (cond (Nat.ble 4 ((m.drop ((i.toNat)*4)).length)) (cond ((Nat.beq 0 0)&&((Nat.beq (((m.drop ((i.toNat)*4)).take 4).length) 4)&&(Nat.beq 4 4))) (U' N 6 i v w (fun ae x=>(cond (Nat.ble 8 (x.length)) (Bw 1 (((m.drop ((i.toNat)*4)).take 4).drop 1) fun af ag=>(Tm N (x.take 8) ae (p.take (l*1)) l false true af ag false t (fun ah=>(A1 N (ah==q) r 13 ae x (fun ai aj=>(k1 r s t u (wrap .i64 (i+1)) ai aj)))))) none))) none) none) none) (k0 (wrap .i64 (s+1)) v w))
def Kg (k0:Int→Bool→LA→O R) (r0:Bool→LA→O R) (l:Nat) (q d:Int) (m:LA) (o:Nat) (p:LA) (c:Bool) (b:LA):Nat→Int→Int→Bool→Int→Int→Bool→LA→O R
 | 0,_,_,_,_,_,_,_=>none
 | n+1,r,s,t,u,i,v,w=>(U0 N k0 r0 l q d m o p c b (Kg k0 r0 l q d m o p c b n) r s t u i v w)
def U1 (r0:Bool→LA→O R) (d:Int) (c:Bool) (b:LA) (k0:Int→Bool→LA→O R) (q1:Nat→Int→LA→Nat→LA→Int→Int→Bool→Int→Int→Bool→LA→O R) (g:Int) (f:Bool) (e:LA):O R :=
 (cond (decide (g<d)) (cond (Nat.ble 8 (e.length)) (DN N (e.take 8) f g (fun l p=>(cond (Nat.ble 8 (e.length)) (OC N (e.take 8) f (p.take (l*1)) l false true (fun q=>(Bw 4 (e.drop 7) fun m o=>(q1 l q m o p g g f ((o:Nat):Int) 0 f e)))) none))) none) (r0 f e))
def Hn (r0:Bool→LA→O R) (d:Int) (c:Bool) (b:LA):Nat→Int→Bool→LA→O R
 | 0,_,_,_=>none
 | n+1,g,f,e=>(U1 N r0 d c b (Hn r0 d c b n) (fun l q m o p r s t u i v w=>(Kg N (Hn r0 d c b n) r0 l q d m o p c b N r s t u i v w)) g f e)
def JI (N:Nat) (r0:Bool→LA→O R) (q0:Int→Int→Bool→LA→O R) (c:Bool) (b:LA):O R :=
 (At .i64 b fun d=>(q0 d 0 c b))
def Sq:=(Ai (fun (N:Nat) (c:Bool) (b:LA) (r0:Bool→LA→O R)=>(JI N r0 (fun d g f e=>(Hn N r0 d c b N g f e)) c b))).1
theorem cB (c b r0):(@Sq R N c b r0)=(JI N r0 (fun d g f e=>(Hn N r0 d c b N g f e)) c b):=by rw[Sq,(Ai _).2]
def iR:Hints:={ H:=(hS hL (hS (hP [0,11,12] (hS hL (hS hL (hS (hS (hS hL (hS hL (hS hL (hS hL (hS (hP [0,2,3,4,11,12,31,32,33] hL) hL))))) hL) hL)))) hL)) }
def Nf (a:LA) (h:Aj) (k:KF R):O R :=
 match a,h with
 | [(.pagg y z),(.imm aa ab 1 ac ad),.nsl],[]=>(OC N y z aa ab ac ad (Fl k))
 | [(.pagg y z),(.imm aa ab 1 ac ad),(.imm ak al 1 am an)],[]=>(Tm N y z aa ab ac ad ak al am an (C2 k))
 | _,_=>none
theorem Oh:An N 251 @Nf:=by
 intro R Q a h k j;unfold Nf;split;exact A3 (tb ..) (tb ..) ⟨Wz N,trivial⟩;exact A3 (cA ..) (cA ..) ⟨Oe N,trivial⟩;exact A5
def CU:=A4 (Oh N)
def CV:=C8 (Oh N)
def nq:Gm:=[(250,Aks N),(251,CU N),(233,Zj N),(236,C9 N)]
def iS (F:KF R):=Ki Tryz.f178 iR (nq N) [100000] N F
def Ho (F:KF R):Bool→LA→O R:=(fun ao ap=>F (.tup []) [(100000,(bP ao 0 ap))])
def Ad6 (l:Nat) (q d:Int) (m:LA) (o:Nat) (p:LA) (c:Bool) (b:LA) (r s:Int) (t:Bool) (u i:Int) (v:Bool) (w:LA):St:=⟨[(0,(.optr 100000 0)),(2,(iv r)),(3,(.own 300000 0 l)),(4,(iv q)),(11,(iv d)),(12,(iv s)),(31,(.imm m o 4 false t)),(32,(iv u)),(33,(iv i))],[(100000,(bP v 0 w)),(300000,(bQ 1 p))]⟩
def Ad7 (F:KF R) (Q0:St→O R):=iS N F [1,0,0,1,1,0,0,1,1,1,1,0] [Q0]
def KO (d:Int) (c:Bool) (b:LA) (g:Int) (f:Bool) (e:LA):St:=⟨[(0,(.optr 100000 0)),(11,(iv d)),(12,(iv g))],[(100000,(bP f 0 e))]⟩
def iT (F:KF R):=iS N F [1,0] []
theorem OD (Q0:St→O R) (F:KF R) (l:Nat) (q d:Int) (m:LA) (o:Nat) (p:LA) (c:Bool) (b:LA):∀ (n:Nat) (r s:Int) (t:Bool) (u i:Int) (v:Bool) (w:LA),Ak (Ad7 N F Q0) n (Ad6 l q d m o p c b r s t u i v w)=(Kg N (fun g f e=>Q0 (KO d c b g f e)) (Ho F) l q d m o p c b n r s t u i v w)
 | 0,_,_,_,_,_,_,_=>by kernel_rfl
 | n+1,r,s,t,u,i,v,w=>Eq.trans (by kernel_rfl) (Bv (U0 N (fun g f e=>Q0 (KO d c b g f e)) (Ho F) l q d m o p c b · r s t u i v w) (funext fun r=>funext fun s=>funext fun t=>funext fun u=>funext fun i=>funext fun v=>funext fun w=>(OD Q0 F l q d m o p c b n r s t u i v w)):_)
theorem OE (F:KF R) (d:Int) (c:Bool) (b:LA):∀ (n:Nat) (g:Int) (f:Bool) (e:LA),Ak (iT N F) n (KO d c b g f e)=(Hn N (Ho F) d c b n g f e)
 | 0,_,_,_=>by kernel_rfl
 | n+1,g,f,e=>have e0:=(funext fun g=>funext fun f=>funext fun e=>(OE F d c b n g f e))
  Eq.trans (by kernel_rfl) (PQ (U1 N (Ho F) d c b · · g f e) e0 (funext fun l=>funext fun q=>funext fun m=>funext fun o=>funext fun p=>funext fun r=>funext fun s=>funext fun t=>funext fun u=>funext fun i=>funext fun v=>funext fun w=>(Ac ..).trans ((OD N (Ak (iT N F) n) F l q d m o p c b N r s t u i v w).trans (Bv (Kg N · (Ho F) l q d m o p c b N r s t u i v w) e0))):_)
theorem iU (c:Bool) (b:LA) (F:KF R):C7 (nq N) iR N 178 [(.optr 100000 0)] [(100000,(bP c 0 b))] F=(Sq N c b (Ho F)):=by
 rw[cB]
 exact Eq.trans (by kernel_rfl) (Bv (JI N (Ho F) · c b) (funext fun d=>funext fun g=>funext fun f=>funext fun e=>(Ac ..).trans (OE N F d c b N g f e)):_)
def cC (a:LA) (h:Aj) (k:KF R):O R :=
 match a,h with
 | [(.optr 100000 0)],[(100000,⟨false,false,true,c,0,b,false,none⟩)]=>(Sq N c b (Ho k))
 | _,_=>none
theorem iV:An N 178 @cC:=by
 intro R Q a h k j;unfold cC;split;exact A3 (iU ..) (iU ..) ⟨Akt N,CV N,Zk N,Da N,trivial⟩;exact A5
def Ad8:=A4 (iV N)
def Ad9:=C8 (iV N)
def E9 (r0:LA→Int→O R) (k0:Int→Bool→LA→O R) (b:Int) (c:Bool) (d:LA):O R :=
 (cond (decide (b<8)) (cond (Ah b 8) (cond (Nat.beq (0+((b.toNat)*1)) 0) (FL N c d (fun s g=>(At .i64 (g.drop 11) fun aa=>(cond (aa != 0) (cond (Nat.ble 3 ((g.drop 8).length)) (cond ((!s)||(A0 ((g.drop 8).take 3))) (At .i64 (g.drop 11) fun ab=>(cond ((Nat.beq (((g.drop 8).take 3).length) 3)&&((Nat.ble 3 3)&&(!false))) (cond (Nat.ble 3 ((setCells [(.int .i64 0),(.int .i64 0),(.int .i64 0)] 0 ((g.drop 8).take 3)).length)) (r0 ((setCells [(.int .i64 0),(.int .i64 0),(.int .i64 0)] 0 ((g.drop 8).take 3)).take 3) ab) none) none)) none) none) (k0 (wrap .i64 (b+1)) s g))))) (cond (Nat.beq (0+((b.toNat)*1)) 1) (FN N c d (fun t i=>(At .i64 (i.drop 11) fun ac=>(cond (ac != 0) (cond (Nat.ble 3 ((i.drop 8).length)) (cond ((!t)||(A0 ((i.drop 8).take 3))) (At .i64 (i.drop 11) fun ad=>(cond ((Nat.beq (((i.drop 8).take 3).length) 3)&&((Nat.ble 3 3)&&(!false))) (cond (Nat.ble 3 ((setCells [(.int .i64 0),(.int .i64 0),(.int .i64 0)] 0 ((i.drop 8).take 3)).length)) (r0 ((setCells [(.int .i64 0),(.int .i64 0),(.int .i64 0)] 0 ((i.drop 8).take 3)).take 3) ad) none) none)) none) none) (k0 (wrap .i64 (b+1)) t i))))) (cond (Nat.beq (0+((b.toNat)*1)) 2) (FQ N c d (fun u l=>(At .i64 (l.drop 11) fun ae=>(cond (ae != 0) (cond (Nat.ble 3 ((l.drop 8).length)) (cond ((!u)||(A0 ((l.drop 8).take 3))) (At .i64 (l.drop 11) fun af=>(cond ((Nat.beq (((l.drop 8).take 3).length) 3)&&((Nat.ble 3 3)&&(!false))) (cond (Nat.ble 3 ((setCells [(.int .i64 0),(.int .i64 0),(.int .i64 0)] 0 ((l.drop 8).take 3)).length)) (r0 ((setCells [(.int .i64 0),(.int .i64 0),(.int .i64 0)] 0 ((l.drop 8).take 3)).take 3) af) none) none)) none) none) (k0 (wrap .i64 (b+1)) u l))))) (cond (Nat.beq (0+((b.toNat)*1)) 3) (FR N c d (fun v m=>(At .i64 (m.drop 11) fun ag=>(cond (ag != 0) (cond (Nat.ble 3 ((m.drop 8).length)) (cond ((!v)||(A0 ((m.drop 8).take 3))) (At .i64 (m.drop 11) fun ah=>(cond ((Nat.beq (((m.drop 8).take 3).length) 3)&&((Nat.ble 3 3)&&(!false))) (cond (Nat.ble 3 ((setCells [(.int .i64 0),(.int .i64 0),(.int .i64 0)] 0 ((m.drop 8).take 3)).length)) (r0 ((setCells [(.int .i64 0),(.int .i64 0),(.int .i64 0)] 0 ((m.drop 8).take 3)).take 3) ah) none) none)) none) none) (k0 (wrap .i64 (b+1)) v m))))) (cond (Nat.beq (0+((b.toNat)*1)) 4) (Wv N c d (fun w o=>(At .i64 (o.drop 11) fun ai=>(cond (ai != 0) (cond (Nat.ble 3 ((o.drop 8).length)) (cond ((!w)||(A0 ((o.drop 8).take 3))) (At .i64 (o.drop 11) fun aj=>(cond ((Nat.beq (((o.drop 8).take 3).length) 3)&&((Nat.ble 3 3)&&(!false))) (cond (Nat.ble 3 ((setCells [(.int .i64 0),(.int .i64 0),(.int .i64 0)] 0 ((o.drop 8).take 3)).length)) (r0 ((setCells [(.int .i64 0),(.int .i64 0),(.int .i64 0)] 0 ((o.drop 8).take 3)).take 3) aj) none) none)) none) none) (k0 (wrap .i64 (b+1)) w o))))) (cond (Nat.beq (0+((b.toNat)*1)) 5) (RR N c d (fun x p=>(At .i64 (p.drop 11) fun ak=>(cond (ak != 0) (cond (Nat.ble 3 ((p.drop 8).length)) (cond ((!x)||(A0 ((p.drop 8).take 3))) (At .i64 (p.drop 11) fun al=>(cond ((Nat.beq (((p.drop 8).take 3).length) 3)&&((Nat.ble 3 3)&&(!false))) (cond (Nat.ble 3 ((setCells [(.int .i64 0),(.int .i64 0),(.int .i64 0)] 0 ((p.drop 8).take 3)).length)) (r0 ((setCells [(.int .i64 0),(.int .i64 0),(.int .i64 0)] 0 ((p.drop 8).take 3)).take 3) al) none) none)) none) none) (k0 (wrap .i64 (b+1)) x p))))) (cond (Nat.beq (0+((b.toNat)*1)) 6) (Sp N c d (fun y q=>(At .i64 (q.drop 11) fun am=>(cond (am != 0) (cond (Nat.ble 3 ((q.drop 8).length)) (cond ((!y)||(A0 ((q.drop 8).take 3))) (At .i64 (q.drop 11) fun an=>(cond ((Nat.beq (((q.drop 8).take 3).length) 3)&&((Nat.ble 3 3)&&(!false))) (cond (Nat.ble 3 ((setCells [(.int .i64 0),(.int .i64 0),(.int .i64 0)] 0 ((q.drop 8).take 3)).length)) (r0 ((setCells [(.int .i64 0),(.int .i64 0),(.int .i64 0)] 0 ((q.drop 8).take 3)).take 3) an) none) none)) none) none) (k0 (wrap .i64 (b+1)) y q))))) (cond (Nat.beq (0+((b.toNat)*1)) 7) (Sq N c d (fun z r=>(At .i64 (r.drop 11) fun ao=>(cond (ao != 0) (cond (Nat.ble 3 ((r.drop 8).length)) (cond ((!z)||(A0 ((r.drop 8).take 3))) (At .i64 (r.drop 11) fun ap=>(cond ((Nat.beq (((r.drop 8).take 3).length) 3)&&((Nat.ble 3 3)&&(!false))) (cond (Nat.ble 3 ((setCells [(.int .i64 0),(.int .i64 0),(.int .i64 0)] 0 ((r.drop 8).take 3)).length)) (r0 ((setCells [(.int .i64 0),(.int .i64 0),(.int .i64 0)] 0 ((r.drop 8).take 3)).take 3) ap) none) none)) none) none) (k0 (wrap .i64 (b+1)) z r))))) none)))))))) none) (r0 [(.int .i64 0),(.int .i64 0),(.int .i64 0)] 0))
def A9 (r0:LA→Int→O R):Nat→Int→Bool→LA→O R
 | 0,_,_,_=>none
 | n+1,b,c,d=>(E9 N r0 (A9 r0 n) b c d)
def eQ (N:Nat) (r0:LA→Int→O R) (q0:Int→Bool→LA→O R) (e:LA) (f:Bool):O R :=
 (cond (Nat.ble 8 (e.length)) (cond ((Nat.beq ((e.take 8).length) 8)&&(Nat.ble 8 12)) (q0 0 (f||false) (setCells [(.int .i64 0),.nsl,.nsl,.nsl,.nsl,.nsl,.nsl,.nsl,(.int .i64 0),(.int .i64 0),(.int .i64 0),(.int .i64 0)] 0 (e.take 8))) none) none)
def FY:=(Ai (fun (N:Nat) (e:LA) (f:Bool) (r0:LA→Int→O R)=>(eQ N r0 (fun b c d=>(A9 N r0 N b c d)) e f))).1
theorem nr (e f r0):(@FY R N e f r0)=(eQ N r0 (fun b c d=>(A9 N r0 N b c d)) e f):=by rw[FY,(Ai _).2]
def tc:Hints:={ H:=(hS hL (hS hL (hS (hS hL (hS (hP [2,4,26,27,28] hL) hL)) hL))),modes:=[(3,0),(0,0)] }
def Aau:Gm:=[(171,Apj N),(172,Apo N),(173,Apw N),(174,Ap4 N),(175,Akn N),(176,Au1 N),(177,Adz N),(178,Ad8 N)]
def Aqm (F:KF R):=Ki Tryz.f104 tc (Aau N) [] N F
def Zr (F:KF R):LA→Int→O R:=(fun aq ar=>F (.tup [(.pagg aq false),(iv ar)]) [])
def Aqn (b:Int) (c:Bool) (d:LA):St:=⟨[(2,(op 0)),(4,(op 1)),(26,(.own 300002 0 8)),(27,(iv 8)),(28,(iv b))],(hq [(bQ 0 [(iv 0),(iv 0),(iv 0)]),(bP c 0 d),(bN 1 [(.fn 1000171 [(op 1)]),(.fn 1000172 [(op 1)]),(.fn 1000173 [(op 1)]),(.fn 1000174 [(op 1)]),(.fn 1000175 [(op 1)]),(.fn 1000176 [(op 1)]),(.fn 1000177 [(op 1)]),(.fn 1000178 [(op 1)])])])⟩
def Aqo (F:KF R):=Aqm N F [1,1,0,1,0] []
theorem cD (F:KF R):∀ (n:Nat) (b:Int) (c:Bool) (d:LA),Ak (Aqo N F) n (Aqn b c d)=(A9 N (Zr F) n b c d)
 | 0,_,_,_=>by kernel_rfl
 | n+1,b,c,d=>Eq.trans (by kernel_rfl) (Bv (E9 N (Zr F) · b c d) (funext fun b=>funext fun c=>funext fun d=>(cD F n b c d)):_)
theorem td (e:LA) (f:Bool) (F:KF R):C7 (Aau N) tc N 104 [(.pagg e f)] [] F=(FY N e f (Zr F)):=by
 rw[nr]
 exact Eq.trans (by kernel_rfl) (Bv (eQ N (Zr F) · e f) (funext fun b=>funext fun c=>funext fun d=>(Ac ..).trans (cD N F N b c d)):_)
def nv (a:LA) (h:Aj) (k:KF R):O R :=
 match a,h with
 | [(.pagg e f)],[]=>(FY N e f (Zr k))
 | _,_=>none
theorem te:An N 104 @nv:=by
 intro R Q a h k j;unfold nv;split;exact A3 (td ..) (td ..) ⟨Apk N,App N,Apx N,Ap5 N,Ako N,Au2 N,Ad0 N,Ad9 N,trivial⟩;exact A5
def th:=A4 (te N)
def ti:=C8 (te N)
def iW (N:Nat) (b:List UInt8) (r0:Bool→O R):O R :=
 (r0 (b==([]:List UInt8)))
def Qh:=(Ai (@iW R)).1
theorem OF:@Qh R=@iW R:=(Ai _).2
def V_ (F:KF R):Bool→O R:=(fun c=>F (.bool c) [])
theorem V' (b:List UInt8) (F:KF R):C7 [] Dx N 182 [(.str b)] [] F=(Qh N b (V_ F)):=by
 rw[OF]
 kernel_rfl
def OG (a:LA) (h:Aj) (k:KF R):O R :=
 match a,h with
 | [(.str b)],[]=>(Qh N b (V_ k))
 | _,_=>none
theorem WA:An N 182 @OG:=by
 intro R Q a h k j;unfold OG;split;exact A3 (V' ..) (V' ..) trivial;exact A5
def WB:=A4 (WA N)
def WC:=C8 (WA N)
end
end Gx

namespace Gx.Cf
open Go Go.Proofs
section
variable {R:Type}
theorem Aqp {f:Int→Int} {L:List Int} {j:Nat} (h:j<L.length):((L.take j).map f++L.drop j).set j (f L[j])=(L.take (j+1)).map f++L.drop (j+1):=by
 have b:j - ((L.take j).map f).length=0:=by simp;omega
 rw[List.set_append_right _ _ (by simp;omega),b,List.take_succ_eq_append_getElem h,List.map_append,B7 h,List.set_cons_zero,List.append_assoc];rfl
theorem Aqq {f:Int→Int} {L:List Int} {j:Nat} (h:j<L.length):((L.take j).map f++L.drop j).getD j 0=L[j]:=by
 have b:j - ((L.take j).map f).length=0:=by simp;omega
 rw[List.getD_eq_getElem?_getD,List.getElem?_append_right (by simp;omega),b,B7 h];rfl
theorem Ags {f:Int→Int} {L:List Int} {j:Nat} (h:j<L.length) (b:f L[j]=L[j]):(L.take j).map f++L.drop j=(L.take (j+1)).map f++L.drop (j+1):=by
 rw[List.take_succ_eq_append_getElem h,List.map_append,B7 h];simp[b]
theorem iX {N:Nat} {c:CaseD} {L:List Int} {x7 x11 i32 i33 cnt:Int} {ls:List Int} {t1 o1 o0:Bool} {K1:Int→Int→Int→LA→O R} {K:Int→O R} (hs:L.length<4611686018427387904):∀ (m j fuel:Nat),j+m=L.length→m<fuel →
  Tl N K1 K L.length x7 x11 (Aq ls) ls.length t1 o1 i32 i33 o0 c.av fuel cnt (L.length:Int) (j:Int) (Aq ((L.take j).map (fun x=>cond (x==x11) x7 x)++L.drop j))=K1 cnt i32 (IntKind.wrap .i64 (i33+1)) (Aq (nk L x11 x7))
 | 0,j,fuel+1,k,_=>by
  rw[Tl];unfold CP
  rw[Iu (by omega),cf,Cx (by omega),List.append_nil,List.take_of_length_le (by omega)];rfl
 | m+1,j,fuel+1,k,b=>by
  rw[Tl];unfold CP
  have h:j<L.length:=by omega
  have d:((L.take j).map (fun x=>cond (x==x11) x7 x)++L.drop j).length=L.length:=by simp;omega
  have e:=iX (N:=N) (c:=c) (L:=L) (x7:=x7) (x11:=x11) (i32:=i32) (i33:=i33) (cnt:=cnt) (ls:=ls) (t1:=t1) (o1:=o1) (o0:=o0) (K1:=K1) (K:=K) hs m (j+1) fuel (by omega) (by omega)
  rw[Hh h,ct,Ab h,ct,zE (by rw[d];simpa using h),Int.toNat_natCast,Aqq h,ct,QY (by rw[d];exact h),ct,Nat.zero_add,Nat.mul_one,Ze,Bo (by omega)]
  cases i:L[j]==x11 with
  | true =>
   have b:=Aqp (f:=fun x=>cond (x==x11) x7 x) h
   simp only[i,cond_true] at b
   rw[b,ct,e]
  | false =>
   rw[cf,Ags h (by simp[i]),e]
theorem KP {N:Nat} {c:CaseD} {ls:List Int} {t1 o1 o0:Bool} {K:Int→O R} (hN:8≤N) (e:Es c.buses.l.length N) (n:ls.length≤1000000) (f:∀ l ∈ ls,∃ x,LnV c l x):∀ (m j fuel:Nat) (st:List Int×Int),j+m=ls.length→m<fuel→st.1.length=c.buses.l.length→(-1000000+(m:Int)≤st.2∧st.2≤1000000) →
  Lu N K c.buses.l.length (Aq ls) ls.length t1 o1 o0 c.av fuel st.2 (ls.length:Int) (j:Int) (Aq st.1)=K ((ls.drop j).map (E6 c) |>.foldl FX st).2
 | 0,j,fuel+1,st,s,_,_,_=>by
  rw[Lu];unfold CQ
  rw[Iu (by omega),cf,Cx (l:=ls) (by omega)];rfl
 | m+1,j,fuel+1,st,s,t,b,u=>by
  rw[Lu];unfold CQ JD RV
  have h:j<ls.length:=by omega
  obtain⟨x,d⟩:=f ls[j] (List.getElem_mem h)
  have i:=KP (N:=N) (c:=c) (ls:=ls) (t1:=t1) (o1:=o1) (o0:=o0) (K:=K) hN e n f m (j+1) fuel st (by omega) (by omega) b (by omega)
  have k:=KP (N:=N) (c:=c) (ls:=ls) (t1:=t1) (o1:=o1) (o0:=o0) (K:=K) hN e n f m (j+1) fuel (nk st.1 (st.1.getD x.tl.toNat 0) (st.1.getD x.fr.toNat 0),st.2 - 1) (by omega) (by omega) (by simp[nk,b]) (by simp only;omega)
  rw[Hh h,ct,Ab h,ct,E' h]
  simp only[Gf,A1c d,A1d d]
  rw[Tf d.l0 d.lt,ct,Tf d.f0 d.f1,ct,zE (by rw[b];exact d.f1),ct,Tf d.t0 d.t1,ct,zE (by rw[b];exact d.t1),Aku hN,Bo (by omega),wrap_i64 (st.2 - 1) (by omega),B7 h]
  have q:=iX (R:=R) (N:=N) (c:=c) (L:=st.1) (x7:=st.1.getD x.fr.toNat 0) (x11:=st.1.getD x.tl.toNat 0) (i32:=(ls.length:Int)) (i33:=(j:Int)) (cnt:=st.2 - 1) (ls:=ls) (t1:=t1) (o1:=o1) (o0:=o0) (K1:=Lu N K c.buses.l.length (Aq ls) ls.length t1 o1 o0 c.av fuel) (K:=K) (by rw[b];exact e.2) st.1.length 0 N (by omega) (by rw[b];exact e.1)
  simp only[List.take_zero,List.map_nil,List.nil_append,List.drop_zero,Int.natCast_zero,b,Bo (show j<4611686018427387904 by omega)] at q
  rw[q]
  rw[List.map_cons,List.foldl_cons,dz d,FX]
  cases hq:st.1.getD x.fr.toNat 0==st.1.getD x.tl.toNat 0 with
  | true=>simp only[show(true==false)=false from rfl,cond_false,cond_true];exact i
  | false=>simp only[beq_self_eq_true,cond_false,cond_true];exact k
theorem iY {N:Nat} {c:CaseD} {ls:List Int} {t1 o1 o0:Bool} {K:Int→O R} (hN:8≤N) (b:Es c.buses.l.length N) (i:c.buses.l.length≤1000000) (e:ls.length≤1000000) (hlN:ls.length<N) (f:∀ l ∈ ls,∃ x,LnV c l x) (L:List Int) (hL:L.length=c.buses.l.length):∀ (m j fuel:Nat),j+m=c.buses.l.length→m<fuel →
  Pq N K (Aq ls) ls.length t1 o1 c.buses.l.length o0 c.av fuel (c.buses.l.length:Int) (j:Int) (Aq ((Fj c.buses.l.length).take j++L.drop j))=K ((ls).map (E6 c) |>.foldl FX (Fj c.buses.l.length,(c.buses.l.length:Int))).2
 | 0,j,fuel+1,k,_=>by
  rw[Pq];unfold CS
  have:=KP (R:=R) (N:=N) (c:=c) (ls:=ls) (t1:=t1) (o1:=o1) (o0:=o0) (K:=K) hN b e f ls.length 0 N (Fj c.buses.l.length,(c.buses.l.length:Int)) (by omega) hlN (by simp[Fj]) (by simp only;omega)
  rw[Iu (by omega),cf,Cx (by omega),List.append_nil,List.take_of_length_le (by simp[Fj];omega)]
  simpa using this
 | m+1,j,fuel+1,k,n=>by
  rw[Pq];unfold CS
  have h:j<c.buses.l.length:=by omega
  have d:((Fj c.buses.l.length).take j++L.drop j).length=c.buses.l.length:=by simp[Fj];omega
  rw[Hh h,ct,Ab h,ct,QY (by rw[d];simpa using h),ct,Int.toNat_natCast,Nat.zero_add,Nat.mul_one,Ze,ji hL h,Bo (by omega),iY hN b i e hlN f L hL m (j+1) fuel (by omega) (by omega)]
theorem Au6 {N:Nat} {c:CaseD} {ls:List Int} {n:Nat} {t1 o1 o0:Bool} {K:Int→O R} (hn:n=ls.length) (hN:8≤N) (b:Es c.buses.l.length N) (k:c.buses.l.length≤1000000) (m:ls.length≤1000000) (hlN:ls.length<N) (i:∀ l ∈ ls,∃ x,LnV c l x) :
  OC N c.av o0 (Aq ls) n t1 o1 K=K (I3 c.buses.l.length ((ls).map (E6 c)):Int):=by
 subst hn
 rw[nm];unfold eP
 have:=iY (R:=R) (N:=N) (c:=c) (ls:=ls) (t1:=t1) (o1:=o1) (o0:=o0) (K:=K) hN b k m hlN i (List.replicate c.buses.l.length 0) (by simp) c.buses.l.length 0 N (by omega) b.1
 rw[Aqf (by
  intro e j
  simp only[List.mem_map] at j
  obtain⟨l,d,rfl⟩:=j
  obtain⟨x,f⟩:=i l d
  rw[dz f];exact⟨f.f1,f.t1⟩)] at this
 have ok:(decide ((0:Int)≤((c.buses.l.length:Nat):Int))&&(decide (((c.buses.l.length:Nat):Int)≤((c.buses.l.length:Nat):Int))&&(decide (((c.buses.l.length:Nat):Int)≤(140737488355328:Int))&&decide ((((c.buses.l.length:Nat):Int)*((8:Nat):Int))≤(140737488355328:Int)))))=true:=by simp;omega
 rw[Ii,ok,ct]
 have e:List.replicate c.buses.l.length (AV.int .i64 (0:Int))=Aq (List.replicate c.buses.l.length 0):=by simp[Aq]
 rw[e]
 simpa using this
theorem OH {N:Nat} {c:CaseD} {L:List Int} {x7 x11 i32 i33 cnt:Int} {ls:List Int} {t1 o1 o0:Bool} {gone:List Int} {t2 o2:Bool} {K1:Int→Int→Int→LA→O R} {K:Int→O R} (hs:L.length<4611686018427387904):∀ (m j fuel:Nat),j+m=L.length→m<fuel →
  Li N K1 K (Aq gone) gone.length t2 o2 L.length x7 x11 (Aq ls) ls.length t1 o1 i32 i33 o0 c.av fuel cnt (L.length:Int) (j:Int) (Aq ((L.take j).map (fun x=>cond (x==x11) x7 x)++L.drop j))=K1 cnt i32 (IntKind.wrap .i64 (i33+1)) (Aq (nk L x11 x7))
 | 0,j,fuel+1,k,_=>by
  rw[Li];unfold R9
  rw[Iu (by omega),cf,Cx (by omega),List.append_nil,List.take_of_length_le (by omega)];rfl
 | m+1,j,fuel+1,k,b=>by
  rw[Li];unfold R9
  have h:j<L.length:=by omega
  have d:((L.take j).map (fun x=>cond (x==x11) x7 x)++L.drop j).length=L.length:=by simp;omega
  have e:=OH (N:=N) (c:=c) (L:=L) (x7:=x7) (x11:=x11) (i32:=i32) (i33:=i33) (cnt:=cnt) (ls:=ls) (t1:=t1) (o1:=o1) (o0:=o0) (gone:=gone) (t2:=t2) (o2:=o2) (K1:=K1) (K:=K) hs m (j+1) fuel (by omega) (by omega)
  rw[Hh h,ct,Ab h,ct,zE (by rw[d];simpa using h),Int.toNat_natCast,Aqq h,ct,QY (by rw[d];exact h),ct,Nat.zero_add,Nat.mul_one,Ze,Bo (by omega)]
  cases i:L[j]==x11 with
  | true =>
   have b:=Aqp (f:=fun x=>cond (x==x11) x7 x) h
   simp only[i,cond_true] at b
   rw[b,ct,e]
  | false =>
   rw[cf,Ags h (by simp[i]),e]
theorem W0 {N:Nat} {c:CaseD} {ls:List Int} {t1 o1 o0:Bool} {gone:List Int} {t2 o2:Bool} {K:Int→O R} (hN:8≤N) (e:Es c.buses.l.length N) (q:ls.length≤1000000) (i:∀ l ∈ ls,∃ x,LnV c l x) (k:Es gone.length N):∀ (m j fuel:Nat) (st:List Int×Int),j+m=ls.length→m<fuel→st.1.length=c.buses.l.length→(-1000000+(m:Int)≤st.2∧st.2≤1000000) →
  Gj N K (Aq gone) gone.length t2 o2 c.buses.l.length (Aq ls) ls.length t1 o1 o0 c.av fuel st.2 (ls.length:Int) (j:Int) (Aq st.1)=K ((((ls.drop j).filter fun l=>!gone.contains l)).map (E6 c) |>.foldl FX st).2
 | 0,j,fuel+1,st,t,_,_,_=>by
  rw[Gj];unfold Sa
  rw[Iu (by omega),cf,Cx (l:=ls) (by omega)];rfl
 | m+1,j,fuel+1,st,t,v,b,y=>by
  rw[Gj];unfold Sa Uy AC
  have h:j<ls.length:=by omega
  obtain⟨x,d⟩:=i ls[j] (List.getElem_mem h)
  have f:=W0 (N:=N) (c:=c) (ls:=ls) (t1:=t1) (o1:=o1) (o0:=o0) (gone:=gone) (t2:=t2) (o2:=o2) (K:=K) hN e q i k m (j+1) fuel st (by omega) (by omega) b (by omega)
  have n:=W0 (N:=N) (c:=c) (ls:=ls) (t1:=t1) (o1:=o1) (o0:=o0) (gone:=gone) (t2:=t2) (o2:=o2) (K:=K) hN e q i k m (j+1) fuel (nk st.1 (st.1.getD x.tl.toNat 0) (st.1.getD x.fr.toNat 0),st.2 - 1) (by omega) (by omega) (by simp[nk,b]) (by simp only;omega)
  rw[Hh h,ct,Ab h,ct,E' h]
  simp only[Gf,A1c d,A1d d]
  rw[Tf d.l0 d.lt,ct,Tf d.f0 d.f1,ct,zE (by rw[b];exact d.f1),ct,Tf d.t0 d.t1,ct,zE (by rw[b];exact d.t1),iL rfl k,Bo (by omega),wrap_i64 (st.2 - 1) (by omega),B7 h]
  have s:=OH (R:=R) (N:=N) (c:=c) (L:=st.1) (x7:=st.1.getD x.fr.toNat 0) (x11:=st.1.getD x.tl.toNat 0) (i32:=(ls.length:Int)) (i33:=(j:Int)) (cnt:=st.2 - 1) (ls:=ls) (t1:=t1) (o1:=o1) (o0:=o0) (gone:=gone) (t2:=t2) (o2:=o2) (K1:=Gj N K (Aq gone) gone.length t2 o2 c.buses.l.length (Aq ls) ls.length t1 o1 o0 c.av fuel) (K:=K) (by rw[b];exact e.2) st.1.length 0 N (by omega) (by rw[b];exact e.1)
  simp only[List.take_zero,List.map_nil,List.nil_append,List.drop_zero,Int.natCast_zero,b,Bo (show j<4611686018427387904 by omega)] at s
  rw[s]
  rw[List.filter_cons]
  cases u:gone.contains ls[j] with
  | true =>
   simp only[Bool.not_true,cond_true,cond_false,Bool.false_eq_true,if_false]
   cases st.1.getD x.fr.toNat 0==st.1.getD x.tl.toNat 0<;>exact f
  | false =>
   simp only[Bool.not_false,if_true]
   rw[List.map_cons,List.foldl_cons,dz d,FX]
   cases hq:st.1.getD x.fr.toNat 0==st.1.getD x.tl.toNat 0 with
   | true=>simp only[show(true==false)=false from rfl,cond_false,cond_true];exact f
   | false=>simp only[beq_self_eq_true,cond_false,cond_true];exact n
theorem OI {N:Nat} {c:CaseD} {ls:List Int} {t1 o1 o0:Bool} {gone:List Int} {t2 o2:Bool} {K:Int→O R} (hN:8≤N) (b:Es c.buses.l.length N) (k:c.buses.l.length≤1000000) (e:ls.length≤1000000) (hlN:ls.length<N) (f:∀ l ∈ ls,∃ x,LnV c l x) (i:Es gone.length N) (L:List Int) (hL:L.length=c.buses.l.length):∀ (m j fuel:Nat),j+m=c.buses.l.length→m<fuel →
  In N K (Aq ls) ls.length t1 o1 (Aq gone) gone.length t2 o2 c.buses.l.length o0 c.av fuel (c.buses.l.length:Int) (j:Int) (Aq ((Fj c.buses.l.length).take j++L.drop j))=K (((ls.filter fun l=>!gone.contains l)).map (E6 c) |>.foldl FX (Fj c.buses.l.length,(c.buses.l.length:Int))).2
 | 0,j,fuel+1,n,_=>by
  rw[In];unfold Sb
  have:=W0 (R:=R) (N:=N) (c:=c) (ls:=ls) (t1:=t1) (o1:=o1) (o0:=o0) (gone:=gone) (t2:=t2) (o2:=o2) (K:=K) hN b e f i ls.length 0 N (Fj c.buses.l.length,(c.buses.l.length:Int)) (by omega) hlN (by simp[Fj]) (by simp only;omega)
  rw[Iu (by omega),cf,Cx (by omega),List.append_nil,List.take_of_length_le (by simp[Fj];omega)]
  simpa using this
 | m+1,j,fuel+1,n,q=>by
  rw[In];unfold Sb
  have h:j<c.buses.l.length:=by omega
  have d:((Fj c.buses.l.length).take j++L.drop j).length=c.buses.l.length:=by simp[Fj];omega
  rw[Hh h,ct,Ab h,ct,QY (by rw[d];simpa using h),ct,Int.toNat_natCast,Nat.zero_add,Nat.mul_one,Ze,ji hL h,Bo (by omega),OI hN b k e hlN f i L hL m (j+1) fuel (by omega) (by omega)]
theorem Aea {N:Nat} {c:CaseD} {ls:List Int} {n:Nat} {t1 o1 o0:Bool} {gone:List Int} {t2 o2:Bool} {n2:Nat} {K:Int→O R} (hn:n=ls.length) (d:n2=gone.length) (hN:8≤N) (b:Es c.buses.l.length N) (m:c.buses.l.length≤1000000) (q:ls.length≤1000000) (hlN:ls.length<N) (j:∀ l ∈ ls,∃ x,LnV c l x) (s:Es gone.length N) :
  Tm N c.av o0 (Aq ls) n t1 o1 (Aq gone) n2 t2 o2 K=K (I3 c.buses.l.length (((ls.filter fun l=>!gone.contains l)).map (E6 c)):Int):=by
 subst hn d
 rw[VZ];unfold CT
 have:=OI (R:=R) (N:=N) (c:=c) (ls:=ls) (t1:=t1) (o1:=o1) (o0:=o0) (gone:=gone) (t2:=t2) (o2:=o2) (K:=K) hN b m q hlN j s (List.replicate c.buses.l.length 0) (by simp) c.buses.l.length 0 N (by omega) b.1
 rw[Aqf (by
  intro e k
  simp only[List.mem_map,List.mem_filter] at k
  obtain⟨l,f,rfl⟩:=k
  obtain⟨x,i⟩:=j l f.1
  rw[dz i];exact⟨i.f1,i.t1⟩)] at this
 have ok:(decide ((0:Int)≤((c.buses.l.length:Nat):Int))&&(decide (((c.buses.l.length:Nat):Int)≤((c.buses.l.length:Nat):Int))&&(decide (((c.buses.l.length:Nat):Int)≤(140737488355328:Int))&&decide ((((c.buses.l.length:Nat):Int)*((8:Nat):Int))≤(140737488355328:Int)))))=true:=by simp;omega
 rw[Ii,ok,ct]
 have e:List.replicate c.buses.l.length (AV.int .i64 (0:Int))=Aq (List.replicate c.buses.l.length 0):=by simp[Aq]
 rw[e]
 simpa using this
end
end Gx.Cf

namespace Gx.Cf
open Go Go.Proofs
section
variable {R:Type}
theorem cE {N:Nat} {c:CaseD} {h:Int} {o:Bool} {K:Nat→LA→O R} (hs:Small c N):∀ (m j fuel:Nat) (A:List Int),j+m=c.lines.l.length→m<fuel→A.length≤j →
  My N K h (c.lines.l.flatMap LineD.av) c.lines.l.length o fuel A.length (c.lines.l.length:Int) (j:Int) (Aq A)=K (A++aL h (c.lines.l.drop j) j).length (Aq (A++aL h (c.lines.l.drop j) j))
 | 0,j,fuel+1,A,n,_,_=>by
  rw[My];unfold X9
  rw[Iu (by omega),cf,Cx (by omega),aL,List.append_nil]
 | m+1,j,fuel+1,A,n,z,hA=>by
  rw[My];unfold X9
  have d:j<c.lines.l.length:=by omega
  have k:=hs.top.2.1
  have q:c.lines.l[j] ∈ c.lines.l:=List.getElem_mem d
  have s:=hs.law _ q
  rw[Hh d,ct,Ab d,ct,Int.toNat_natCast,Ay Cb _ _ d,B7 d,aL]
  have e:=cE (N:=N) (c:=c) (h:=h) (o:=o) (K:=K) hs m (j+1) fuel (A++[(j:Int)]) (by omega) (by omega) (by simp;omega)
  have i:=cE (N:=N) (c:=c) (h:=h) (o:=o) (K:=K) hs m (j+1) fuel A (by omega) (by omega) (by omega)
  generalize c.lines.l[j]=b at *
  have t:Nat.ble 12 (List.length (b.av++List.flatMap LineD.av (List.drop (j+1) c.lines.l)))=true:=by rw[Bx,List.length_append,Cb];simp
  have u:List.take 12 (b.av++List.flatMap LineD.av (List.drop (j+1) c.lines.l))=b.av:=List.take_left' (Cb b)
  have v:(Nat.ble (A.length+1) 140737488355328&&Nat.ble ((A.length+1)*8) 140737488355328)=true:=by rw[Bx,Bx];simp;omega
  have x:∀ f:LA→Nat→O R,Bw 1 (List.drop 11 b.av) f=f (Aq b.away.l) b.away.l.length:=fun f=>by simp[LineD.av,D6,Fa]
  have y:List.take (A.length*1) (Aq A)++[.int .i64 (j:Int)]=Aq (A++[(j:Int)]):=ve (B:=[(j:Int)]) rfl
  rw[t,ct,u,Cb,show((Nat.beq 0 0)&&((Nat.beq 12 12)&&(Nat.beq 12 12)))=true from rfl,ct,x,iL rfl s,v,ct,y,Bo (by omega)]
  cases b.away.l.contains h with
  | true=>simp only[Bool.not_true,cond_false,cond_true];exact i
  | false =>
   simp only[Bool.not_false,cond_true,cond_false]
   rw[List.length_append] at e
   simpa using e
theorem Aqr {N:Nat} {c:CaseD} {h:Int} {o:Bool} {K:Nat→LA→O R} (hs:Small c N):DN N c.av o h K=K (A7 c h).length (Aq (A7 c h)):=by
 rw[iJ];unfold RT
 have:=cE (R:=R) (N:=N) (c:=c) (h:=h) (o:=o) (K:=K) hs c.lines.l.length 0 N [] (by omega) hs.lin.1 (by simp)
 rw[Gf]
 simpa[A7,Aq] using this
end
end Gx.Cf

namespace Gx.Cf
open Go Go.Proofs
section
variable {R:Type}
theorem Aqs {c:CaseD} {p:C1} {k i:Int}:List.take 8 (C3 c p k i)=c.av:=rfl
theorem A1j {p:C1} {k i:Int}:(LO p k i).length=4:=by rcases p with _ | ⟨⟨a,b,f⟩,e⟩<;>rfl
theorem Aw4 {c:CaseD} {p:C1} {k i:Int}:Nat.ble 8 (List.length (C3 c p k i))=true:=by
 rw[Bx,C3,List.length_append,A1j];simp[CaseD.av]
theorem nw {N:Nat} {c:CaseD} {w w0 o31:Bool} {h0:LA} {x1:Int} {hr:Int} (hs:Small c N) (v:PreV c):∀ (m j fuel:Nat) (p:C1) (k i:Int),j+m=c.outs.l.length→m<fuel →
  ∃ f n:Int,∀ (K0:Int→Bool→LA→O R) (K:Bool→LA→O R),Kg N K0 K (A7 c hr).length (I3 c.buses.l.length ((A7 c hr).map (E6 c)):Int) x1 (c.outs.l.flatMap OutD.av) c.outs.l.length (Aq (A7 c hr)) w0 h0 fuel hr hr o31 (c.outs.l.length:Int) (j:Int) w (C3 c p k i) =
   K0 (IntKind.wrap .i64 (hr+1)) w (C3 c (Bj (Ao6 c hr) (c.outs.l.drop j) j p) f n)
 | 0,j,fuel+1,p,k,i,q,_=>by
  refine⟨k,i,fun K0 K=>?_⟩
  rw[Kg];unfold U0
  rw[Iu (by omega),cf,Cx (by omega),Bj]
 | m+1,j,fuel+1,p,k,i,q,D=>by
  have h:j<c.outs.l.length:=by omega
  have hN:=hs.n64
  have s:c.outs.l[j] ∈ c.outs.l:=List.getElem_mem h
  have t:=hs.oli _ s
  have d:=hs.top
  have u:=FG hr c.lines.l 0
  have e:=hs.lin.1
  obtain⟨x,i1,y⟩:=nw (w:=w) (w0:=w0) (o31:=o31) (h0:=h0) (x1:=x1) (hr:=hr) hs v m (j+1) fuel (Ao6 c hr j c.outs.l[j] p) 6 j (by omega) (by omega)
  refine⟨x,i1,fun K0 K=>?_⟩
  rw[Kg];unfold U0
  rw[Hh h,ct,Ab h,ct,Int.toNat_natCast,Ay Db _ _ h,B7 h,Bj,←y K0 K]
  generalize c.outs.l[j]=b at *
  have z:Nat.ble 4 (List.length (b.av++List.flatMap OutD.av (List.drop (j+1) c.outs.l)))=true:=by rw[Bx,List.length_append,Db];simp
  have A:List.take 4 (b.av++List.flatMap OutD.av (List.drop (j+1) c.outs.l))=b.av:=List.take_left' (Db b)
  rw[z,ct,A,Db,show((Nat.beq 0 0)&&((Nat.beq 4 4)&&(Nat.beq 4 4)))=true from rfl,ct,Mw,Aw4,ct,mP,Aqs,Nat.mul_one,List.take_of_length_le (by rw[Ek];exact Nat.le_refl _),
   Aea rfl rfl (by omega) hs.bus d.1 (by unfold A7;omega) (by unfold A7;omega) (fun l C=>v.lnV C) t,Ar (by decide),Bo (by omega)]
  rfl
theorem ny {N H:Nat} {c:CaseD} {w w0:Bool} {h0:LA} (hs:Small c N) (v:PreV c) (hH:H≤24):∀ (m j fuel:Nat) (p:C1) (k i:Int),j+m=H→m<fuel →
  ∃ f n:Int,∀ K:Bool→LA→O R,Hn N K (H:Int) w0 h0 fuel (j:Int) w (C3 c p k i)=K w (C3 c (Mn c m j p) f n)
 | 0,j,fuel+1,p,k,i,q,_=>by
  refine⟨k,i,fun K=>?_⟩
  rw[Hn];unfold U1
  rw[Iu (by omega),cf,Mn]
 | m+1,j,fuel+1,p,k,i,q,z=>by
  have hN:=hs.n64
  have b:=hs.top
  have s:=FG (j:Int) c.lines.l 0
  have d:=hs.lin.1
  obtain⟨t,i1,e⟩:=nw (R:=R) (w:=w) (w0:=w0) (o31:=w) (h0:=h0) (x1:=(H:Int)) (hr:=(j:Int)) hs v c.outs.l.length 0 N p k i (by omega) hs.out.1
  obtain⟨u,i2,x⟩:=ny (w:=w) (w0:=w0) (h0:=h0) hs v hH m (j+1) fuel (Bj (Ao6 c j) c.outs.l 0 p) t i1 (by omega) (by omega)
  refine⟨u,i2,fun K=>?_⟩
  rw[Hn];unfold U1
  simp only[List.drop_zero,Int.natCast_zero] at e
  rw[Hh (by omega),ct,Aw4,ct,Aqs,Aqr hs,ct,Nat.mul_one,List.take_of_length_le (by rw[Ek];exact Nat.le_refl _),
   Au6 rfl (by omega) hs.bus b.1 (by unfold A7;omega) (by unfold A7;omega) (fun l y=>v.lnV y),vf]
  dsimp only
  rw[e,Bo (by omega),x,Mn]
theorem vU {N:Nat} {c:CaseD} {p:C1} {k i:Int} {w:Bool} (hs:Small c N) (v:PreV c):∃ b d:Int,∀ K:Bool→LA→O R,Sq N w (C3 c p k i) K=K w (C3 c (Mn c c.hours.toNat 0 p) b d):=by
 have e:=v.hours
 have hN:=hs.n64
 obtain⟨b,d,h⟩:=ny (R:=R) (w:=w) (w0:=w) (h0:=C3 c p k i) hs v (H:=c.hours.toNat) (by omega) c.hours.toNat 0 N p k i (by omega) (by omega)
 refine⟨b,d,fun K=>?_⟩
 rw[cB];unfold JI
 rw[nX]
 have:=h K
 rw[Int.toNat_of_nonneg (by omega)] at this
 simpa using this
theorem A2z {c:CaseD} {p:C1} {k i:Int} {w:Bool} {K:LA→Int→O R} {X:O R} :
  (At .i64 (List.drop 11 (C3 c p k i)) fun x3=>(cond (x3 != (0:Int)) (cond (Nat.ble 3 (List.length (List.drop 8 (C3 c p k i)))) (cond ((!w)||(A0 (List.take 3 (List.drop 8 (C3 c p k i))))) (At .i64 (List.drop 11 (C3 c p k i)) fun x4=>(cond ((Nat.beq (List.length (List.take 3 (List.drop 8 (C3 c p k i)))) 3)&&((Nat.ble 3 3)&&(!false))) (cond (Nat.ble 3 (List.length (setCells [(.int .i64 (0:Int)),(.int .i64 (0:Int)),(.int .i64 (0:Int))] 0 (List.take 3 (List.drop 8 (C3 c p k i)))))) (K (List.take 3 (setCells [(.int .i64 (0:Int)),(.int .i64 (0:Int)),(.int .i64 (0:Int))] 0 (List.take 3 (List.drop 8 (C3 c p k i))))) x4) none) none)) none) none) X)) =
  match p with | none=>X | some y=>K (w3 (some y)) y.2.1:=by
 rw[Lh]
 rcases p with _ | ⟨⟨a,b,f⟩,e,d⟩
 ·simp[Bp]
 ·have j:(e != 0)=true:=by simpa using d
  rw[Lh]
  simp[Bp,j,C3,CaseD.av,LO,w3,A0,Bx,GE,setCells,Cy]
end
end Gx.Cf

namespace Gx.Cf
open Go Go.Proofs
section
variable {R:Type}
def iZ (K:LA→Int→O R) (X:Bool→LA→O R) (y1:Bool) (y2:LA):O R :=
   (At .i64 (List.drop 11 y2) fun x3=>(cond (x3 != (0:Int)) (cond (Nat.ble 3 (List.length (List.drop 8 y2))) (cond ((!y1)||(A0 (List.take 3 (List.drop 8 y2)))) (At .i64 (List.drop 11 y2) fun x4=>(cond ((Nat.beq (List.length (List.take 3 (List.drop 8 y2))) 3)&&((Nat.ble 3 3)&&(!false))) (cond (Nat.ble 3 (List.length (setCells [(.int .i64 (0:Int)),(.int .i64 (0:Int)),(.int .i64 (0:Int))] 0 (List.take 3 (List.drop 8 y2))))) (K (List.take 3 (setCells [(.int .i64 (0:Int)),(.int .i64 (0:Int)),(.int .i64 (0:Int))] 0 (List.take 3 (List.drop 8 y2)))) x4) none) none)) none) none) (X y1 y2)))
theorem Zs {c:CaseD} {p:C1} {k i:Int} {w:Bool} {K:LA→Int→O R} {X:Bool→LA→O R}:iZ K X w (C3 c p k i)=match p with | none=>X w (C3 c p k i) | some y=>K (w3 (some y)) y.2.1:=by
 unfold iZ;exact A2z
theorem A44 {N fuel:Nat} {w:Bool} {h:LA} {K:LA→Int→O R}:A9 N K (fuel+1) 0 w h=FL N w h (iZ K (A9 N K fuel 1)):=by
 rw[A9];unfold E9
 rw[show decide ((0:Int)<8)=true from rfl,ct,show Ah (0:Int) 8=true from rfl,ct]
 rfl
theorem A45 {N fuel:Nat} {w:Bool} {h:LA} {K:LA→Int→O R}:A9 N K (fuel+1) 1 w h=FN N w h (iZ K (A9 N K fuel 2)):=by
 rw[A9];unfold E9
 rw[show decide ((1:Int)<8)=true from rfl,ct,show Ah (1:Int) 8=true from rfl,ct]
 rfl
theorem A46 {N fuel:Nat} {w:Bool} {h:LA} {K:LA→Int→O R}:A9 N K (fuel+1) 2 w h=FQ N w h (iZ K (A9 N K fuel 3)):=by
 rw[A9];unfold E9
 rw[show decide ((2:Int)<8)=true from rfl,ct,show Ah (2:Int) 8=true from rfl,ct]
 rfl
theorem A47 {N fuel:Nat} {w:Bool} {h:LA} {K:LA→Int→O R}:A9 N K (fuel+1) 3 w h=FR N w h (iZ K (A9 N K fuel 4)):=by
 rw[A9];unfold E9
 rw[show decide ((3:Int)<8)=true from rfl,ct,show Ah (3:Int) 8=true from rfl,ct]
 rfl
theorem A48 {N fuel:Nat} {w:Bool} {h:LA} {K:LA→Int→O R}:A9 N K (fuel+1) 4 w h=Wv N w h (iZ K (A9 N K fuel 5)):=by
 rw[A9];unfold E9
 rw[show decide ((4:Int)<8)=true from rfl,ct,show Ah (4:Int) 8=true from rfl,ct]
 rfl
theorem A49 {N fuel:Nat} {w:Bool} {h:LA} {K:LA→Int→O R}:A9 N K (fuel+1) 5 w h=RR N w h (iZ K (A9 N K fuel 6)):=by
 rw[A9];unfold E9
 rw[show decide ((5:Int)<8)=true from rfl,ct,show Ah (5:Int) 8=true from rfl,ct]
 rfl
theorem A5a {N fuel:Nat} {w:Bool} {h:LA} {K:LA→Int→O R}:A9 N K (fuel+1) 6 w h=Sp N w h (iZ K (A9 N K fuel 7)):=by
 rw[A9];unfold E9
 rw[show decide ((6:Int)<8)=true from rfl,ct,show Ah (6:Int) 8=true from rfl,ct]
 rfl
theorem A5b {N fuel:Nat} {w:Bool} {h:LA} {K:LA→Int→O R}:A9 N K (fuel+1) 7 w h=Sq N w h (iZ K (A9 N K fuel 8)):=by
 rw[A9];unfold E9
 rw[show decide ((7:Int)<8)=true from rfl,ct,show Ah (7:Int) 8=true from rfl,ct]
 rfl
theorem i8 {N:Nat} {c:CaseD} {o:Bool} {K:LA→Int→O R} (hs:Small c N):FY N c.av o K=K (w3 (Dz c)) (Bp (Dz c)):=by
 have hN:=hs.n64
 have u:setCells [(.int .i64 (0:Int)),.nsl,.nsl,.nsl,.nsl,.nsl,.nsl,.nsl,(.int .i64 (0:Int)),(.int .i64 (0:Int)),(.int .i64 (0:Int)),(.int .i64 (0:Int))] 0 c.av=C3 c none 0 0:=rfl
 rw[nr];unfold eQ
 rw[Co,F1,ct,u,show((Nat.beq (List.length c.av) 8)&&(Nat.ble 8 12))=true from rfl,ct]
 obtain⟨n,hn⟩:∃ n,N=n+9:=⟨N - 9,by omega⟩
 have fin:∀ (y:(Int×Int×Int)×{ e:Int // e≠0 }),KC c=some y→K (w3 (some y)) y.2.1=K (w3 (Dz c)) (Bp (Dz c)):=by
  intro y x
  unfold Dz;rw[x];rfl
 have st:A9 N K N 0 (o||false) (C3 c none 0 0)=A9 N K (n+9) 0 (o||false) (C3 c none 0 0):=by rw[←hn]
 try dsimp only
 rw[st,A44,Ad1 hs,Zs]
 cases b:aG c none with
 | some y =>
  refine fin y ?_
  unfold KC;simp only;rw[b,Bf (fun _ _=>eC _ _ _),Bf (fun _ _=>FH _ _ _),Bf (fun _ _=>Wl _ _ _),Bf (fun _ _=>O9 _ _ _),Bf (fun _ _=>Tg _ _ _),Bf (fun _ _=>Nq)]
 | none =>
  try dsimp only
  rw[A45]
  obtain⟨z,i1,A⟩:=Ad2 (R:=R) (p:=none) (k:=0) (i:=0) (w:=(o||false)) hs
  rw[A,Zs]
  cases d:Bj (Acw c) c.buses.l 0 none with
  | some y =>
   refine fin y ?_
   unfold KC;simp only;rw[b,d,Bf (fun _ _=>FH _ _ _),Bf (fun _ _=>Wl _ _ _),Bf (fun _ _=>O9 _ _ _),Bf (fun _ _=>Tg _ _ _),Bf (fun _ _=>Nq)]
  | none =>
   try dsimp only
   rw[A46]
   obtain⟨C,i2,D⟩:=Ad3 (R:=R) (p:=none) (k:=z) (i:=i1) (w:=(o||false)) hs
   rw[D,Zs]
   cases f:Bj (MY c) c.lines.l 0 none with
   | some y =>
    refine fin y ?_
    unfold KC;simp only;rw[b,d,f,Bf (fun _ _=>Wl _ _ _),Bf (fun _ _=>O9 _ _ _),Bf (fun _ _=>Tg _ _ _),Bf (fun _ _=>Nq)]
   | none =>
    try dsimp only
    rw[A47]
    obtain⟨F,i3,G⟩:=Ad5 (R:=R) (p:=none) (k:=C) (i:=i2) (w:=(o||false)) hs
    rw[G,Zs]
    cases j:Bj (UQ c) c.units.l 0 none with
    | some y =>
     refine fin y ?_
     unfold KC;simp only;rw[b,d,f,j,Bf (fun _ _=>O9 _ _ _),Bf (fun _ _=>Tg _ _ _),Bf (fun _ _=>Nq)]
    | none =>
     try dsimp only
     rw[A48]
     obtain⟨I,i4,L⟩:=Aaj (R:=R) (p:=none) (k:=F) (i:=i3) (w:=(o||false)) hs
     rw[L,Zs]
     cases m:Bj (Z8 c) c.stores.l 0 none with
     | some y =>
      refine fin y ?_
      unfold KC;simp only;rw[b,d,f,j,m,Bf (fun _ _=>Tg _ _ _),Bf (fun _ _=>Nq)]
     | none =>
      try dsimp only
      rw[A49]
      obtain⟨M,i5,S⟩:=Akx (R:=R) (p:=none) (k:=I) (i:=i4) (w:=(o||false)) hs
      rw[S,Zs]
      cases s:Bj (Acx c) c.ties.l 0 none with
      | some y =>
       refine fin y ?_
       unfold KC;simp only;rw[b,d,f,j,m,s,Bf (fun _ _=>Nq)]
      | none =>
       try dsimp only
       rw[A5a]
       obtain⟨T,i6,U⟩:=vT (R:=R) (p:=none) (k:=M) (i:=i5) (w:=(o||false)) hs
       rw[U,Zs]
       cases t:Bj (jf c) c.outs.l 0 none with
       | some y =>
        refine fin y ?_
        unfold KC;simp only;rw[b,d,f,j,m,s,t]
       | none =>
        have q:KC c=none:=by unfold KC;simp only;rw[b,d,f,j,m,s,t]
        have v:=eD q
        try dsimp only
        rw[A5b]
        obtain⟨Y,i7,V⟩:=vU (R:=R) (p:=none) (k:=T) (i:=i6) (w:=(o||false)) hs v
        rw[V,Zs]
        have X:Dz c=Mn c c.hours.toNat 0 none:=by unfold Dz;rw[q]
        rw[X]
        cases hq:Mn c c.hours.toNat 0 none with
        | some y=>rfl
        | none =>
         try dsimp only
         rw[A9];unfold E9
         rfl
end
end Gx.Cf

namespace Gx
open Go
def F3 (c:UInt8):Bool:=decide (48≤c.toNat)&&decide (c.toNat≤57)
def Lj (s:List UInt8):Nat:=s.foldl (fun a c=>10*a+(c.toNat - 48)) 0
def Au7 (s:List UInt8):Bool:=s.all F3&&!s.isEmpty
def W1 (s:List UInt8):Bool:=Au7 s&&(s==[48]||s.head? != some 48)
theorem Ayz (s:List UInt8):∀ a,s.foldl (fun a c=>10*a+(c.toNat - 48)) a=a*10 ^ s.length+Lj s:=by
 unfold Lj
 induction s with
 | nil=>intro a;simp
 | cons c r b =>
  intro a
  rw[List.foldl_cons,List.foldl_cons,b,b (10*0+_),List.length_cons,Nat.pow_succ,Nat.add_mul,Nat.add_mul]
  have:10*a*10 ^ r.length=a*(10 ^ r.length*10):=by rw[Nat.mul_comm 10 a,Nat.mul_assoc,Nat.mul_comm 10]
  rw[this];omega
theorem tj (a b:List UInt8):Lj (a++b)=Lj a*10 ^ b.length+Lj b:=by
 have:=Ayz b (Lj a)
 unfold Lj at *
 rw[List.foldl_append];exact this
theorem Agt (c:UInt8) (r:List UInt8):Lj (c::r)=(c.toNat - 48)*10 ^ r.length+Lj r:=by
 have:=tj [c] r
 simpa[Lj] using this
theorem vg {s:List UInt8} (h:s.all F3=true):Lj s<10 ^ s.length:=by
 induction s with
 | nil=>simp[Lj]
 | cons c r b =>
  simp only[List.all_cons,Bool.and_eq_true] at h
  have d:=b h.2
  have e:c.toNat≤57:=by have:=h.1;simp[F3] at this;omega
  rw[Agt,List.length_cons,Nat.pow_succ]
  have:(c.toNat - 48)*10 ^ r.length≤9*10 ^ r.length:=Nat.mul_le_mul_right _ (by omega)
  omega
end Gx

namespace Gx
open Go Go.Proofs
section
variable {R:Type}
def fit (k N:Nat):Prop:=100*k+1000≤N∧k≤1000000000
theorem fit.le {j k N:Nat} (h:fit k N) (b:j≤k):fit j N:=⟨by have:=h.1;omega,by have:=h.2;omega⟩
theorem ct (x y:O R):cond true x y=x:=rfl
theorem cf (x y:O R):cond false x y=y:=rfl
theorem A39 (x y:Bool):cond true x y=x:=rfl
theorem A6q (x y:Bool):cond false x y=y:=rfl
theorem A4a (c:Nat):((decide (((c+1:Nat):Int)>(0:Int)))==true)=true:=by simp
theorem Hh {j n:Nat} (h:j<n):decide ((j:Int)<(n:Int))=true:=by simp;omega
theorem Iu {j n:Nat} (h:n≤j):decide ((j:Int)<(n:Int))=false:=by simp;omega
theorem wS {j:Nat} (h:j≤1000000000000):IntKind.wrap .i64 ((j:Int)+1)=((j+1:Nat):Int):=by rw[i64 (by omega)];omega
theorem wP {j:Nat} (h:j≤1000000000000):IntKind.wrap .i64 (((j+1:Nat):Int) - 1)=(j:Int):=by rw[i64 (by omega)];omega
theorem wA {j k:Nat} (h:j+k≤1000000000000):IntKind.wrap .i64 ((j:Int)+(k:Int))=((j+k:Nat):Int):=by rw[i64 (by omega)];omega
theorem Aeb {l:List Nat} {j:Nat} (h:j<l.length) {f:Int→O R}:At .u32 (List.drop ((Int.toNat (j:Int))*1) (As l)) f=f (l[j]:Nat):=by
 rw[Int.toNat_natCast,Nat.mul_one,A00 h]
theorem qY {l:List Nat} {j:Nat} (h:j<l.length) {f:Int→O R}:At .u32 (List.drop (0+((Int.toNat (j:Int))*1)) (As l)) f=f (l[j]:Nat):=by
 rw[Nat.zero_add,Aeb h]
theorem A4r {c a:Nat} (h:c≤a):((decide ((0:Int)≤(0:Int)))&&((decide ((0:Int)≤(c:Int)))&&((decide ((c:Int)≤(a:Int)))&&(decide ((a:Int)≤(a:Int))))))=true:=by
 simp;omega
theorem A4b {n:Nat} (h:n≤1000000000000):((decide ((0:Int)≤(n:Int)))&&((decide ((n:Int)≤(n:Int)))&&((decide ((n:Int)≤(140737488355328:Int)))&&(decide (((n:Int)*((4:Nat):Int))≤(140737488355328:Int))))))=true:=by
 simp;omega
theorem Awf {x:Nat} {m:List Nat} (h:x<m.length):((Nat.beq 1 1)&&((Nat.ble ((0+((Int.toNat (x:Int))*1))+1) (List.length (As m)))&&(!false)))=true:=by
 rw[Cs,Int.toNat_natCast];simp;omega
theorem Aav {x v:Nat} {m:List Nat}:List.set (As m) (0+((Int.toNat (x:Int))*1)) (.int .u32 (v:Int))=As (m.set x v):=by
 rw[Int.toNat_natCast,Nat.mul_one,Nat.zero_add,Ano]
theorem A1k {l:List Nat} (h:Av l):l.take (Ba (val l)).length=Ba (val l):=by
 obtain⟨b,c⟩:=Ds h
 rw[congrArg (List.take (Ba (val l)).length) b,List.take_left]
theorem Ay0 {l:List Nat} (h:Av l):List.take ((Ba (val l)).length*1) (As l)=As (Ba (val l)):=by rw[Nat.mul_one,dW,A1k h]
theorem Cp {l:List Nat} {c:Nat} (h:c<l.length):val (l.take (c+1))=val (l.take c)+4294967296 ^ c*l[c]:=by
 rw[List.take_succ_eq_append_getElem h,As3,List.length_take,Nat.min_eq_left (by omega)]
theorem Aky {l:List Nat} {c:Nat} (b:Av l) (h:c<l.length) (h0:l[c]≠0):Ba (val (l.take (c+1)))=l.take (c+1):=by
 apply A34 (L0 b _)
 intro d
 rw[List.getLast_eq_getElem]
 simp only[List.length_take,Nat.min_eq_left (show c+1≤l.length by omega),Nat.add_sub_cancel,List.getElem_take]
 exact h0
theorem Aaw {N:Nat} {l:List Nat} {K:Nat→O R} (b:Av l) (hs:l.length≤1000000000000):∀ (c fuel:Nat),c≤l.length→c<fuel →
  V8 N K l.length (As l) fuel (c:Int)=K (Ba (val (l.take c))).length
 | 0,fuel+1,d,_=>by
  rw[V8];unfold PS
  rw[show decide (((0:Nat):Int)>0)=false by simp]
  rw[show((false:Bool)==true)=false by rfl,cf,A4r (by omega),ct,Int.toNat_natCast];rfl
 | c+1,fuel+1,d,e=>by
  rw[V8];unfold PS
  rw[A4a,ct,wP (by omega),Ab (by omega),ct,qY (by omega),A39,A4r (by omega),ct,Aaw b hs c fuel (by omega) (by omega),Int.toNat_natCast]
  by_cases h0:l[c]=0
  ·rw[Cp (by omega),h0];simp
  ·rw[Aky b (by omega) h0,List.length_take,Nat.min_eq_left d]
   rw[show(((l[c]:Nat):Int)==0)=false by simp;exact h0,cf]
theorem Aax {N:Nat} {l:List Nat} {n:Nat} {K:Nat→O R} (hn:n=l.length) (c:Av l) (b:fit l.length N):JW N n (As l) K=K (Ba (val l)).length:=by
 subst hn
 have d:=b.1;have e:=b.2
 rw[j2];unfold kY
 dsimp only
 rw[Aaw c (by omega) l.length N (Nat.le_refl _) (by omega),List.take_length]
theorem Agu {N:Nat} {l:List Nat} {t o:Bool} {K:LA→Nat→O R} (b:Av l) (hs:l.length≤1000000000000):∀ (c fuel:Nat),c≤l.length→c<fuel →
  L2 N K (As l) l.length t o fuel (c:Int)=K (As (Ba (val (l.take c)))) (Ba (val (l.take c))).length
 | 0,fuel+1,d,_=>by
  rw[L2];unfold Xk
  rw[show decide (((0:Nat):Int)>0)=false by simp]
  rw[show((false:Bool)==true)=false by rfl,cf,A4r (by omega),ct,Int.toNat_natCast];rfl
 | c+1,fuel+1,d,e=>by
  rw[L2];unfold Xk
  rw[A4a,ct,wP (by omega),Ab (by omega),ct,Aeb (by omega),A39,A4r (by omega),ct,Agu b hs c fuel (by omega) (by omega),Int.toNat_natCast,Nat.mul_one,dW]
  by_cases h0:l[c]=0
  ·rw[Cp (by omega),h0];simp
  ·rw[Aky b (by omega) h0,List.length_take,Nat.min_eq_left d]
   rw[show(((l[c]:Nat):Int)==0)=false by simp;exact h0,cf]
theorem D5 {N:Nat} {l:List Nat} {n:Nat} {t o:Bool} {K:LA→Nat→O R} (hn:n=l.length) (c:Av l) (b:fit l.length N):Fc N (As l) n t o K=K (As (Ba (val l))) (Ba (val l)).length:=by
 subst hn
 have d:=b.1;have e:=b.2
 rw[fg];unfold PT
 dsimp only
 rw[Agu c (by omega) l.length N (Nat.le_refl _) (by omega),List.take_length]
end
end Gx

namespace Gx
open Go Go.Proofs
section
variable {R:Type}
def CW (x y:Nat):Int:=if x<y then -1 else if y<x then 1 else 0
theorem Agv (x:Nat):CW x x=0:=by unfold CW;simp
theorem RW {a b:Nat} (h:(Ba a).length<(Ba b).length):a<b:=Nat.lt_of_not_le fun c=>by
 have:=F6 c;omega
theorem vh {u w p q P:Nat} (b:u<P) (c:w<P) (h:p<q):u+P*p<w+P*q:=by
 have:P*(p+1)≤P*q:=Nat.mul_le_mul_left _ h
 rw[Nat.mul_add] at this
 omega
theorem Agw {N:Nat} {x y:List Nat} {t u:Bool} {K:Int→O R} (d:Av x) (e:Av y) (hs:x.length≤1000000000000) (j:x.length=y.length):∀ (i fuel:Nat),i≤x.length→i<fuel →
  Fv N K (As x) x.length t (As y) y.length u fuel ((i:Int) - 1)=K (CW (val (x.take i)) (val (y.take i)))
 | 0,fuel+1,_,_=>by
  rw[Fv];unfold N1
  rw[show decide ((((0:Nat):Int) - 1)≥0)=false by simp,cf]
  simp[Agv]
 | i+1,fuel+1,hi,k=>by
  rw[Fv];unfold N1
  rw[show(((i+1:Nat):Int) - 1)=(i:Int) by omega,show decide ((i:Int)≥0)=true by simp,ct,Ab (by omega),ct,Aeb (by omega),Ab (by omega),ct,Aeb (by omega),ct,Aeb (by omega),ct,Aeb (by omega),i64 (by omega),
   Agw d e hs j i fuel (by omega) (by omega),Cp (by omega),Cp (by omega)]
  have b:=Kt (L0 d i)
  have c:=Kt (L0 e i)
  rw[List.length_take,Nat.min_eq_left (by omega)] at b c
  by_cases c1:x[i]<y[i]
  ·have:=vh b c c1
   rw[show decide (((x[i]:Nat):Int)<((y[i]:Nat):Int))=true by simp;exact c1,ct]
   unfold CW;rw[if_pos this]
  ·by_cases f:y[i]<x[i]
   ·have:=vh c b f
    rw[show decide (((x[i]:Nat):Int)<((y[i]:Nat):Int))=false by simp;omega,cf,show decide (((x[i]:Nat):Int)>((y[i]:Nat):Int))=true by simp;exact f,ct]
    unfold CW;rw[if_neg (by omega),if_pos this]
   ·have:x[i]=y[i]:=by omega
    rw[show decide (((x[i]:Nat):Int)<((y[i]:Nat):Int))=false by simp;omega,cf,show decide (((x[i]:Nat):Int)>((y[i]:Nat):Int))=false by simp;omega,cf,this]
    unfold CW
    congr 1
    by_cases a1:val (x.take i)<val (y.take i)
    ·rw[if_pos a1,if_pos (by omega)]
    ·by_cases a2:val (y.take i)<val (x.take i)
     ·rw[if_neg a1,if_pos a2,if_neg (by omega),if_pos (by omega)]
     ·rw[if_neg a1,if_neg a2,if_neg (by omega),if_neg (by omega)]
theorem Agx {N:Nat} {a b:List Nat} {n m:Nat} {t o t' o':Bool} {K:Int→O R} (hn:n=a.length) (i:m=b.length) (d:Av a) (e:Av b) (c:fit (a.length+b.length) N) :
  Nm N (As a) n t o (As b) m t' o' K=K (CW (val a) (val b)):=by
 subst hn i
 have k:=c.1;have l:=c.2
 rw[GR];unfold T1
 dsimp only
 rw[D5 rfl d (c.le (by omega)),D5 rfl e (c.le (by omega))]
 have la:=(Ds d).2
 have lb:=(Ds e).2
 by_cases f:(Ba (val a)).length=(Ba (val b)).length
 ·rw[show((((Ba (val a)).length:Nat):Int) != (((Ba (val b)).length:Nat):Int))=false by simp;omega,cf,i64 (by omega),Agw (Au _) (Au _) (by omega) f _ N (Nat.le_refl _) (by omega),List.take_length,f,List.take_length,Aw,Aw]
 ·rw[show((((Ba (val a)).length:Nat):Int) != (((Ba (val b)).length:Nat):Int))=true by simp;omega,ct]
  by_cases j:(Ba (val a)).length<(Ba (val b)).length
  ·have:=RW j
   rw[show decide ((((Ba (val a)).length:Nat):Int)<(((Ba (val b)).length:Nat):Int))=true by simp;omega,ct]
   unfold CW;rw[if_pos this]
  ·have:=RW (show(Ba (val b)).length<(Ba (val a)).length by omega)
   rw[show decide ((((Ba (val a)).length:Nat):Int)<(((Ba (val b)).length:Nat):Int))=false by simp;omega,cf]
   unfold CW;rw[if_neg (by omega),if_pos this]
end
end Gx

namespace Gx
open Go Go.Proofs
section
variable {R:Type}
theorem vj:∀ {S:List Nat} {d v:Nat} (h:d<S.length),val (S.set d v)+4294967296 ^ d*S[d]=val S+4294967296 ^ d*v
 | x::r,0,v,_=>by simp[val];omega
 | x::r,d+1,v,h=>by
  have b:=vj (S:=r) (d:=d) (v:=v) (by simpa using h)
  simp only[List.set_cons_succ,val,List.getElem_cons_succ,Nat.pow_succ]
  have e1:∀ y,4294967296 ^ d*4294967296*y=4294967296*(4294967296 ^ d*y):=fun y=>by rw[Nat.mul_comm (4294967296 ^ d),Nat.mul_assoc]
  rw[e1,e1]
  omega
theorem OJ (b:List Nat) (d:Nat):val (b.take (d+1))=val (b.take d)+4294967296 ^ d*b.getD d 0:=by
 by_cases h:d<b.length
 ·rw[Cp h,List.getD_eq_getElem?_getD,List.getElem?_eq_getElem h];rfl
 ·rw[List.take_of_length_le (by omega),List.take_of_length_le (by omega),List.getD_eq_getElem?_getD,List.getElem?_eq_none (by omega)];simp
theorem cF (P s:Nat):P*(s%4294967296)+P*4294967296*(s/4294967296)=P*s:=by
 rw[Nat.mul_assoc,←Nat.mul_add,Nat.add_comm,Nat.div_add_mod]
def A2k (S:List Nat) (d:Nat):Prop:=∀ j (h:j<S.length),d≤j→S[j]=0
theorem eV {S:List Nat} {d v:Nat} (h:A2k S d):A2k (S.set d v) (d+1):=fun j b c=>by
 rw[List.getElem_set]
 rw[if_neg (by omega)]
 exact h j (by simpa using b) (by omega)
theorem Ya (n:Nat):A2k (List.replicate n 0) 0:=fun j b _=>by simp
theorem eW {S:List Nat} {d v:Nat} (h:A2k S d) (b:d<S.length):val (S.set d v)=val S+4294967296 ^ d*v:=by
 have:=vj (v:=v) b
 rw[h d b (Nat.le_refl _)] at this;simpa using this
theorem A6r {a:Nat} (h:a≤1000000000000):IntKind.wrap .i64 (((a:Nat):Int)+(1:Int))=((a+1:Nat):Int):=wS h
theorem A55 {x:Nat} {m:List Nat} (h:x<m.length):((Nat.beq 1 1)&&((Nat.ble ((0+(x*1))+1) (List.length (As m)))&&(!false)))=true:=by
 rw[Cs];simp;omega
theorem A5c {x v:Nat} {m:List Nat}:List.set (As m) (0+(x*1)) (.int .u32 (v:Int))=As (m.set x v):=by rw[Nat.mul_one,Nat.zero_add,Ano]
theorem Aay {N:Nat} {a b:List Nat} {t u:Bool} (x:Av a) (y:Av b) (j:fit (a.length+1) N) (k:b.length≤a.length):∀ (m d fuel:Nat) (S:List Nat) (c:Nat),d+m=a.length→m<fuel→Av S→S.length=a.length+1→A2k S d→c≤1 →
  val S+4294967296 ^ d*c=val (a.take d)+val (b.take d) →
  ∃ S',Av S'∧S'.length=a.length+1∧val S'=val a+val b∧∀ K:Nat→LA→O R,Wa N K (As a) a.length t (As b) b.length u fuel (a.length+1) (c:Int) (a.length:Int) (d:Int) (As S)=K (Ba (val a+val b)).length (As S')
 | 0,d,fuel+1,S,c,L,_,hS,l,n,M,I=>by
  have T:=j.1;have U:=j.2
  have z:d=a.length:=by omega
  subst z
  have q:val (S.set a.length c)=val a+val b:=by
   rw[eW n (by omega),I,List.take_length,List.take_of_length_le k]
  have v:=Nj hS (show c<4294967296 by omega) a.length
  refine⟨S.set a.length c,v,by simpa using l,q,fun K=>?_⟩
  rw[Wa];unfold EF
  rw[Iu (Nat.le_refl _),cf,Ab (by omega),ct,A55 (by omega),ct,A3p (by omega),A5c,Aax (by simp;omega) v (by simp only[List.length_set,l];exact j),q]
 | m+1,d,fuel+1,S,c,L,V,hS,l,n,M,I=>by
  have T:=j.1;have U:=j.2
  have f:d<a.length:=by omega
  have ad:=Ja x f
  have step:∀ s:Nat,s<8589934592→s=c+a[d]+b.getD d 0→val (S.set d (s%4294967296))+4294967296 ^ (d+1)*(s/4294967296)=val (a.take (d+1))+val (b.take (d+1)):=by
   intro s _ hs
   rw[eW n (by omega),Cp f,OJ b d,Nat.pow_succ]
   have e:=cF (4294967296 ^ d) s
   have X:4294967296 ^ d*s=4294967296 ^ d*c+4294967296 ^ d*a[d]+4294967296 ^ d*b.getD d 0:=by rw[hs,Nat.mul_add,Nat.mul_add]
   omega
  by_cases i:d<b.length
  ·have bd:=Ja y i
   have A:b.getD d 0=b[d]:=by rw[List.getD_eq_getElem?_getD,List.getElem?_eq_getElem i];rfl
   obtain⟨S',C,D,F,G⟩:=Aay (t:=t) (u:=u) x y j k m (d+1) fuel (S.set d ((c+a[d]+b[d])%4294967296)) ((c+a[d]+b[d])/4294967296) (by omega) (by omega) (Nj hS (by omega) d) (by simpa using l) (eV n) (by omega) (step _ (by omega) (by rw[A]))
   refine⟨S',C,D,F,fun K=>?_⟩
   rw[Wa];unfold EF
   rw[Hh f,ct,Ab f,ct,Aeb f,Hh i,ct,Ab i,ct,Aeb i,Ab (by omega),ct,Awf (by omega),ct,XB (by omega),XB (by omega),Aim,XB (by omega),Aim,XB (by omega),As5,Anp,Aav,wS (by omega)]
   exact G K
  ·have A:b.getD d 0=0:=by rw[List.getD_eq_getElem?_getD,List.getElem?_eq_none (by omega)];rfl
   obtain⟨S',C,D,F,G⟩:=Aay (t:=t) (u:=u) x y j k m (d+1) fuel (S.set d ((c+a[d])%4294967296)) ((c+a[d])/4294967296) (by omega) (by omega) (Nj hS (by omega) d) (by simpa using l) (eV n) (by omega) (step _ (by omega) (by rw[A];rfl))
   refine⟨S',C,D,F,fun K=>?_⟩
   rw[Wa];unfold EF
   rw[Hh f,ct,Ab f,ct,Aeb f,Iu (by omega),cf,Ab (by omega),ct,Awf (by omega),ct,XB (by omega),Aim,XB (by omega),As5,Anp,Aav,wS (by omega)]
   exact G K
theorem A1l {N:Nat} {a b:List Nat} {t u:Bool} (e:Av a) (f:Av b) (c:fit (a.length+1) N) (d:b.length≤a.length) :
  ∃ S',Av S'∧val S'=val a+val b∧∀ K:Nat→LA→O R,LT N K (As a) a.length t (As b) b.length u=K (Ba (val a+val b)).length (As S'):=by
 have l:=c.1;have m:=c.2
 obtain⟨S',i,_,j,k⟩:=Aay (R:=R) (t:=t) (u:=u) e f c d a.length 0 N (List.replicate (a.length+1) 0) 0 (by omega) (by omega) (Jb _) (by simp) (Ya _) (by omega) (by rw[J9];simp[val])
 refine⟨S',i,j,fun K=>?_⟩
 unfold LT j5
 rw[A6r (by omega),A4b (by omega),ct,Int.toNat_natCast,Ku]
 exact k K
theorem A1m {N:Nat} {a b:List Nat} {n m:Nat} {t o t' o':Bool} (hn:n=a.length) (k:m=b.length) (e:Av a) (f:Av b) (c:fit (a.length+b.length+1) N) :
  ∃ S',Av S'∧val S'=val a+val b∧∀ K:Nat→LA→O R,pb N (As a) n t o (As b) m t' o' K=K (Ba (val a+val b)).length (As S'):=by
 subst hn k
 have la:=(Ds e).2
 have lb:=(Ds f).2
 by_cases l:(Ba (val a)).length<(Ba (val b)).length
 ·obtain⟨S',i,d,j⟩:=A1l (R:=R) (N:=N) (a:=Ba (val b)) (b:=Ba (val a)) (t:=o') (u:=o) (Au _) (Au _) (c.le (by omega)) (by omega)
  rw[Aw,Aw,Nat.add_comm] at d
  refine⟨S',i,d,fun K=>?_⟩
  rw[j6];unfold kj
  dsimp only
  rw[D5 rfl e (c.le (by omega)),D5 rfl f (c.le (by omega)),Hh l,ct,j,Aw,Aw,Nat.add_comm (val b)]
 ·obtain⟨S',i,d,j⟩:=A1l (R:=R) (N:=N) (a:=Ba (val a)) (b:=Ba (val b)) (t:=o) (u:=o') (Au _) (Au _) (c.le (by omega)) (by omega)
  rw[Aw,Aw] at d
  refine⟨S',i,d,fun K=>?_⟩
  rw[j6];unfold kj
  dsimp only
  rw[D5 rfl e (c.le (by omega)),D5 rfl f (c.le (by omega)),Iu (by omega),cf,j,Aw,Aw]
end
end Gx

namespace Gx
open Go Go.Proofs
section
variable {R:Type}
theorem Agy {x y:Nat} (b:x<4294967296) (e:y≤4294967296):∃ d c:Nat,d<4294967296∧c≤1∧x+4294967296*c=d+y∧IntKind.wrap .u32 (IntKind.wrap .u64 ((x:Int) - (y:Int)))=(d:Int)∧Int.fdiv (IntKind.wrap .u64 ((x:Int) - (y:Int))) (2 ^ 63)=(c:Int):=by
 by_cases h:y≤x
 ·refine⟨x - y,0,by omega,by omega,by omega,?_,?_⟩
  ·rw[Ain (by omega) h,A3p (by omega)]
  ·rw[Ain (by omega) h,A41,Nat.div_eq_of_lt (by omega)]
 ·refine⟨x+4294967296 - y,1,by omega,by omega,by omega,?_,?_⟩
  ·rw[A01 (by omega) (by omega),Anp];congr 1;omega
  ·rw[A01 (by omega) (by omega),A41];congr 1;omega
theorem A20 {x c w:Nat} (b:x<4294967296) (d:c≤1) (e:w<4294967296):IntKind.wrap .u64 ((IntKind.wrap .u64 ((x:Int) - (c:Int))) - (w:Int))=IntKind.wrap .u64 ((x:Int) - ((c+w:Nat):Int)):=by
 rw[um,um,um];omega
theorem Aaz {N:Nat} {a b:List Nat} {t u:Bool} (z:Av a) (A:Av b) (n:fit a.length N) (k:b.length≤a.length) (q:val b≤val a):∀ (m d fuel:Nat) (S:List Nat) (c:Nat),d+m=a.length→m<fuel→Av S→S.length=a.length→A2k S d→c≤1 →
  val S+val (b.take d)=val (a.take d)+4294967296 ^ d*c →
  ∃ S',Av S'∧val S'=val a - val b∧∀ K:Nat→Bool→LA→O R,S5 N K (As b) b.length t a.length (As a) u fuel (c:Int) (a.length:Int) (d:Int) (As S)=K (Ba (val a - val b)).length true (As S')
 | 0,d,fuel+1,S,c,hd,_,hS,l,x,Y,hv=>by
  have C:d=a.length:=by omega
  subst C
  rw[List.take_length,List.take_of_length_le k] at hv
  have D:=Kt hS
  rw[l] at D
  have F:c=0:=by
   rcases Nat.lt_or_ge 0 c with h | h
   ·exfalso
    have:c=1:=by omega
    subst this
    omega
   ·omega
  subst F
  have s:val S=val a - val b:=by omega
  refine⟨S,hS,s,fun K=>?_⟩
  rw[S5];unfold EG
  rw[Iu (Nat.le_refl _),cf,Aax l.symm hS (by rw[l];exact n),s]
 | m+1,d,fuel+1,S,c,hd,hfu,hS,l,x,Y,hv=>by
  have h1:=n.1;have h2:=n.2
  have f:d<a.length:=by omega
  have ad:=Ja z f
  have step:∀ y g j:Nat,y=c+b.getD d 0→a[d]+4294967296*j=g+y→val (S.set d g)+val (b.take (d+1))=val (a.take (d+1))+4294967296 ^ (d+1)*j:=by
   intro y g j hy v
   rw[eW x (by omega),Cp f,OJ b d,Nat.pow_succ,Nat.mul_assoc]
   have e:4294967296 ^ d*(a[d]+4294967296*j)=4294967296 ^ d*(g+(c+b.getD d 0)):=by rw[v,hy]
   rw[Nat.mul_add,Nat.mul_add,Nat.mul_add] at e
   omega
  by_cases i:d<b.length
  ·have bd:=Ja A i
   have v:b.getD d 0=b[d]:=by rw[List.getD_eq_getElem?_getD,List.getElem?_eq_getElem i];rfl
   obtain⟨g,j,G,I,L,M,T⟩:=Agy ad (show c+b[d]≤4294967296 by omega)
   obtain⟨S',U,V,X⟩:=Aaz (t:=t) (u:=u) z A n k q m (d+1) fuel (S.set d g) j (by omega) (by omega) (Nj hS G d) (by simpa using l) (eV x) I (step _ _ _ (by rw[v]) L)
   refine⟨S',U,V,fun K=>?_⟩
   rw[S5];unfold EG
   rw[Hh f,ct,Ab f,ct,Aeb f,Hh i,ct,Ab i,ct,Aeb i,ct,Awf (by omega),ct,XB (show a[d]<18446744073709551616 by omega),XB (show b[d]<18446744073709551616 by omega),A20 ad Y bd,M,T,Aav,wS (by omega)]
   exact X K
  ·have v:b.getD d 0=0:=by rw[List.getD_eq_getElem?_getD,List.getElem?_eq_none (by omega)];rfl
   obtain⟨g,j,G,I,L,M,T⟩:=Agy ad (show c≤4294967296 by omega)
   obtain⟨S',U,V,X⟩:=Aaz (t:=t) (u:=u) z A n k q m (d+1) fuel (S.set d g) j (by omega) (by omega) (Nj hS G d) (by simpa using l) (eV x) I (step _ _ _ (by rw[v];rfl) L)
   refine⟨S',U,V,fun K=>?_⟩
   rw[S5];unfold EG
   rw[Hh f,ct,Ab f,ct,Aeb f,Iu (by omega),cf,ct,Awf (by omega),ct,XB (show a[d]<18446744073709551616 by omega),M,T,Aav,wS (by omega)]
   exact X K
theorem Aqt {N:Nat} {a b:List Nat} {n m:Nat} {t o t' o':Bool} (hn:n=a.length) (k:m=b.length) (f:Av a) (i:Av b) (c:fit (a.length+b.length) N) (d:val b≤val a) :
  ∃ S',Av S'∧val S'=val a - val b∧∀ K:Nat→Bool→LA→O R,YD N (As a) n t o (As b) m t' o' K=K (Ba (val a - val b)).length true (As S'):=by
 subst hn k
 have s:=c.1;have v:=c.2
 have la:=(Ds f).2
 have lb:=(Ds i).2
 have e:=F6 d
 obtain⟨S',l,j,q⟩:=Aaz (R:=R) (N:=N) (a:=Ba (val a)) (b:=Ba (val b)) (t:=o') (u:=o) (Au _) (Au _) (c.le (by omega)) e (by rw[Aw,Aw];exact d) (Ba (val a)).length 0 N (List.replicate (Ba (val a)).length 0) 0 (by omega) (by omega) (Jb _) (by simp) (Ya _) (by omega) (by rw[J9];simp[val])
 rw[Aw,Aw] at j
 refine⟨S',l,j,fun K=>?_⟩
 rw[j7];unfold kp
 dsimp only
 rw[D5 rfl f (c.le (by omega)),D5 rfl i (c.le (by omega)),Agx rfl rfl (Au _) (Au _) (c.le (by omega)),Aw,Aw]
 have:decide (CW (val a) (val b)<0)=false:=by unfold CW;split<;>(try split)<;>simp<;>omega
 rw[this,cf,A4b (by omega),ct,Ku]
 have:=q K
 rw[Aw,Aw] at this
 exact this
theorem A1n {N:Nat} {a b:List Nat} {n m:Nat} {t o t' o':Bool} {K:Nat→Bool→LA→O R} (hn:n=a.length) (i:m=b.length) (e:Av a) (f:Av b) (c:fit (a.length+b.length) N) (d:val a<val b) :
  YD N (As a) n t o (As b) m t' o' K=K 0 false []:=by
 subst hn i
 have la:=(Ds e).2
 have lb:=(Ds f).2
 rw[j7];unfold kp
 dsimp only
 rw[D5 rfl e (c.le (by omega)),D5 rfl f (c.le (by omega)),Agx rfl rfl (Au _) (Au _) (c.le (by omega)),Aw,Aw]
 have:decide (CW (val a) (val b)<0)=true:=by unfold CW;rw[if_pos d];rfl
 rw[this,ct]
end
end Gx

namespace Gx
open Go Go.Proofs
section
variable {R:Type}
theorem A3q {n:Nat} (h:n≠0):(((n:Nat):Int)==(0:Int))=false:=by rw[beq_eq_false_iff_ne];omega
theorem A1o:∀ {S:List Nat} {j:Nat} (h:j<S.length),4294967296 ^ j*S[j]≤val S
 | x::r,0,_=>by simp[val]
 | x::r,j+1,h=>by
  have:=A1o (S:=r) (j:=j) (by simpa using h)
  simp only[List.getElem_cons_succ,val,Nat.pow_succ]
  rw[Nat.mul_comm (4294967296 ^ j),Nat.mul_assoc]
  omega
theorem A4c {S:List Nat} {k:Nat} (h:val S<4294967296 ^ k):A2k S k:=fun j b c=>by
 have d:=A1o b
 have e:4294967296 ^ k≤4294967296 ^ j:=Nat.pow_le_pow_right (by omega) c
 rcases Nat.eq_zero_or_pos S[j] with h0 | h0
 ·exact h0
 ·have:=Nat.le_mul_of_pos_right (4294967296 ^ j) h0
  omega
theorem A1p {p q y s:Nat} (b:p<4294967296) (hq:q<4294967296) (c:y<4294967296) (hs:s<4294967296):p+(q*y+s)<18446744073709551616:=by
 have:q*y≤4294967295*4294967295:=Nat.mul_le_mul (by omega) (by omega)
 omega
theorem A1q {N:Nat} {x y:List Nat} {c d:Bool} {f q J:Nat} (D:Av y) (hq:q<4294967296) (G:f<x.length) (hs:x.length+y.length≤1000000000000):∀ (m l fuel:Nat) (S:List Nat) (p:Nat) (v:Nat),l+m=y.length→m<fuel→Av S→S.length=x.length+y.length→A2k S (f+y.length)→p<4294967296 →
  val S+4294967296 ^ (f+l)*p=v+4294967296 ^ f*(q*val (y.take l)) →
  ∃ S',Av S'∧S'.length=x.length+y.length∧val S'=v+4294967296 ^ f*(q*val y)∧∀ (k:Nat→Int→Int→LA→O R) (K:Nat→LA→O R),V9 N k K (As y) y.length d (x.length+y.length) (f:Int) (q:Int) (As x) x.length c (J:Int) fuel (p:Int) (y.length:Int) (l:Int) (As S)=k (x.length+y.length) J ((f+1:Nat):Int) (As S')
 | 0,l,fuel+1,S,p,v,I,_,hS,b,u,t,z=>by
  have A:l=y.length:=by omega
  subst A
  rw[List.take_length] at z
  refine⟨S.set (f+y.length) p,Nj hS t _,by simpa using b,by rw[eW u (by omega),z],fun k K=>?_⟩
  rw[V9];unfold PW
  rw[Iu (Nat.le_refl _),cf,wA (by omega),Ab (by omega),ct,Awf (by omega),ct,A3p t,Aav,wS (by omega)]
 | m+1,l,fuel+1,S,p,v,I,L,hS,b,u,t,z=>by
  have i:l<y.length:=by omega
  have yl:=Ja D i
  have hi:f+l<S.length:=by omega
  have sl:=Ja hS hi
  have M:=A1p t hq yl sl
  have C:q*y[l]<18446744073709551616:=by omega
  generalize n:p+(q*y[l]+S[f+l])=s at *
  have F:=vj (v:=s%4294967296) hi
  have key:val (S.set (f+l) (s%4294967296))+4294967296 ^ (f+(l+1))*(s/4294967296)=v+4294967296 ^ f*(q*val (y.take (l+1))):=by
   rw[Cp i,←Nat.add_assoc f l 1,Nat.pow_succ]
   have e:=cF (4294967296 ^ (f+l)) s
   have e2:4294967296 ^ (f+l)*s=4294967296 ^ (f+l)*p+(4294967296 ^ (f+l)*(q*y[l])+4294967296 ^ (f+l)*S[f+l]):=by rw[←n,Nat.mul_add,Nat.mul_add]
   have e3:4294967296 ^ f*(q*(val (y.take l)+4294967296 ^ l*y[l]))=4294967296 ^ f*(q*val (y.take l))+4294967296 ^ (f+l)*(q*y[l]):=by
    rw[Nat.mul_add,Nat.mul_add,Nat.pow_add]
    congr 1
    rw[Nat.mul_assoc];congr 1
    rw[←Nat.mul_assoc,←Nat.mul_assoc,Nat.mul_comm q]
   omega
  obtain⟨S',T,U,V,X⟩:=A1q (N:=N) (x:=x) (c:=c) (d:=d) (J:=J) D hq G hs m (l+1) fuel (S.set (f+l) (s%4294967296)) (s/4294967296) v (by omega) (by omega) (Nj hS (by omega) _) (by simpa using b) (fun j Y hk=>by
   rw[List.getElem_set,if_neg (by omega)];exact u j (by simpa using Y) hk) (by omega) key
  refine⟨S',T,U,V,fun k K=>?_⟩
  rw[V9];unfold PW
  rw[Hh i,ct,Ab i,ct,Aeb i,wA (by omega),Ab (by omega),ct,qY hi,ct,Awf hi,ct,XB (show q<18446744073709551616 by omega),XB (show y[l]<18446744073709551616 by omega),XB (show S[f+l]<18446744073709551616 by omega),A35,XB C,Aim,XB (by omega),Aim,n,XB M,As5,Anp,Aav,wS (by omega)]
  exact X k K
theorem Akz {N:Nat} {x y:List Nat} {c d:Bool} (n:Av x) (s:Av y) (e:fit (x.length+y.length) N):∀ (m f fuel:Nat) (S:List Nat),f+m=x.length→m<fuel→Av S→S.length=x.length+y.length →
  val S=val (x.take f)*val y →
  ∃ S',Av S'∧val S'=val x*val y∧∀ K:Nat→LA→O R,P8 N K (As y) y.length d (As x) x.length c fuel (x.length+y.length) (x.length:Int) (f:Int) (As S)=K (Ba (val x*val y)).length (As S')
 | 0,f,fuel+1,S,C,_,hS,i,l=>by
  have t:f=x.length:=by omega
  subst t
  rw[List.take_length] at l
  refine⟨S,hS,l,fun K=>?_⟩
  rw[P8];unfold EE
  rw[Iu (Nat.le_refl _),cf,Aax i.symm hS (by rw[i];exact e),l]
 | m+1,f,fuel+1,S,C,D,hS,i,l=>by
  have T:=e.1;have U:=e.2
  have b:f<x.length:=by omega
  have xf:=Ja n b
  have A:=Kt (L0 n f)
  rw[List.length_take,Nat.min_eq_left (by omega)] at A
  have F:=Kt s
  have k:val S<4294967296 ^ (f+y.length):=by
   rw[l,Nat.pow_add];exact Nat.mul_lt_mul'' A F
  have j:val (x.take (f+1))*val y=val S+4294967296 ^ f*(x[f]*val y):=by
   rw[Cp b,Nat.add_mul,l,Nat.mul_assoc]
  by_cases h0:x[f]=0
  ·obtain⟨S',u,v,z⟩:=Akz (c:=c) (d:=d) n s e m (f+1) fuel S (by omega) (by omega) hS i (by rw[j,h0];simp)
   refine⟨S',u,v,fun K=>?_⟩
   rw[P8];unfold EE
   rw[Hh b,ct,Ab b,ct,Aeb b,show(((x[f]:Nat):Int)==0)=true by simp[h0],ct,wS (by omega)]
   exact z K
  ·obtain⟨S1,G,I,L,M⟩:=A1q (R:=R) (N:=N) (x:=x) (y:=y) (c:=c) (d:=d) (f:=f) (q:=x[f]) (J:=x.length) s xf b (by omega) y.length 0 N S 0 (val S) (by omega) (by omega) hS i (A4c k) (by omega) (by simp[val])
   obtain⟨S',u,v,z⟩:=Akz (c:=c) (d:=d) n s e m (f+1) fuel S1 (by omega) (by omega) G I (by rw[L,j])
   refine⟨S',u,v,fun K=>?_⟩
   rw[P8];unfold EE
   rw[Hh b,ct,Ab b,ct,Aeb b,show(((x[f]:Nat):Int)==0)=false by simp;exact h0,cf]
   have:=M (P8 N K (As y) y.length d (As x) x.length c fuel) K
   simp only[Int.natCast_zero] at this
   dsimp only
   rw[this]
   exact z K
theorem A1r {N:Nat} {a b:List Nat} {n m:Nat} {t o t' o':Bool} (hn:n=a.length) (q:m=b.length) (j:Av a) (k:Av b) (e:fit (a.length+b.length) N) :
  ∃ S',Av S'∧val S'=val a*val b∧∀ K:Nat→LA→O R,p9 N (As a) n t o (As b) m t' o' K=K (Ba (val a*val b)).length (As S'):=by
 subst hn q
 have v:=e.1;have z:=e.2
 have la:=(Ds j).2
 have lb:=(Ds k).2
 by_cases f:val a=0
 ·refine⟨[],dU,by rw[f];simp[val],fun K=>?_⟩
  rw[PX];unfold dZ
  dsimp only
  rw[D5 rfl j (e.le (by omega)),D5 rfl k (e.le (by omega)),f,Nat.zero_mul,G2];rfl
 ·by_cases i:val b=0
  ·refine⟨[],dU,by rw[i];simp[val],fun K=>?_⟩
   rw[PX];unfold dZ
   dsimp only
   rw[D5 rfl j (e.le (by omega)),D5 rfl k (e.le (by omega)),i,Nat.mul_zero,G2]
   cases ((((Ba (val a)).length:Nat):Int)==0)<;>rfl
  ·obtain⟨S',s,l,u⟩:=Akz (R:=R) (N:=N) (x:=Ba (val a)) (y:=Ba (val b)) (c:=o) (d:=o') (Au _) (Au _) (e.le (by omega)) (Ba (val a)).length 0 N (List.replicate ((Ba (val a)).length+(Ba (val b)).length) 0) (by omega) (by omega) (Jb _) (by simp) (by rw[J9];simp[val])
   rw[Aw,Aw] at l
   refine⟨S',s,l,fun K=>?_⟩
   rw[PX];unfold dZ
   dsimp only
   have n1:(Ba (val a)).length≠0:=fun h=>f (Eb.1 h)
   have n2:(Ba (val b)).length≠0:=fun h=>i (Eb.1 h)
   rw[D5 rfl j (e.le (by omega)),D5 rfl k (e.le (by omega)),A3q n1,show((false:Bool)==false)=true by rfl,ct,A6q,A3q n2,cf]
   unfold dY j4
   rw[wA (by omega),A4b (by omega),ct,Int.toNat_natCast,Ku]
   have:=u K
   rw[Aw,Aw] at this
   exact this
end
end Gx

namespace Gx
open Go Go.Proofs
section
variable {R:Type}
theorem Aw5 {v:Nat} (h:(Ba v).length≤2):v<18446744073709551616:=by
 have:=Kt (Au v)
 rw[Aw] at this
 have b:4294967296 ^ (Ba v).length≤4294967296 ^ 2:=Nat.pow_le_pow_right (by omega) h
 omega
theorem vq {v:Nat} (h:v<18446744073709551616):(Ba v).length≤2:=JU (by simpa using h)
theorem Ay1 {N:Nat} {l:List Nat} {n:Nat} {t o:Bool} {K:Int→O R} (hn:n=l.length) (b:Av l) (c:l.length≤2) (hN:4≤N):d4 N (As l) n t o K=K (val l:Int):=by
 subst hn
 obtain⟨M,rfl⟩:∃ M,N=M+4:=⟨N - 4,by omega⟩
 rw[rP];unfold kv
 match l,b,c with
 | [],_,_ =>
  dsimp only
  rw[Ka];unfold Lp
  simp[val]
 | [x],b,_ =>
  have d:=(Ez.1 b).1
  dsimp only
  rw[Ka];unfold Lp
  simp only[List.length_cons,List.length_nil,Int.toNat_zero,Nat.zero_mul,List.drop_zero,dV,A6]
  rw[show decide ((0:Int)<((0+1:Nat):Int))=true by decide,ct,show Ah 0 (0+1)=true by decide,ct,show IntKind.wrap .i64 ((32:Int)*0)=0 by decide,show decide ((0:Int)<0)=false by decide,cf]
  rw[Ka];unfold Lp
  rw[show IntKind.wrap .i64 ((0:Int)+1)=1 by decide,show decide ((1:Int)<((0+1:Nat):Int))=false by decide,cf]
  have e:IntKind.wrap .u64 ((IntKind.wrap .u64 (x:Int))*2 ^ (min (Int.toNat 0) 64))=(x:Int):=by rw[XB (by omega)];simp;exact XB (by omega)
  rw[e,show(0:Int)=((0:Nat):Int) by rfl,A2s (by omega) (by omega)]
  simp[val]
 | [x,y],b,_ =>
  have d:=(Ez.1 b).1
  have i:=(Ez.1 (Ez.1 b).2).1
  dsimp only
  rw[Ka];unfold Lp
  simp only[List.length_cons,List.length_nil,Int.toNat_zero,Nat.zero_mul,List.drop_zero,dV,A6]
  rw[show decide ((0:Int)<((0+1+1:Nat):Int))=true by decide,ct,show Ah 0 (0+1+1)=true by decide,ct,show IntKind.wrap .i64 ((32:Int)*0)=0 by decide,show decide ((0:Int)<0)=false by decide,cf]
  rw[Ka];unfold Lp
  rw[show IntKind.wrap .i64 ((0:Int)+1)=1 by decide,show decide ((1:Int)<((0+1+1:Nat):Int))=true by decide,ct,show Ah 1 (0+1+1)=true by decide,ct,show IntKind.wrap .i64 ((32:Int)*1)=32 by decide,show decide ((32:Int)<0)=false by decide]
  simp only[show Int.toNat 1*1=1 by rfl,List.drop_succ_cons,List.drop_zero,A6,cf]
  rw[Ka];unfold Lp
  rw[show IntKind.wrap .i64 ((1:Int)+1)=2 by decide,show decide ((2:Int)<((0+1+1:Nat):Int))=false by decide,cf]
  have e:IntKind.wrap .u64 ((IntKind.wrap .u64 (x:Int))*2 ^ (min (Int.toNat 0) 64))=(x:Int):=by rw[XB (by omega)];simp;exact XB (by omega)
  have f:IntKind.wrap .u64 ((IntKind.wrap .u64 (y:Int))*2 ^ (min (Int.toNat 32) 64))=((y*2 ^ 32:Nat):Int):=by
   rw[XB (by omega),show(2:Int) ^ (min (Int.toNat 32) 64)=((2 ^ 32:Nat):Int) by rfl,A35,XB (by omega)]
  rw[e,f,show(0:Int)=((0:Nat):Int) by rfl,A2s (by omega) (by omega),A2s (by simp;omega) (by omega),Nat.zero_or,Nat.or_comm,As6 (by omega)]
  congr 1;simp only[val];omega
theorem Au8 {N:Nat} {v:Nat} (e:v<18446744073709551616) (hN:4≤N):∃ S,Av S∧val S=v∧∀ K:Nat→LA→O R,Nk N (v:Int) K=K (Ba v).length (As S):=by
 have d:Av [v%4294967296,v/4294967296]:=Ez.2 ⟨by omega,Ez.2 ⟨by omega,dU⟩⟩
 have b:val [v%4294967296,v/4294967296]=v:=by simp[val];omega
 refine⟨_,d,b,fun K=>?_⟩
 rw[GP];unfold ED
 rw[Anp,As5,A3p (show v/4294967296<4294967296 by omega)]
 have:=Aaw (R:=R) (N:=N) (l:=[v%4294967296,v/4294967296]) (K:=fun c=>K c (As [v%4294967296,v/4294967296])) d (by simp) 2 N (by simp) (by omega)
 rw[show [v%4294967296,v/4294967296].take 2=[v%4294967296,v/4294967296] by rfl,b] at this
 rw[j2];unfold kY
 exact this
theorem tk {N:Nat} {l:List Nat} {n:Nat} {t o:Bool} {K:Int→Bool→O R} (hn:n=l.length) (c:Av l) (b:fit l.length N):DI N (As l) n t o K=if val l<18446744073709551616 then K (val l:Int) true else K 0 false:=by
 have e:=b.1
 rw[fj];unfold j8
 rw[D5 hn c b]
 by_cases h:val l<18446744073709551616
 ·have:=vq h
  rw[if_pos h,show decide ((((Ba (val l)).length:Nat):Int)>2)=false by simp;omega,cf,Ay1 rfl (Au _) this (by omega),Aw]
 ·have:¬ (Ba (val l)).length≤2:=fun d=>h (Aw5 d)
  rw[if_neg h,show decide ((((Ba (val l)).length:Nat):Int)>2)=true by simp;omega,ct]
theorem Ay2 {N:Nat} {l:List Nat} {n:Nat} {t o:Bool} {K:Nat→LA→O R} (hn:n=l.length) (c:Av l) (b:fit l.length N):ki N (As l) n t o K=K (Ba (val l)).length (As (Ba (val l))):=by
 have d:=b.1;have e:=b.2
 have:=(Ds c).2
 rw[rN];unfold xE
 rw[D5 hn c b,A4b (by omega),ct,GO,Bool.or_true,ct]
 congr 1
 unfold Cy
 rw[Nat.min_self,Nat.mul_one,List.take_zero,List.nil_append,List.take_of_length_le (by rw[Cs];exact Nat.le_refl _),List.drop_eq_nil_of_le (by simp[Cs]),List.append_nil]
end
end Gx

namespace Gx
open Go Go.Proofs
section
variable {R:Type}
theorem Agz {X:List Nat} {n:Nat} (h:X.length=n+1):val X=val (X.take n)+4294967296 ^ n*X[n]:=by
 have:=Cp (l:=X) (c:=n) (by omega)
 rwa [List.take_of_length_le (by omega)] at this
end
end Gx

namespace Gx
open Go Go.Proofs
section
variable {R:Type}
theorem A1s (a b:Nat):Int.tdiv (a:Int) (b:Int)=((a/b:Nat):Int):=rfl
theorem A1t (a b:Nat):Int.tmod (a:Int) (b:Int)=((a%b:Nat):Int):=rfl
theorem A56 {a b:Nat} (c:a<4294967296) (d:b<4294967296):rL .u64 (IntKind.wrap .u64 ((a:Int)*2 ^ 32)) (b:Int)=((a*4294967296+b:Nat):Int):=by
 rw[show(2:Int) ^ 32=((2 ^ 32:Nat):Int) by rfl,A35,XB (by omega),A2s (by omega) (by omega),As6 (by omega)]
end
end Gx

namespace Gx
open Go Go.Proofs
section
variable {R:Type}
theorem A1u {l:List Nat} {d:Nat} (h:d<l.length):val (l.drop d)=l[d]+4294967296*val (l.drop (d+1)):=by
 rw[List.drop_eq_getElem_cons h,val]
end
end Gx

namespace Gx
open Go Go.Proofs
section
variable {R:Type}
theorem Au9 {S:List Nat} {n:Nat} (hS:Av S) (h:S.length=n+1):val S<(S[n]+1)*4294967296 ^ n:=by
 have c:=Agz h
 have b:=Kt (L0 hS n)
 rw[List.length_take,Nat.min_eq_left (by omega)] at b
 rw[Nat.add_mul,Nat.mul_comm S[n]];omega
end
end Gx

namespace Gx
open Go Go.Proofs
section
variable {R:Type}
theorem A1v {x y:Nat} (c:1≤y) (h:y≤x):2*(y*(x%y))≤x*y:=by
 have d:=Nat.div_add_mod x y
 have e:=Nat.mod_lt x (show 0<y by omega)
 have hq:1≤x/y:=by rw[Nat.le_div_iff_mul_le (by omega)];omega
 have f:y*1≤y*(x/y):=Nat.mul_le_mul_left _ hq
 have b:2*(x%y)≤x:=by omega
 have:=Nat.mul_le_mul_left y b
 rw[Nat.mul_comm x y,Nat.mul_left_comm];exact this
end
end Gx

namespace Gx
open Go Go.Proofs
section
variable {R:Type}
theorem qZ {a:List Nat} (b:Av a) (i:Nat):a.getD i 0<4294967296:=by
 by_cases h:i<a.length
 ·rw[List.getD_eq_getElem?_getD,List.getElem?_eq_getElem h];exact Ja b h
 ·rw[List.getD_eq_getElem?_getD,List.getElem?_eq_none (by omega)];simp
end
end Gx

namespace Gx
open Go Go.Proofs
section
variable {R:Type}
theorem A1w (n m:Nat):4294967296 ^ n*4294967296 ^ m=2 ^ (32*(n+m)):=by
 rw[←Nat.pow_add,show(4294967296:Nat)=2 ^ 32 by rfl,←Nat.pow_mul]
end
end Gx

namespace Gx
open Go Go.Proofs
section
variable {R:Type}
theorem A5d {c:Nat} (h:c≤1000000000000):((Nat.ble (0+c) 140737488355328)&&(Nat.ble ((0+c)*4) 140737488355328))=true:=by simp;omega
theorem jn {N:Nat} {l:List Nat} {t o:Bool} {K:Nat→LA→O R} (b:Av l) (hs:l.length≤1000000000000):∀ (c fuel:Nat),c≤l.length→c<fuel →
  Oo N K (As l) l.length t o fuel (c:Int)=K (Ba (val (l.take c))).length (As (Ba (val (l.take c))))
 | 0,fuel+1,d,_=>by
  rw[Oo];unfold BX
  rw[show decide (((0:Nat):Int)>0)=false by simp]
  rw[show((false:Bool)==true)=false by rfl,cf,A4r (by omega),ct,Int.toNat_natCast,Nat.mul_one,dW,GO,Bool.or_true,ct,A5d (by omega),ct];rfl
 | c+1,fuel+1,d,e=>by
  rw[Oo];unfold BX
  rw[A4a,ct,wP (by omega),Ab (by omega),ct,Aeb (by omega),A39,A4r (by omega),ct,jn b hs c fuel (by omega) (by omega),Int.toNat_natCast,Nat.mul_one,dW,GO,Bool.or_true,ct,A5d (by omega),ct,Nat.zero_add]
  by_cases h0:l[c]=0
  ·rw[Cp (by omega),h0];simp
  ·rw[Aky b (by omega) h0,List.length_take,Nat.min_eq_left d]
   rw[A3q h0,cf]
theorem Ei {N:Nat} {l:List Nat} {n:Nat} {t o:Bool} {K:Nat→LA→O R} (hn:n=l.length) (c:Av l) (b:fit l.length N):Em N (As l) n t o K=K (Ba (val l)).length (As (Ba (val l))):=by
 subst hn
 have d:=b.1;have e:=b.2
 rw[P_];unfold LX
 dsimp only
 rw[jn c (by omega) l.length N (Nat.le_refl _) (by omega),List.take_length]
theorem Aqu {N:Nat} {a b:List Nat} {t o t' o':Bool} {K:Bool→O R} (hs:a.length≤1000000000000) (f:a.length=b.length):∀ (m j fuel:Nat),j+m=a.length→m<fuel →
  L3 N K (As a) a.length t o (As b) b.length t' o' fuel (j:Int)=K (decide (a.drop j=b.drop j))
 | 0,j,fuel+1,i,_=>by
  rw[L3];unfold Xl
  rw[Iu (by omega),cf,List.drop_eq_nil_of_le (by omega),List.drop_eq_nil_of_le (by omega)];simp
 | m+1,j,fuel+1,i,k=>by
  have d:j<a.length:=by omega
  have e:j<b.length:=by omega
  rw[L3];unfold Xl
  rw[Hh d,ct,Ab d,ct,Aeb d,Ab e,ct,Aeb e,wS (by omega),Aqu hs f m (j+1) fuel (by omega) (by omega),List.drop_eq_getElem_cons d,List.drop_eq_getElem_cons e]
  by_cases h:a[j]=b[j]
  ·rw[show((((a[j]:Nat):Int) != ((b[j]:Nat):Int)))=false by simp[h],cf];congr 1;rw[decide_eq_decide,List.cons.injEq];exact⟨fun c=>⟨h,c⟩,fun c=>c.2⟩
  ·rw[show((((a[j]:Nat):Int) != ((b[j]:Nat):Int)))=true by rw[bne_iff_ne];omega,ct];congr 1;symm;rw[decide_eq_false_iff_not,List.cons.injEq];exact fun c=>h c.1
theorem A1x {N:Nat} {a b:List Nat} {n m:Nat} {t o t' o':Bool} {K:Bool→O R} (hn:n=a.length) (e:m=b.length) (d:fit a.length N):DJ N (As a) n t o (As b) m t' o' K=K (decide (a=b)):=by
 subst hn e
 have f:=d.1;have i:=d.2
 rw[fm];unfold QA
 by_cases c:a.length=b.length
 ·rw[show(((a.length:Nat):Int) != ((b.length:Nat):Int))=false by simp[c],cf]
  have:=Aqu (R:=R) (N:=N) (t:=t) (o:=o) (t':=t') (o':=o') (K:=K) (by omega) c a.length 0 N (by omega) (by omega)
  simpa using this
 ·rw[show(((a.length:Nat):Int) != ((b.length:Nat):Int))=true by rw[bne_iff_ne];omega,ct]
  congr 1;symm;rw[decide_eq_false_iff_not];intro h;exact c (by rw[h])
theorem JJ {N:Nat} {v:Nat} {K:Nat→LA→O R} (d:v<18446744073709551616) (hN:4≤N):Gc N (v:Int) K=K (Ba v).length (As (Ba v)):=by
 have c:Av [v%4294967296,v/4294967296]:=Ez.2 ⟨by omega,Ez.2 ⟨by omega,dU⟩⟩
 have b:val [v%4294967296,v/4294967296]=v:=by simp[val];omega
 rw[EI];unfold Z4
 rw[Anp,As5,A3p (show v/4294967296<4294967296 by omega)]
 have:=jn (R:=R) (N:=N) (l:=[v%4294967296,v/4294967296]) (t:=false) (o:=true) (K:=K) c (by simp) 2 N (by simp) (by omega)
 rw[show [v%4294967296,v/4294967296].take 2=[v%4294967296,v/4294967296] by rfl,b] at this
 rw[P_];unfold LX
 exact this
theorem RX {N:Nat} {l:List Nat} {n:Nat} {t o:Bool} {K:Int→Bool→O R} (hn:n=l.length) (m:Av l) (j:fit l.length N):Se N (As l) n t o K=if val l<18446744073709551616 then K (val l:Int) true else K 0 false:=by
 have u:=j.1
 rw[YN];unfold GY
 rw[Ei hn m j]
 by_cases h:val l<18446744073709551616
 ·have q:=vq h
  rw[if_pos h,show decide ((((Ba (val l)).length:Nat):Int)>2)=false by simp;omega,cf]
  have c:=Aw (val l)
  have f:=Au (val l)
  obtain⟨M,hM⟩:∃ M,N=M+4:=⟨N - 4,by omega⟩
  rw[hM]
  generalize Ba (val l)=d at *
  match d,q,c,f with
  | [],_,c,_ =>
   dsimp only
   rw[Et];unfold Gd
   rw[←c,i64 (by simp)];rfl
  | [x],_,c,f =>
   have i:=(Ez.1 f).1
   have e:val l=x:=by rw[←c];simp[val]
   dsimp only
   rw[Et];unfold Gd
   rw[i64 (by simp),show((([x]:List Nat).length:Nat):Int) - 1=((0:Nat):Int) by rfl,show decide (((0:Nat):Int)≥0)=true by rfl,ct,Ab (by simp),ct,qY (by simp)]
   rw[Et];unfold Gd
   rw[i64 (by simp),show decide ((((0:Nat):Int) - 1)≥0)=false by rfl,cf]
   have:=A56 (a:=0) (b:=x) (by omega) i
   simp only[List.getElem_cons_zero]
   rw[XB (show x<18446744073709551616 by omega),show(0:Int)=((0:Nat):Int) by rfl,this,e];simp
  | [x,y],_,c,f =>
   have i:=(Ez.1 f).1
   have k:=(Ez.1 (Ez.1 f).2).1
   have e:val l=y*4294967296+x:=by rw[←c];simp[val];omega
   dsimp only
   rw[Et];unfold Gd
   rw[i64 (by simp),show((([x,y]:List Nat).length:Nat):Int) - 1=((1:Nat):Int) by rfl,show decide (((1:Nat):Int)≥0)=true by rfl,ct,Ab (by simp),ct,qY (by simp)]
   rw[Et];unfold Gd
   rw[i64 (by simp),show(((1:Nat):Int) - 1)=((0:Nat):Int) by rfl,show decide (((0:Nat):Int)≥0)=true by rfl,ct,Ab (by simp),ct,qY (by simp)]
   rw[Et];unfold Gd
   rw[i64 (by simp),show decide ((((0:Nat):Int) - 1)≥0)=false by rfl,cf]
   have o1:=A56 (a:=0) (b:=y) (by omega) k
   have o2:=A56 (a:=y) (b:=x) k i
   simp only[List.getElem_cons_zero,List.getElem_cons_succ]
   rw[XB (show y<18446744073709551616 by omega),XB (show x<18446744073709551616 by omega),show(0:Int)=((0:Nat):Int) by rfl,o1,Nat.zero_mul,Nat.zero_add,o2,e]
 ·have:¬ (Ba (val l)).length≤2:=fun s=>h (Aw5 s)
  rw[if_neg h,show decide ((((Ba (val l)).length:Nat):Int)>2)=true by simp;omega,ct]
theorem Ag0 {N:Nat} {x y:List Nat} {K:Int→O R} (d:Av x) (e:Av y) (hs:x.length≤1000000000000) (j:x.length=y.length):∀ (i fuel:Nat),i≤x.length→i<fuel →
  H8 N K x.length y.length (As x) (As y) fuel ((i:Int) - 1)=K (CW (val (x.take i)) (val (y.take i)))
 | 0,fuel+1,_,_=>by
  rw[H8];unfold Ry
  rw[show decide ((((0:Nat):Int) - 1)≥0)=false by simp,cf]
  simp[Agv]
 | i+1,fuel+1,hi,k=>by
  rw[H8];unfold Ry
  rw[show(((i+1:Nat):Int) - 1)=(i:Int) by omega,show decide ((i:Int)≥0)=true by simp,ct,Ab (by omega),ct,qY (by omega),Ab (by omega),ct,qY (by omega),ct,qY (by omega),ct,qY (by omega),i64 (by omega),
   Ag0 d e hs j i fuel (by omega) (by omega),Cp (by omega),Cp (by omega)]
  have b:=Kt (L0 d i)
  have c:=Kt (L0 e i)
  rw[List.length_take,Nat.min_eq_left (by omega)] at b c
  by_cases c1:x[i]<y[i]
  ·have:=vh b c c1
   rw[show decide (((x[i]:Nat):Int)<((y[i]:Nat):Int))=true by simp;exact c1,ct]
   unfold CW;rw[if_pos this]
  ·by_cases f:y[i]<x[i]
   ·have:=vh c b f
    rw[show decide (((x[i]:Nat):Int)<((y[i]:Nat):Int))=false by simp;omega,cf,show decide (((x[i]:Nat):Int)>((y[i]:Nat):Int))=true by simp;exact f,ct]
    unfold CW;rw[if_neg (by omega),if_pos this]
   ·have:x[i]=y[i]:=by omega
    rw[show decide (((x[i]:Nat):Int)<((y[i]:Nat):Int))=false by simp;omega,cf,show decide (((x[i]:Nat):Int)>((y[i]:Nat):Int))=false by simp;omega,cf,this]
    unfold CW
    congr 1
    by_cases a1:val (x.take i)<val (y.take i)
    ·rw[if_pos a1,if_pos (by omega)]
    ·by_cases a2:val (y.take i)<val (x.take i)
     ·rw[if_neg a1,if_pos a2,if_neg (by omega),if_pos (by omega)]
     ·rw[if_neg a1,if_neg a2,if_neg (by omega),if_neg (by omega)]
theorem Ay3 {N:Nat} {a b:List Nat} {n m:Nat} {t o t' o':Bool} {K:Int→O R} (hn:n=a.length) (j:m=b.length) (d:Av a) (e:Av b) (c:fit (a.length+b.length) N) :
  S6 N (As a) n t o (As b) m t' o' K=K (CW (val a) (val b)):=by
 subst hn j
 have k:=c.1;have l:=c.2
 rw[SX];unfold BY
 dsimp only
 rw[Ei rfl d (c.le (by omega)),Ei rfl e (c.le (by omega))]
 have la:=(Ds d).2
 have lb:=(Ds e).2
 by_cases f:(Ba (val a)).length=(Ba (val b)).length
 ·rw[show((((Ba (val a)).length:Nat):Int) != (((Ba (val b)).length:Nat):Int))=false by simp;omega,cf,i64 (by omega),Ag0 (Au _) (Au _) (by omega) f _ N (Nat.le_refl _) (by omega),List.take_length,f,List.take_length,Aw,Aw]
 ·rw[show((((Ba (val a)).length:Nat):Int) != (((Ba (val b)).length:Nat):Int))=true by simp;omega,ct]
  by_cases i:(Ba (val a)).length<(Ba (val b)).length
  ·have:=RW i
   rw[Hh i,ct]
   unfold CW;rw[if_pos this]
  ·have:=RW (show(Ba (val b)).length<(Ba (val a)).length by omega)
   rw[Iu (by omega),cf]
   unfold CW;rw[if_neg (by omega),if_pos this]
end
end Gx

namespace Gx
open Go Go.Proofs
section
variable {R:Type}
theorem A5e (a b:Nat):jP (a:Int) (b:Int)=((max a b:Nat):Int):=by
 unfold jP
 by_cases h:(b:Int)>(a:Int)
 ·rw[decide_eq_true h];show(b:Int)=_;omega
 ·rw[decide_eq_false h];show(a:Int)=_;omega
theorem Ag1 {N:Nat} {a b:List Nat} {t o t' o':Bool} {n:Nat} (q:Av a) (u:Av b) (v:a.length<n) (x:b.length<n) (hn:n≤max a.length b.length+1) (k:fit n N):∀ (m d fuel:Nat) (S:List Nat) (c:Nat),d+m=n→m<fuel→Av S→S.length=n→A2k S d→c≤1 →
  val S+4294967296 ^ d*c=val (a.take d)+val (b.take d) →
  ∀ K:Nat→LA→O R,Kb N K (As a) a.length t o (As b) b.length t' o' fuel n (c:Int) (d:Int) (As S)=K (Ba (val a+val b)).length (As (Ba (val a+val b)))
 | 0,d,fuel+1,S,c,I,_,hS,l,y,L,z=>by
  intro K
  have A:d=n:=by omega
  subst A
  rw[List.take_of_length_le (by omega),List.take_of_length_le (by omega)] at z
  have C:c=0:=by
   rcases Nat.eq_zero_or_pos c with h | h
   ·exact h
   ·exfalso
    have D:c=1:=by omega
    subst D
    obtain⟨e,rfl⟩:∃ e,d=e+1:=⟨d - 1,by omega⟩
    have x1:=Kt q
    have x2:=Kt u
    have y1:4294967296 ^ a.length≤4294967296 ^ e:=Nat.pow_le_pow_right (by omega) (by omega)
    have y2:4294967296 ^ b.length≤4294967296 ^ e:=Nat.pow_le_pow_right (by omega) (by omega)
    rw[Nat.pow_succ] at z
    omega
  subst C
  have F:val S=val a+val b:=by omega
  rw[Kb];unfold GZ
  rw[Iu (Nat.le_refl _),cf,Nat.mul_one,List.take_of_length_le (by rw[Cs];omega),Ei l.symm hS (by rw[l];exact k),F]
 | m+1,d,fuel+1,S,c,I,M,hS,l,y,L,z=>by
  intro K
  have T:=k.1;have U:=k.2
  have ga:=qZ q d
  have gb:=qZ u d
  have step:∀ s:Nat,s=c+a.getD d 0+b.getD d 0→val (S.set d (s%4294967296))+4294967296 ^ (d+1)*(s/4294967296)=val (a.take (d+1))+val (b.take (d+1)):=by
   intro s hs
   rw[eW y (by omega),OJ a d,OJ b d,Nat.pow_succ]
   have e:=cF (4294967296 ^ d) s
   have V:4294967296 ^ d*s=4294967296 ^ d*c+4294967296 ^ d*a.getD d 0+4294967296 ^ d*b.getD d 0:=by rw[hs,Nat.mul_add,Nat.mul_add]
   omega
  have next:∀ s:Nat,s=c+a.getD d 0+b.getD d 0→Kb N K (As a) a.length t o (As b) b.length t' o' fuel n ((s/4294967296:Nat):Int) ((d+1:Nat):Int) (As (S.set d (s%4294967296)))=K (Ba (val a+val b)).length (As (Ba (val a+val b))):=by
   intro s hs
   exact Ag1 q u v x hn k m (d+1) fuel (S.set d (s%4294967296)) (s/4294967296) (by omega) (by omega) (Nj hS (by omega) d) (by simpa using l) (eV y) (by omega) (step s hs) K
  have second:∀ w:Nat,w=c+a.getD d 0→EL N (Kb N K (As a) a.length t o (As b) b.length t' o' fuel) K (As a) a.length t o (As b) b.length t' o' n (As S) (w:Int) (d:Int)=K (Ba (val a+val b)).length (As (Ba (val a+val b))):=by
   intro w G
   unfold EL
   by_cases f:d<b.length
   ·have j:b.getD d 0=b[d]:=by rw[List.getD_eq_getElem?_getD,List.getElem?_eq_getElem f];rfl
    rw[Hh f,ct,Ab f,ct,Aeb f,Ab (by omega),ct,Awf (by omega),ct,XB (show b[d]<18446744073709551616 by omega),Aim,XB (show w+b[d]<18446744073709551616 by omega),As5,Anp,Aav,wS (by omega)]
    exact next _ (by rw[G,j])
   ·have j:b.getD d 0=0:=by rw[List.getD_eq_getElem?_getD,List.getElem?_eq_none (by omega)];rfl
    rw[Iu (by omega),cf,Ab (by omega),ct,Awf (by omega),ct,As5,Anp,Aav,wS (by omega)]
    exact next _ (by rw[G,j];rfl)
  rw[Kb];unfold GZ
  rw[Hh (by omega),ct]
  by_cases i:d<a.length
  ·have j:a.getD d 0=a[d]:=by rw[List.getD_eq_getElem?_getD,List.getElem?_eq_getElem i];rfl
   rw[Hh i,ct,Ab i,ct,Aeb i,XB (show a[d]<18446744073709551616 by omega),Aim,XB (show c+a[d]<18446744073709551616 by omega)]
   exact second _ (by rw[j])
  ·have j:a.getD d 0=0:=by rw[List.getD_eq_getElem?_getD,List.getElem?_eq_none (by omega)];rfl
   rw[Iu (by omega),cf]
   exact second _ (by rw[j];rfl)
theorem Ag2 {N:Nat} {a b:List Nat} {n m:Nat} {t o t' o':Bool} {K:Nat→LA→O R} (hn:n=a.length) (d:m=b.length) (e:Av a) (f:Av b) (c:fit (a.length+b.length+1) N) :
  G_ N (As a) n t o (As b) m t' o' K=K (Ba (val a+val b)).length (As (Ba (val a+val b))):=by
 subst hn d
 have i:=c.1;have j:=c.2
 rw[ri];unfold lO
 rw[A5e,wS (by omega),A4b (by omega),ct,Int.toNat_natCast,Ku]
 exact Ag1 e f (n:=max a.length b.length+1) (by omega) (by omega) (Nat.le_refl _) (c.le (by omega)) (max a.length b.length+1) 0 N (List.replicate (max a.length b.length+1) 0) 0 (by omega) (by omega) (Jb _) (by simp) (Ya _) (by omega) (by rw[J9];simp[val]) K
theorem Ag3 {N:Nat} {a b:List Nat} (D:Av a) (F:Av b) (t:fit a.length N) (q:b.length≤a.length) (u:val b≤val a):∀ (m d fuel:Nat) (S:List Nat) (c:Nat),d+m=a.length→m<fuel→Av S→S.length=a.length→A2k S d→c≤1 →
  val S+val (b.take d)=val (a.take d)+4294967296 ^ d*c →
  ∀ K:Nat→Bool→LA→O R,Kc N K a.length b.length (As a) (As b) fuel (c:Int) (d:Int) (As S)=K (Ba (val a - val b)).length true (As (Ba (val a - val b)))
 | 0,d,fuel+1,S,c,I,_,hS,s,v,L,G=>by
  intro K
  have x:d=a.length:=by omega
  subst x
  rw[List.take_length,List.take_of_length_le q] at G
  have k:=Kt hS
  rw[s] at k
  have z:c=0:=by
   rcases Nat.lt_or_ge 0 c with h | h
   ·exfalso
    have:c=1:=by omega
    subst this
    omega
   ·omega
  subst z
  have A:val S=val a - val b:=by omega
  rw[Kc];unfold HA
  rw[Iu (Nat.le_refl _),cf,Nat.mul_one,List.take_of_length_le (by rw[Cs];omega),Ei s.symm hS (by rw[s];exact t),A]
 | m+1,d,fuel+1,S,c,I,M,hS,s,v,L,G=>by
  intro K
  have U:=t.1;have V:=t.2
  have f:d<a.length:=by omega
  have ad:=Ja D f
  have gb:=qZ F d
  have step:∀ y g i:Nat,y=c+b.getD d 0→a[d]+4294967296*i=g+y→val (S.set d g)+val (b.take (d+1))=val (a.take (d+1))+4294967296 ^ (d+1)*i:=by
   intro y g i n l
   rw[eW v (by omega),Cp f,OJ b d,Nat.pow_succ,Nat.mul_assoc]
   have e:4294967296 ^ d*(a[d]+4294967296*i)=4294967296 ^ d*(g+(c+b.getD d 0)):=by rw[l,n]
   rw[Nat.mul_add,Nat.mul_add,Nat.mul_add] at e
   omega
  have next:∀ y g i:Nat,g<4294967296→i≤1→y=c+b.getD d 0→a[d]+4294967296*i=g+y→Kc N K a.length b.length (As a) (As b) fuel (i:Int) ((d+1:Nat):Int) (As (S.set d g))=K (Ba (val a - val b)).length true (As (Ba (val a - val b))):=by
   intro y g i l C n T
   exact Ag3 D F t q u m (d+1) fuel (S.set d g) i (by omega) (by omega) (Nj hS l d) (by simpa using s) (eV v) C (step y g i n T) K
  have second:∀ y:Nat,y=c+b.getD d 0→EM N (Kc N K a.length b.length (As a) (As b) fuel) K a.length b.length (As a) (As b) (As S) (d:Int) (y:Int)=K (Ba (val a - val b)).length true (As (Ba (val a - val b))):=by
   intro y n
   unfold EM
   rw[Ab f,ct,qY f,XB (show a[d]<18446744073709551616 by omega)]
   by_cases k:a[d]<y
   ·rw[Hh k,ct,ct,Awf (by omega),ct,show((a[d]:Nat):Int)+4294967296=((a[d]+4294967296:Nat):Int) by omega,XB (show a[d]+4294967296<18446744073709551616 by omega),Ain (by omega) (by omega),A3p (by omega),Aav,wS (by omega)]
    exact next y (a[d]+4294967296 - y) 1 (by omega) (by omega) n (by omega)
   ·rw[Iu (by omega),cf,ct,Awf (by omega),ct,Ain (by omega) (by omega),A3p (by omega),Aav,wS (by omega)]
    exact next y (a[d] - y) 0 (by omega) (by omega) n (by omega)
  rw[Kc];unfold HA
  rw[Hh f,ct]
  by_cases j:d<b.length
  ·have l:b.getD d 0=b[d]:=by rw[List.getD_eq_getElem?_getD,List.getElem?_eq_getElem j];rfl
   rw[Hh j,ct,Ab j,ct,qY j,XB (show b[d]<18446744073709551616 by omega),Aim,XB (show c+b[d]<18446744073709551616 by omega)]
   exact second _ (by rw[l])
  ·have l:b.getD d 0=0:=by rw[List.getD_eq_getElem?_getD,List.getElem?_eq_none (by omega)];rfl
   rw[Iu (by omega),cf]
   exact second _ (by rw[l];rfl)
theorem Ay4 {N:Nat} {a b:List Nat} {n m:Nat} {t o t' o':Bool} {K:Nat→Bool→LA→O R} (hn:n=a.length) (j:m=b.length) (e:Av a) (f:Av b) (d:fit (a.length+b.length) N) :
  HB N (As a) n t o (As b) m t' o' K=if val b≤val a then K (Ba (val a - val b)).length true (As (Ba (val a - val b))) else K 0 false []:=by
 subst hn j
 have k:=d.1;have l:=d.2
 have la:=(Ds e).2
 have lb:=(Ds f).2
 rw[rn];unfold lR
 dsimp only
 rw[Ay3 rfl rfl e f d]
 by_cases c:val b≤val a
 ·have i:=F6 c
  rw[if_pos c,show decide (CW (val a) (val b)<0)=false by (unfold CW;rw[if_neg (by omega)];split<;>rfl),cf,Ei rfl e (d.le (by omega)),Ei rfl f (d.le (by omega)),A4b (by omega),ct,Ku]
  have:=Ag3 (R:=R) (N:=N) (a:=Ba (val a)) (b:=Ba (val b)) (Au _) (Au _) (d.le (by omega)) i (by rw[Aw,Aw];exact c) (Ba (val a)).length 0 N (List.replicate (Ba (val a)).length 0) 0 (by omega) (by omega) (Jb _) (by simp) (Ya _) (by omega) (by rw[J9];simp[val]) K
  rw[Aw,Aw] at this
  exact this
 ·rw[if_neg c,show decide (CW (val a) (val b)<0)=true by (unfold CW;rw[if_pos (by omega)];rfl),ct]
end
end Gx

namespace Gx
open Go Go.Proofs
section
variable {R:Type}
theorem Aa0 {N:Nat}:∀ (k fuel n v:Nat),v<2 ^ k→k<fuel→n+k≤1000000000000→∃ b:Nat,b≤k∧v<2 ^ b∧(v≠0→2 ^ b≤2*v)∧(v=0→b=0)∧∀ K:Int→O R,Lr N K fuel (n:Int) (v:Int)=K ((n+b:Nat):Int)
 | 0,fuel+1,n,v,c,_,_=>by
  have h0:v=0:=by simpa using c
  subst h0
  refine⟨0,by omega,by simp,fun h=>absurd rfl h,fun _=>rfl,fun K=>?_⟩
  rw[Lr];unfold T3
  rw[show decide (((0:Nat):Int)>0)=false by rfl,cf];rfl
 | k+1,fuel+1,n,v,c,j,hn=>by
  by_cases h0:v=0
  ·subst h0
   refine⟨0,by omega,by simp,fun h=>absurd rfl h,fun _=>rfl,fun K=>?_⟩
   rw[Lr];unfold T3
   rw[show decide (((0:Nat):Int)>0)=false by rfl,cf];rfl
  ·obtain⟨b,l,m,e,f,i⟩:=Aa0 (N:=N) k fuel (n+1) (v/2) (by rw[Nat.pow_succ] at c;omega) (by omega) (by omega)
   refine⟨b+1,by omega,by rw[Nat.pow_succ];omega,fun _=>?_,fun h=>absurd h h0,fun K=>?_⟩
   ·by_cases d:v/2=0
    ·rw[f d];simp;omega
    ·have:=e d;rw[Nat.pow_succ];omega
   ·rw[Lr];unfold T3
    rw[show decide (((v:Nat):Int)>0)=true by rw[decide_eq_true_eq];omega,ct,wS (by omega),kW v 1,show v/2 ^ 1=v/2 by rfl,i]
    congr 2;omega
theorem Ava {N:Nat} {a:List Nat} {n:Nat} {t o:Bool} (hn:n=a.length) (e:Av a) (d:fit a.length N):∃ nb:Nat,nb≤32*a.length∧val a<2 ^ nb∧(val a≠0→2 ^ nb≤2*val a)∧(val a=0→nb=0)∧∀ K:Int→O R,L_ N (As a) n t o K=K (nb:Int):=by
 have v:=d.1;have x:=d.2
 have la:=(Ds e).2
 by_cases h0:val a=0
 ·refine⟨0,by omega,by rw[h0];simp,fun h=>absurd h0 h,fun _=>rfl,fun K=>?_⟩
  rw[QB];unfold LZ
  rw[Ei hn e d,h0,G2];rfl
 ·have j:(Ba (val a)).length≠0:=fun h=>h0 (Eb.1 h)
  obtain⟨k,f⟩:∃ k,(Ba (val a)).length=k+1:=⟨(Ba (val a)).length - 1,by omega⟩
  have top:=Ja (Au (val a)) (show k<(Ba (val a)).length by omega)
  have c:(Ba (val a))[k]'(by omega)≠0:=by
   have:=A0z (val a) (j1 h0)
   rw[List.getLast_eq_getElem] at this
   simp only[f,Nat.add_sub_cancel] at this
   exact this
  have tf:=Agz f
  have tl:=Au9 (Au (val a)) f
  rw[Aw] at tf tl
  obtain⟨b,y,l,m,z,q⟩:=Aa0 (R:=R) (N:=N) 32 N (32*k) ((Ba (val a))[k]'(by omega)) (by exact top) (by omega) (by omega)
  have i:(2:Nat) ^ (32*k+b)=4294967296 ^ k*2 ^ b:=by rw[Nat.pow_add,Nat.pow_mul]
  refine⟨32*k+b,by omega,?_,fun _=>?_,fun h=>absurd h h0,fun K=>?_⟩
  ·rw[i]
   have:((Ba (val a))[k]'(by omega)+1)*4294967296 ^ k≤2 ^ b*4294967296 ^ k:=Nat.mul_le_mul_right _ l
   rw[Nat.mul_comm (2 ^ b)] at this;omega
  ·rw[i]
   have:=Nat.mul_le_mul_left (4294967296 ^ k) (m c)
   rw[Nat.mul_left_comm] at this
   omega
  ·rw[QB];unfold LZ
   have s:IntKind.wrap .i64 ((((Ba (val a)).length:Nat):Int) - 1)=((k:Nat):Int):=by rw[i64 (by omega)];omega
   have u:IntKind.wrap .i64 ((32:Int)*((k:Nat):Int))=((32*k:Nat):Int):=by rw[i64 (by omega)];omega
   rw[Ei hn e d,A3q j,cf,s,Ab (by omega),ct,qY (by omega),u]
   exact q K
theorem Aqv {a:List Nat} {j:Nat} (h:j<a.length):val a=val (a.take j)+4294967296 ^ j*(a[j]+4294967296*val (a.drop (j+1))):=by
 have:=j0 (a.take j) (a.drop j)
 rw[List.take_append_drop,List.length_take,Nat.min_eq_left (by omega),A1u h] at this
 exact this
theorem q_ (j k:Nat):(2:Nat) ^ (32*j+k)=4294967296 ^ j*2 ^ k:=by rw[Nat.pow_add,Nat.pow_mul]
theorem A21 {a:List Nat} {j k:Nat} (b:Av a) (h:j<a.length) (f:k<32):val a/2 ^ (32*j+k)%2=a[j]/2 ^ k%2:=by
 have tl:=Kt (L0 b j)
 rw[List.length_take,Nat.min_eq_left (by omega)] at tl
 have hP:0<4294967296 ^ j:=Nat.pow_pos (by omega)
 have c:0<2 ^ k:=Nat.pow_pos (by omega)
 rw[q_,←Nat.div_div_eq_div_mul,Aqv h,Nat.add_mul_div_left _ _ hP,Nat.div_eq_of_lt tl,Nat.zero_add]
 have e:4294967296=2 ^ k*(2*2 ^ (31 - k)):=by rw[←Nat.pow_succ',←Nat.pow_add,show k+(31 - k+1)=32 by omega]
 have d:4294967296*val (a.drop (j+1))=2 ^ k*(2*(2 ^ (31 - k)*val (a.drop (j+1)))):=by
  rw[←Nat.mul_assoc 2,←Nat.mul_assoc,←e]
 rw[d,Nat.add_mul_div_left _ _ c,Nat.add_mul_mod_self_left]
theorem Ay5 {N:Nat} {a:List Nat} {n:Nat} {t o:Bool} {i:Nat} {K:Int→O R} (hn:n=a.length) (f:Av a) (hi:i<32*a.length) (hs:a.length≤1000000000):lP N (As a) n t o (i:Int) K=K ((val a/2 ^ i%2:Nat):Int):=by
 subst hn
 have c:i/32<a.length:=by omega
 have aj:=Ja f c
 rw[rk];unfold x9
 have j:IntKind.wrap .i64 (Int.tdiv ((i:Nat):Int) 32)=((i/32:Nat):Int):=by rw[show(32:Int)=((32:Nat):Int) by rfl,A1s,i64 (by omega)]
 have l:IntKind.wrap .u64 (Int.tmod ((i:Nat):Int) 32)=((i%32:Nat):Int):=by rw[show(32:Int)=((32:Nat):Int) by rfl,A1t,XB (by omega)]
 rw[j,l,show decide (((i/32:Nat):Int)≥((a.length:Nat):Int))=false by rw[decide_eq_false_iff_not];omega,cf,Ab c,ct,Aeb c,show decide (((i%32:Nat):Int)<0)=false by rw[decide_eq_false_iff_not];omega,cf,Int.toNat_natCast,Nat.min_eq_left (by omega),kW]
 have d:a[i/32]/2 ^ (i%32)<4294967296:=Nat.lt_of_le_of_lt (Nat.div_le_self _ _) aj
 have e:=As1 (k:=.u32) rfl (a:=a[i/32]/2 ^ (i%32)) (b:=1) d (by decide)
 rw[show(1:Int)=((1:Nat):Int) by rfl,e,Nat.and_one_is_mod]
 have:=A21 f c (k:=i%32) (by omega)
 rw[Nat.div_add_mod] at this
 rw[this]
theorem A1y {Q:List Nat} {j k:Nat} (hQ:Av Q) (h:j<Q.length) (c:k<32) (b:2 ^ (32*j+k+1)∣val Q):2 ^ (k+1)∣Q[j]:=by
 have tl:=Kt (L0 hQ j)
 rw[List.length_take,Nat.min_eq_left (by omega)] at tl
 have hP:0<4294967296 ^ j:=Nat.pow_pos (by omega)
 rw[Nat.add_assoc,q_,Aqv h] at b
 have h0:val (Q.take j)=0:=by
  have x1:4294967296 ^ j∣val (Q.take j):=(Nat.dvd_add_left (Nat.dvd_mul_right _ _)).1 (Nat.dvd_trans (Nat.dvd_mul_right _ _) b)
  exact Nat.eq_zero_of_dvd_of_lt x1 tl
 rw[h0,Nat.zero_add] at b
 have x2:=Nat.dvd_of_mul_dvd_mul_left hP b
 have x3:2 ^ (k+1)∣4294967296*val (Q.drop (j+1)):=Nat.dvd_trans ⟨2 ^ (31 - k),by rw[←Nat.pow_add,show k+1+(31 - k)=32 by omega]⟩ (Nat.dvd_mul_right _ _)
 exact(Nat.dvd_add_left x3).1 x2
theorem qa {N:Nat} {a b:List Nat} {t o:Bool} {B:Nat} (L:Av a) (l:b=Ba B) (hB:0<B) (j:fit (a.length+2*b.length+4) N):∀ (i fuel:Nat) (Q:List Nat) (r:Nat),i<fuel→i≤32*a.length→Av Q→Q.length=a.length→r=val a/2 ^ i%B→val Q=val a/2 ^ i/B*2 ^ i →
  ∀ K:Nat→Nat→Bool→LA→LA→O R,F8 N K (As a) a.length t o b.length (As b) fuel (Ba r).length ((i:Int) - 1) (As Q) (As (Ba r))=K (Ba (val a/B)).length (Ba (val a%B)).length true (As (Ba (val a/B))) (As (Ba (val a%B)))
 | 0,fuel+1,Q,r,_,_,hQ,z,hr,q=>by
  intro K
  rw[Nat.pow_zero,Nat.div_one] at hr q
  rw[Nat.mul_one] at q
  have lr:(Ba r).length≤b.length:=by
   rw[l];apply F6;rw[hr];exact Nat.le_of_lt (Nat.mod_lt _ hB)
  rw[F8];unfold T4
  rw[show decide ((((0:Nat):Int) - 1)≥0)=false by rfl,cf,Nat.mul_one,List.take_of_length_le (by rw[Cs];omega),Ei z.symm hQ (by rw[z];exact j.le (by omega)),Nat.mul_one,List.take_of_length_le (by rw[Cs];omega),Ei rfl (Au _) (j.le (by omega)),Aw,q,hr]
 | i+1,fuel+1,Q,r,Y,hi,hQ,z,hr,q=>by
  intro K
  have h1:=j.1;have h2:=j.2
  have hrB:r<B:=by rw[hr];exact Nat.mod_lt _ hB
  have lr:(Ba r).length≤b.length:=by rw[l];exact F6 (Nat.le_of_lt hrB)
  have f:val a/2 ^ i=2*(val a/2 ^ (i+1))+val a/2 ^ i%2:=by
   have:=Nat.div_add_mod (val a/2 ^ i) 2
   rw[Nat.div_div_eq_div_mul,←Nat.pow_succ] at this
   exact this.symm
  have M:=Nat.div_add_mod (val a/2 ^ (i+1)) B
  have hb2:val a/2 ^ i%2<2:=Nat.mod_lt _ (by omega)
  generalize hH:val a/2 ^ (i+1)=H at *
  generalize A:val a/2 ^ i%2=bt at *
  have d:val a/2 ^ i=B*(2*(H/B))+(2*r+bt):=by
   rw[f,hr,Nat.mul_left_comm];omega
  clear hr M f
  have C:i/32<Q.length:=by omega
  have qj:=Ja hQ C
  have D:2 ^ (32*(i/32)+i%32+1)∣val Q:=by rw[Nat.div_add_mod,q];exact Nat.dvd_mul_left _ _
  have s:=A1y hQ C (Nat.mod_lt _ (by omega)) D
  have S:2 ^ i=4294967296 ^ (i/32)*2 ^ (i%32):=by rw[←q_,Nat.div_add_mod]
  have F:2 ^ (i%32+1)≤4294967296:=(Nat.pow_le_pow_right (by omega) (show i%32+1≤32 by omega):2 ^ (i%32+1)≤2 ^ 32)
  have G:rL .u32 ((Q[i/32]:Nat):Int) (IntKind.wrap .u32 ((1:Int)*2 ^ (min (Int.toNat ((i%32:Nat):Int)) 32)))=((Q[i/32]+2 ^ (i%32):Nat):Int)∧Q[i/32]+2 ^ (i%32)<4294967296:=by
   obtain⟨c,T⟩:=s
   have V:0<2 ^ (i%32):=Nat.pow_pos (by omega)
   have U:Q[i/32]+2 ^ (i%32)<4294967296:=by
    obtain⟨w,X⟩:∃ w,4294967296=2 ^ (i%32+1)*w:=⟨2 ^ (31 - i%32),by rw[←Nat.pow_add,show i%32+1+(31 - i%32)=32 by omega]⟩
    have x1:c<w:=by rw[T,X] at qj;exact Nat.lt_of_mul_lt_mul_left qj
    have x2:=Nat.mul_le_mul_left (2 ^ (i%32+1)) (show c+1≤w from x1)
    rw[Nat.mul_add,←X,←T,Nat.mul_one,Nat.pow_succ] at x2
    omega
   refine⟨?_,U⟩
   rw[Int.toNat_natCast,Nat.min_eq_left (by omega),Int.one_mul,show(2:Int) ^ (i%32)=((2 ^ (i%32):Nat):Int) by simp,A3p (by rw[Nat.pow_succ] at F;omega),Afb (k:=.u32) rfl qj (by show 2 ^ (i%32)<4294967296;rw[Nat.pow_succ] at F;omega)]
   congr 1
   have e:Q[i/32]=c*2 ^ (i%32+1):=by rw[T,Nat.mul_comm]
   rw[e];exact As6 (by rw[Nat.pow_succ];omega)
  have w1:IntKind.wrap .i64 (Int.tdiv ((i:Nat):Int) 32)=((i/32:Nat):Int):=by rw[show(32:Int)=((32:Nat):Int) by rfl,A1s,i64 (by omega)]
  have w2:IntKind.wrap .u64 (Int.tmod ((i:Nat):Int) 32)=((i%32:Nat):Int):=by rw[show(32:Int)=((32:Nat):Int) by rfl,A1t,XB (by omega)]
  have l2:(Ba (2*r+bt)).length≤b.length+1:=by
   apply JU
   have x1:=Kt (Au B)
   rw[Aw,←l] at x1
   rw[Nat.pow_succ];omega
  have second:Nn N (F8 N K (As a) a.length t o b.length (As b) fuel) K (As a) a.length t o b.length ((i:Nat):Int) (As b) (As Q) (Ba (2*r+bt)).length (As (Ba (2*r+bt)))=K (Ba (val a/B)).length (Ba (val a%B)).length true (As (Ba (val a/B))) (As (Ba (val a%B))):=by
   unfold Nn
   have lb:Av b:=by rw[l];exact Au _
   have vb:val b=B:=by rw[l,Aw]
   rw[Nat.mul_one,Nat.mul_one,List.take_of_length_le (by rw[Cs];omega),List.take_of_length_le (by rw[Cs];omega),Ay4 rfl rfl (Au _) lb (j.le (by omega)),Aw,vb]
   by_cases I:B≤2*r+bt
   ·have u:val a/2 ^ i/B=2*(H/B)+1:=by
     rw[d,show B*(2*(H/B))+(2*r+bt)=B*(2*(H/B)+1)+(2*r+bt - B) by rw[Nat.mul_add];omega,Nat.mul_add_div hB,Nat.div_eq_of_lt (show 2*r+bt - B<B by omega),Nat.add_zero]
    have y:val a/2 ^ i%B=2*r+bt - B:=by
     rw[d,show B*(2*(H/B))+(2*r+bt)=B*(2*(H/B)+1)+(2*r+bt - B) by rw[Nat.mul_add];omega,Nat.mul_add_mod,Nat.mod_eq_of_lt (by omega)]
    rw[if_pos I,ct,w1,w2,Ab (by omega),ct,qY C,show decide (((i%32:Nat):Int)<0)=false by rw[decide_eq_false_iff_not];omega,cf,ct,Awf C,ct,G.1,Aav,i64 (by omega)]
    refine qa L l hB j i fuel (Q.set (i/32) (Q[i/32]+2 ^ (i%32))) (2*r+bt - B) (by omega) (by omega) (Nj hQ G.2 _) (by simpa using z) y.symm ?_ K
    have x1:=vj (v:=Q[i/32]+2 ^ (i%32)) C
    rw[Nat.mul_add,←S] at x1
    rw[u,Nat.add_mul,Nat.one_mul,Nat.mul_comm 2,Nat.mul_assoc,Nat.mul_comm 2,←Nat.pow_succ,←q]
    omega
   ·have u:val a/2 ^ i/B=2*(H/B):=by rw[d,Nat.mul_add_div hB,Nat.div_eq_of_lt (show 2*r+bt<B by omega),Nat.add_zero]
    have y:val a/2 ^ i%B=2*r+bt:=by rw[d,Nat.mul_add_mod,Nat.mod_eq_of_lt (by omega)]
    rw[if_neg I,cf,i64 (by omega)]
    refine qa L l hB j i fuel Q (2*r+bt) (by omega) (by omega) hQ z y.symm ?_ K
    rw[u,Nat.mul_comm 2,Nat.mul_assoc,Nat.mul_comm 2,←Nat.pow_succ,←q]
  rw[F8];unfold T4
  rw[show(((i+1:Nat):Int) - 1)=((i:Nat):Int) by omega,show decide (((i:Nat):Int)≥0)=true by rw[decide_eq_true_eq];omega,ct,Nat.mul_one,List.take_of_length_le (by rw[Cs];omega),Ag2 rfl rfl (Au _) (Au _) (j.le (by omega)),Aw,Ay5 rfl L (by omega) (by omega),A]
  have l3:(Ba (r+r)).length≤b.length+1:=by
   apply JU
   have x1:=Kt (Au B)
   rw[Aw,←l] at x1
   rw[Nat.pow_succ];omega
  rcases(show bt=0∨bt=1 by omega) with rfl | rfl
  ·rw[show(((0:Nat):Int)==1)=false by rfl,cf]
   rw[show 2*r+0=r+r by omega] at second
   exact second
  ·rw[show(((1:Nat):Int)==1)=true by rfl,ct,Nat.mul_one,List.take_of_length_le (by rw[Cs];omega)]
   have:=Ag2 (R:=R) (N:=N) (a:=Ba (r+r)) (b:=[1]) (n:=(Ba (r+r)).length) (m:=1) (t:=false) (o:=true) (t':=false) (o':=true) (K:=fun af ag=>Nn N (F8 N K (As a) a.length t o b.length (As b) fuel) K (As a) a.length t o b.length ((i:Nat):Int) (As b) (As Q) af ag) rfl rfl (Au _) (by intro x hx;simp at hx;omega) (j.le (by simp;omega))
   rw[Aw,show val [1]=1 by rfl,show r+r+1=2*r+1 by omega] at this
   exact this.trans second
end
end Gx

namespace Gx
open Go Go.Proofs
section
variable {R:Type}
theorem RY {N:Nat} {a b:List Nat} {n m:Nat} {t o t' o':Bool} {K:Nat→Nat→Bool→LA→LA→O R} (hn:n=a.length) (u:m=b.length) (j:Av a) (q:Av b) (f:val b≠0) (e:fit (a.length+2*b.length+4) N) :
  Sh N (As a) n t o (As b) m t' o' K=K (Ba (val a/val b)).length (Ba (val a%val b)).length true (As (Ba (val a/val b))) (As (Ba (val a%val b))):=by
 have v:=e.1;have x:=e.2
 have lb:=(Ds q).2
 have k:(Ba (val b)).length≠0:=fun h=>f (Eb.1 h)
 rw[YS];unfold HC
 dsimp only
 have long:Q3 N K (As a) n t o (Ba (val b)).length (As (Ba (val b)))=K (Ba (val a/val b)).length (Ba (val a%val b)).length true (As (Ba (val a/val b))) (As (Ba (val a%val b))):=by
  obtain⟨nb,n1,n2,n3,n4,n5⟩:=Ava (R:=R) (N:=N) (a:=a) (n:=n) (t:=false) (o:=o) hn j (e.le (by omega))
  unfold Q3 EN
  dsimp only
  rw[n5,hn,A4b (by omega),ct,Ku,i64 (by omega)]
  have s:val a/2 ^ nb=0:=Nat.div_eq_of_lt n2
  have:=qa (R:=R) (N:=N) (a:=a) (b:=Ba (val b)) (t:=t) (o:=o) (B:=val b) j rfl (by omega) (e.le (by omega)) nb N (List.replicate a.length 0) 0 (by omega) n1 (Jb _) (by simp) (by rw[s];simp) (by rw[s,J9];simp) K
  exact this
 rw[Ei u q (e.le (by omega)),A3q k,cf,RX hn j (e.le (by omega)),Nat.mul_one,List.take_of_length_le (by rw[Cs];exact Nat.le_refl _)]
 by_cases d:val a<18446744073709551616
 ·rw[if_pos d,RX rfl (Au _) (e.le (by omega)),Aw]
  by_cases c:val b<18446744073709551616
  ·have i:val a/val b<18446744073709551616:=Nat.lt_of_le_of_lt (Nat.div_le_self _ _) d
   have l:val a%val b<18446744073709551616:=Nat.lt_of_le_of_lt (Nat.mod_le _ _) d
   rw[if_pos c,show((true:Bool)==true)=true by rfl,ct,A39,ct,A3q f,cf,A1s,XB i,JJ i (by omega),cf,A1t,JJ l (by omega)]
  ·rw[if_neg c,show((true:Bool)==true)=true by rfl,ct,A39,cf,long]
 ·rw[if_neg d,RX rfl (Au _) (e.le (by omega)),Aw]
  by_cases c:val b<18446744073709551616
  ·rw[if_pos c,show((false:Bool)==true)=false by rfl,cf,long]
  ·rw[if_neg c,show((false:Bool)==true)=false by rfl,cf,long]
theorem Ay6 {N:Nat}:∀ (k fuel A B:Nat),k<fuel→A*B<2 ^ k→B<A→fit (3*(Ba A).length+4) N→∀ K:Nat→LA→O R,E1 N K fuel (Ba A).length (Ba B).length (As (Ba A)) (As (Ba B))=K (Ba (Nat.gcd A B)).length (As (Ba (Nat.gcd A B))):=by
 have base:∀ (fuel A:Nat) (K:Nat→LA→O R),E1 N K (fuel+1) (Ba A).length (Ba 0).length (As (Ba A)) (As (Ba 0))=K (Ba (Nat.gcd A 0)).length (As (Ba (Nat.gcd A 0))):=by
  intro fuel A K
  rw[E1];unfold S7
  rw[G2,show decide ((((([]:List Nat).length:Nat)):Int)>0)=false by decide,cf,Nat.gcd_zero_right]
 intro k
 induction k with
 | zero =>
  intro fuel A B e b c d K
  obtain⟨fuel,rfl⟩:∃ F,fuel=F+1:=⟨fuel - 1,by omega⟩
  have f:B=0:=by
   rcases Nat.eq_zero_or_pos B with h | h
   ·exact h
   ·have q:=Nat.mul_le_mul_left A (show 1≤B by omega)
    rw[Nat.pow_zero] at b;omega
  subst f
  exact base fuel A K
 | succ k i =>
  intro fuel A B e b c d K
  have s:=d.1;have t:=d.2
  obtain⟨fuel,rfl⟩:∃ F,fuel=F+1:=⟨fuel - 1,by omega⟩
  rcases Nat.eq_zero_or_pos B with h | h
  ·subst h;exact base fuel A K
  have j:=F6 (Nat.le_of_lt c)
  have l:(Ba B).length≠0:=fun h0=>by have:=Eb.1 h0;omega
  have m:=Nat.mod_lt A h
  have u:=A1v (show 1≤B by omega) (Nat.le_of_lt c)
  have:=i fuel B (A%B) (by omega) (by rw[Nat.pow_succ] at b;omega) m (d.le (by omega)) K
  have n:Nat.gcd B (A%B)=Nat.gcd A B:=by rw[Nat.gcd_comm,←Nat.gcd_rec,Nat.gcd_comm]
  rw[n] at this
  rw[E1];unfold S7
  rw[show decide ((((Ba B).length:Nat):Int)>0)=true by rw[decide_eq_true_eq];omega,ct,Nat.mul_one,Nat.mul_one,List.take_of_length_le (by rw[Cs];exact Nat.le_refl _),List.take_of_length_le (by rw[Cs];exact Nat.le_refl _),RY rfl rfl (Au _) (Au _) (by rw[Aw];omega) (d.le (by omega)),Aw,Aw]
  exact this
theorem Ay7 {N:Nat} {a b:List Nat} {n m:Nat} {t o t' o':Bool} {K:Nat→LA→O R} (hn:n=a.length) (l:m=b.length) (f:Av a) (i:Av b) (d:fit (3*(a.length+b.length)+4) N) :
  d5 N (As a) n t o (As b) m t' o' K=K (Ba (Nat.gcd (val a) (val b))).length (As (Ba (Nat.gcd (val a) (val b)))):=by
 have u:=d.1;have v:=d.2
 have la:=(Ds f).2
 have lb:=(Ds i).2
 have j:val a*val b<2 ^ (32*(a.length+b.length)):=by rw[←A1w];exact Nat.mul_lt_mul'' (Kt f) (Kt i)
 rw[rp];unfold lT
 dsimp only
 rw[Ei hn f (d.le (by omega)),Ei l i (d.le (by omega))]
 obtain⟨F,hF⟩:∃ F,N=F+1:=⟨N - 1,by omega⟩
 rcases Nat.eq_zero_or_pos (val b) with h | h
 ·rw[h,G2,Nat.gcd_zero_right,hF,E1];unfold S7
  rw[show decide ((((([]:List Nat).length:Nat)):Int)>0)=false by decide,cf]
 ·have k:=Nat.mod_lt (val a) h
  have q:(Ba (val b)).length≠0:=fun h0=>by have:=Eb.1 h0;omega
  have c:val b*(val a%val b)<2 ^ (32*(a.length+b.length)):=by
   have:val b*(val a%val b)≤val b*val a:=Nat.mul_le_mul_left _ (Nat.mod_le _ _)
   rw[Nat.mul_comm (val b) (val a)] at this;omega
  have:=Ay6 (R:=R) (N:=N) (32*(a.length+b.length)) F (val b) (val a%val b) (by omega) c k (d.le (by omega)) K
  have s:Nat.gcd (val b) (val a%val b)=Nat.gcd (val a) (val b):=by rw[Nat.gcd_comm,←Nat.gcd_rec,Nat.gcd_comm]
  rw[s] at this
  have e:E1 N K (F+1) (Ba (val a)).length (Ba (val b)).length (As (Ba (val a))) (As (Ba (val b)))=E1 N K F (Ba (val b)).length (Ba (val a%val b)).length (As (Ba (val b))) (As (Ba (val a%val b))):=by
   rw[E1];unfold S7
   rw[show decide ((((Ba (val b)).length:Nat):Int)>0)=true by rw[decide_eq_true_eq];omega,ct,Nat.mul_one,Nat.mul_one,List.take_of_length_le (by rw[Cs];exact Nat.le_refl _),List.take_of_length_le (by rw[Cs];exact Nat.le_refl _),RY rfl rfl (Au _) (Au _) (by rw[Aw];omega) (d.le (by omega)),Aw,Aw]
  conv=>lhs;rw[show(E1 N K N)=E1 N K (F+1) by rw[←hF]]
  rw[e];exact this
end
end Gx

namespace Gx
open Go Go.Proofs
section
variable {R:Type}
inductive LS where
 | nil
 | of (l:List Nat) (t o:Bool)
def LS.l:LS→List Nat
 | .nil=>[]
 | .of l _ _=>l
def LS.av:LS→AV
 | .nil=>.nsl
 | .of l t o=>.imm (As l) l.length 1 t o
theorem A4d {s:LS} {r:LA} {f:LA→Nat→O R}:Bw 1 (s.av::r) f=f (As s.l) s.l.length:=by
 cases s<;>simp[Bw,LS.av,LS.l,Az0,As]
theorem A5f {b:Bool} {r:LA} {f:Bool→O R}:XY (.bool b::r) f=f b:=by simp[XY,asBool]
def Tt (neg:Bool) (s:LS):LA:=[.bool neg,s.av]
def Ct (neg:Bool) (s:LS):Int:=if neg then -(val s.l:Int) else (val s.l:Int)
theorem Tn (neg:Bool) (s:LS):(Ct neg s).natAbs=val s.l:=by unfold Ct;cases neg<;>simp
theorem CX {neg:Bool} {s:LS} {f:Bool→O R}:XY (Tt neg s) f=f neg:=A5f
theorem OK {neg:Bool} {s:LS} {f:LA→Nat→O R}:Bw 1 (List.drop 1 (Tt neg s)) f=f (As s.l) s.l.length:=by rw[Tt,List.drop_succ_cons,List.drop_zero,A4d]
theorem Ps {N:Nat} {c:Bool} {a:Nat} {b:LA} {K:Bool→O R}:Kv N c a b K=K (c&&decide (0<a)):=by
 rw[f8];unfold j3
 cases c<;>simp
theorem DO {z:Int} {c:Bool} {m:Nat} (h:z=if c then -(m:Int) else (m:Int)):(c&&decide (0<(Ba m).length))=decide (z<0)∧z.natAbs=m:=by
 have d:z.natAbs=m:=by rw[h];cases c<;>simp
 refine⟨?_,d⟩
 by_cases h0:m=0
 ·subst h0;rw[h,G2];cases c<;>simp
 ·have:0<(Ba m).length:=by
   rcases Nat.eq_zero_or_pos (Ba m).length with b | b
   ·exact absurd (Eb.1 b) h0
   ·exact b
  rw[h];cases c<;>simp[this]<;>omega
theorem Yb {N:Nat} {v:Int} (f:-9223372036854775808≤v∧v≤9223372036854775807) (hN:4≤N):∃ S,Av S∧val S=v.natAbs∧∀ K:Bool→Nat→LA→O R,L1 N v K=K (decide (v<0)) (Ba v.natAbs).length (As S):=by
 have d:v.natAbs<18446744073709551616:=by omega
 obtain⟨S,s1,s2,c⟩:=Au8 (R:=R) (N:=N) d hN
 refine⟨S,s1,s2,fun K=>?_⟩
 rw[YB];unfold YA
 by_cases h:v<0
 ·have e:IntKind.wrap .u64 ((0:Int) - IntKind.wrap .u64 v)=(v.natAbs:Int):=by rw[um,um];omega
  rw[decide_eq_true h,ct,e,c,Ps]
  have h0:v.natAbs≠0:=by omega
  have:0<(Ba v.natAbs).length:=by
   rcases Nat.eq_zero_or_pos (Ba v.natAbs).length with b | b
   ·exact absurd (Eb.1 b) h0
   ·exact b
  simp[this]
 ·have e:IntKind.wrap .u64 v=(v.natAbs:Int):=by rw[um];omega
  rw[decide_eq_false h,cf,e,c,Ps];rfl
theorem Ay8 {N:Nat} {n1 n2:Bool} {s1 s2:LS} {o1 o2:Bool} (d:Av s1.l) (e:Av s2.l) (f:fit (s1.l.length+s2.l.length) N):∃ S,Av S∧val S=(Ct n1 s1*Ct n2 s2).natAbs∧∀ K:Bool→Nat→LA→O R,PY N (Tt n1 s1) o1 (Tt n2 s2) o2 K=K (decide (Ct n1 s1*Ct n2 s2<0)) (Ba (Ct n1 s1*Ct n2 s2).natAbs).length (As S):=by
 obtain⟨S,a1,a2,a3⟩:=A1r (R:=R) (N:=N) (a:=s1.l) (b:=s2.l) (t:=false) (o:=o1) (t':=false) (o':=o2) rfl rfl d e f
 have i:Ct n1 s1*Ct n2 s2=if (!(n1==n2)) then -((val s1.l*val s2.l:Nat):Int) else ((val s1.l*val s2.l:Nat):Int):=by
  unfold Ct;cases n1<;>cases n2<;>simp[Int.mul_neg,Int.neg_mul]
 obtain⟨c1,c⟩:=DO i
 refine⟨S,a1,by rw[a2,c],fun K=>?_⟩
 rw[xC];unfold Ait
 rw[CX,CX,OK,OK,a3,Ps,c1,c]
theorem Ay9 {N:Nat} {n1 n2:Bool} {s1 s2:LS} {o1 o2:Bool} (f:Av s1.l) (i:Av s2.l) (j:fit (s1.l.length+s2.l.length+1) N):∃ S,Av S∧val S=(Ct n1 s1+Ct n2 s2).natAbs∧∀ K:Bool→Nat→LA→O R,xN N (Tt n1 s1) o1 (Tt n2 s2) o2 K=K (decide (Ct n1 s1+Ct n2 s2<0)) (Ba (Ct n1 s1+Ct n2 s2).natAbs).length (As S):=by
 by_cases hn:n1=n2
 ·subst hn
  obtain⟨S,a1,a2,a3⟩:=A1m (R:=R) (N:=N) (a:=s1.l) (b:=s2.l) (t:=false) (o:=o1) (t':=false) (o':=o2) rfl rfl f i j
  have d:Ct n1 s1+Ct n1 s2=if n1 then -((val s1.l+val s2.l:Nat):Int) else ((val s1.l+val s2.l:Nat):Int):=by
   unfold Ct;cases n1<;>simp;omega
  obtain⟨c1,c⟩:=DO d
  refine⟨S,a1,by rw[a2,c],fun K=>?_⟩
  rw[PZ];unfold ku
  rw[CX,CX,show(n1==n1)=true by simp,ct,CX,OK,OK,a3,Ps,c1,c]
 ·have e:(n1==n2)=false:=by simp[hn]
  by_cases k:val s2.l≤val s1.l
  ·obtain⟨S,a1,a2,a3⟩:=Aqt (R:=R) (N:=N) (a:=s1.l) (b:=s2.l) (t:=false) (o:=o1) (t':=false) (o':=o2) rfl rfl f i (j.le (by omega)) k
   have d:Ct n1 s1+Ct n2 s2=if n1 then -((val s1.l - val s2.l:Nat):Int) else ((val s1.l - val s2.l:Nat):Int):=by
    unfold Ct;cases n1<;>cases n2<;>simp at hn ⊢<;>omega
   obtain⟨c1,c⟩:=DO d
   refine⟨S,a1,by rw[a2,c],fun K=>?_⟩
   rw[PZ];unfold ku
   rw[CX,CX,e,cf,OK,OK,a3,ct,CX,Ps,c1,c]
  ·obtain⟨S,a1,a2,a3⟩:=Aqt (R:=R) (N:=N) (a:=s2.l) (b:=s1.l) (t:=false) (o:=o2) (t':=false) (o':=o1) rfl rfl i f (j.le (by omega)) (by omega)
   have d:Ct n1 s1+Ct n2 s2=if n2 then -((val s2.l - val s1.l:Nat):Int) else ((val s2.l - val s1.l:Nat):Int):=by
    unfold Ct;cases n1<;>cases n2<;>simp at hn ⊢<;>omega
   obtain⟨c1,c⟩:=DO d
   refine⟨S,a1,by rw[a2,c],fun K=>?_⟩
   rw[PZ];unfold ku
   rw[CX,CX,e,cf,OK,OK,A1n rfl rfl f i (j.le (by omega)) (by omega),cf,OK,OK,a3,CX,Ps,c1,c]
end
end Gx
