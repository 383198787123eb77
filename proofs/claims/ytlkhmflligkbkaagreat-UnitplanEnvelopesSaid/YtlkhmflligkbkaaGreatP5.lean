/- A part of the proof: what it holds is said by each theorem. -/
import Derived.Test.YtlkhmflligkbkaaGreatP4
set_option linter.unusedVariables false
namespace Gx.Cf
open Go Go.Proofs
section
variable {R:Type}
def rc (c:CaseD):Prop:=∃ (H:Nat) (res:List Int) (bs:List BusD) (ls:List LineD) (us:List UnitD) (ss:List StoreD) (ts:List TieD) (os:List OutD),
 BaseG H res bs ls us ss ts∧OutsG ls.length us.length os∧(os=[]∨fb (Ak7 true H res bs ls us ss ts os)=none)∧c=Ak7 false H res bs ls us ss ts os
theorem A2x {N:Nat} {l:List Int} {o:Bool} (hN:4096≤N) (B:l.length≤9223372036854775807) {H:Nat} {res:List Int} {bs:List BusD} {ls:List LineD} {us:List UnitD} {ss:List StoreD} {ts:List TieD} (b:BaseG H res bs ls us ss ts) (k:Nat) (C:k≤l.length) :
  ∃ c,rc c∧∀ K:List AV→Option R,VM N K (Av l) l.length o (H:Int) res.length bs.length ls.length us.length ss.length (Av res) (bs.flatMap BusD.av) (ls.flatMap LineD.av) (us.flatMap UnitD.av) (ss.flatMap StoreD.av) (k:Int) ts.length (ts.flatMap TieD.av)=K c.av:=by
 obtain⟨y,D,y0,y1,A,F⟩:=nx (R:=R) (N:=N) (t:=false) (o:=o) B 4 (by omega) (by omega) k C
 obtain⟨n,hn⟩:∃ n:Nat,y=(n:Int):=⟨y.toNat,by omega⟩
 subst hn
 obtain⟨os,a1,a2,a3⟩:=Asp (R:=R) (o:=o) hN B b n N D [] (by omega) A (by simp;omega) ⟨by simp,by simp⟩ (.inl rfl)
 refine⟨_,⟨H,res,bs,ls,us,ss,ts,os,b,a1,a2,rfl⟩,fun K=>?_⟩
 unfold VM fE
 rw[F]
 simpa using a3 K
theorem A2y {N:Nat} {l:List Int} {o:Bool} (hN:4096≤N) (D:l.length≤9223372036854775807) {H:Nat} {res:List Int} {bs:List BusD} {ls:List LineD} {us:List UnitD} {ss:List StoreD} (b:BaseG H res bs ls us ss []) (k:Nat) (hk:k≤l.length) :
  ∃ c,rc c∧∀ K:List AV→Option R,HJ N K (bs.length:Int) (Av l) l.length o (H:Int) res.length bs.length ls.length us.length (Av res) (bs.flatMap BusD.av) (ls.flatMap LineD.av) (us.flatMap UnitD.av) (k:Int) ss.length (ss.flatMap StoreD.av)=K c.av:=by
 have hb:=b.bl;have hH:=b.h
 obtain⟨y50,I,y500,y501,B,C⟩:=nx (R:=R) (N:=N) (t:=false) (o:=o) D 3 (by omega) (by omega) k hk
 by_cases h2:y50=2
 ·have O:(y50==2)=true:=by simpa using h2
  obtain⟨y52,S,y520,y521,L,M⟩:=nx (R:=R) (N:=N) (t:=false) (o:=o) D (bs.length:Int) (by omega) (by omega) I B
  obtain⟨B1,k1,A,T,U,hB1⟩:=IJ (R:=R) (N:=N) (m:=H) (t:=false) (o:=o) (by omega) D 12 (by omega) (by omega) (by omega) S L
  obtain⟨B2,k2,F,V,Y,hB2⟩:=IJ (R:=R) (N:=N) (m:=H) (t:=false) (o:=o) (by omega) D 12 (by omega) (by omega) (by omega) k1 U
  obtain⟨B3,k3,G,b32,hk3,hB3⟩:=IJ (R:=R) (N:=N) (m:=H) (t:=false) (o:=o) (by omega) D 40 (by omega) (by omega) (by omega) k2 Y
  obtain⟨c,g1,g2⟩:=A2x (R:=R) (o:=o) hN D (ts:=[⟨[116,48],y52,.of B1 false false,.of B2 false false,.of B3 false false⟩]) ⟨b.h,b.rl,b.rr,b.bl,b.bg,b.ll,b.lg,b.ul,b.ug,b.sl,b.sg,by simp,by
   intro x hx;simp at hx;subst hx
   exact⟨rfl,⟨y520,y521⟩,A,T,F,V,G,b32⟩⟩ k3 hk3
  refine⟨c,g1,fun K=>?_⟩
  unfold HJ LY
  rw[C,O,ct,M,hB1,hB2,hB3,Pr A.symm,Pr F.symm,Pr G.symm,←g2 K,←A]
  simp only[A]
  have e:List.flatMap TieD.av [⟨[116,48],y52,.of B1 false false,.of B2 false false,.of B3 false false⟩]=[(.str ([116,48]:List UInt8)),(.int .i64 y52),(.imm (B1.flatMap AE) H 1 false false),(.imm (B2.flatMap AE) H 1 false false),(.imm (B3.flatMap AE) H 1 false false)]:=by
   simp[TieD.av,Sl.av,A,F,G]
  rw[e];rfl
 ·have O:(y50==2)=false:=by simpa using h2
  obtain⟨c,g1,g2⟩:=A2x (R:=R) (o:=o) hN D b I B
  refine⟨c,g1,fun K=>?_⟩
  unfold HJ LY
  rw[C,O,cf,←g2 K];rfl
theorem A2z {N:Nat} {l:List Int} {o:Bool} (hN:4096≤N) (A:l.length≤9223372036854775807) {H:Nat} {res:List Int} {bs:List BusD} {ls:List LineD} (h:1≤H∧H≤3) (rl:res.length=H) (rr:∀ x ∈ res,0≤x∧x<5) (bl:1≤bs.length∧bs.length≤4) (bg:∀ i (h:i<bs.length),BusG i H bs[i]) (ll:ls.length≤7) (lg:∀ i (h:i<ls.length),LineH bs.length i H ls[i]) :
  ∀ (n fuel k:Nat) (us:List UnitD),n<fuel→k≤l.length→us.length+n≤3→1≤us.length+n→(∀ i (h:i<us.length),UnitG i bs.length H us[i]) →
  ∃ c,rc c∧∀ K:List AV→Option R,Pd N K (bs.length:Int) (Av l) l.length o (H:Int) res.length bs.length (Av res) (bs.flatMap BusD.av) fuel (n:Int) (k:Int) ls.length us.length (ls.flatMap LineD.av) (us.flatMap UnitD.av)=K c.av
 | 0,fuel+1,k,us,_,hk,hn,hn1,ug=>by
  obtain⟨y34,D,y340,y341,B,C⟩:=nx (R:=R) (N:=N) (t:=false) (o:=o) A 3 (by omega) (by omega) k hk
  by_cases h2:y34=2
  ·have e2:(y34==2)=true:=by simpa using h2
   obtain⟨y36,k36,y360,y361,F,G⟩:=nx (R:=R) (N:=N) (t:=false) (o:=o) A (bs.length:Int) (by omega) (by omega) D B
   obtain⟨y38,k38,y380,y381,I,L⟩:=nx (R:=R) (N:=N) (t:=false) (o:=o) A 20 (by omega) (by omega) k36 F
   obtain⟨y40,k40,y400,y401,M,O⟩:=nx (R:=R) (N:=N) (t:=false) (o:=o) A 8 (by omega) (by omega) k38 I
   obtain⟨y42,k42,y420,y421,S,T⟩:=nx (R:=R) (N:=N) (t:=false) (o:=o) A 8 (by omega) (by omega) k40 M
   obtain⟨y44,k44,y440,y441,U,V⟩:=nx (R:=R) (N:=N) (t:=false) (o:=o) A 4 (by omega) (by omega) k42 S
   obtain⟨y46,k46,y460,y461,Y,hy46⟩:=nx (R:=R) (N:=N) (t:=false) (o:=o) A (y38+1) (by omega) (by omega) k44 U
   obtain⟨y48,k48,y480,y481,hk48,hy48⟩:=nx (R:=R) (N:=N) (t:=false) (o:=o) A (y38+1) (by omega) (by omega) k46 Y
   obtain⟨c,g1,g2⟩:=A2y (R:=R) (o:=o) hN A (us:=us) (ss:=[⟨[115,48],y36,y38,y46,y48,y40,y42,⟨1+y44,4⟩⟩]) ⟨h,rl,rr,bl,bg,ll,lg,⟨by omega,by omega⟩,ug,by simp,by
    intro x hx;simp at hx;subst hx
    exact⟨rfl,⟨y360,y361⟩,⟨y380,y381⟩,⟨y460,by simp only;omega⟩,⟨y480,by simp only;omega⟩,⟨y400,y401⟩,⟨y420,y421⟩,by simp only;omega,by simp only;omega,rfl⟩,by simp,by simp⟩ k48 hk48
   refine⟨c,g1,fun K=>?_⟩
   rw[Pd];unfold Zl
   rw[show decide (((0:Nat):Int)>0)=false from rfl,cf,C,e2,ct,G,L,O,T,V,Ql (a:=y38+1) (by omega),hy46,hy48,Ql (a:=1+y44) (by omega),←g2 K]
   rfl
  ·have e2:(y34==2)=false:=by simpa using h2
   obtain⟨c,g1,g2⟩:=A2y (R:=R) (o:=o) hN A (us:=us) (ss:=[]) ⟨h,rl,rr,bl,bg,ll,lg,⟨by omega,by omega⟩,ug,by simp,by simp,by simp,by simp⟩ D B
   refine⟨c,g1,fun K=>?_⟩
   rw[Pd];unfold Zl
   rw[show decide (((0:Nat):Int)>0)=false from rfl,cf,C,e2,cf,←g2 K]
   rfl
 | n+1,fuel+1,k,us,hf,hk,hn,hn1,ug=>by
  obtain⟨u,k1,gu,hk1,hu⟩:=A56 (R:=R) (N:=N) (t:=false) (o:=o) (by omega) A (i:=us.length) (by omega) (nb:=(bs.length:Int)) (H:=(H:Int)) (by omega) (by omega) k hk
  obtain⟨c,g1,g2⟩:=A2z (o:=o) hN A h rl rr bl bg ll lg n fuel k1 (us++[u]) (by omega) hk1 (by simp;omega) (by simp;omega) (fc (P:=fun i u=>UnitG i bs.length H u) ug gu)
  refine⟨c,g1,fun K=>?_⟩
  rw[Pd];unfold Zl
  have wn:IntKind.wrap .i64 (((n+1:Nat):Int) - 1)=(n:Int):=Ah5 (by omega)
  have c2:(Nat.ble (us.length+1) 140737488355328&&Nat.ble ((us.length+1)*216) 140737488355328)=true:=by rw[E9,E9];simp;omega
  have c3:List.take (us.length*22) (us.flatMap UnitD.av)++u.av=(us++[u]).flatMap UnitD.av:=by rw[Ce Qj _ rfl];simp
  rw[show decide (((n+1:Nat):Int)>0)=true from decide_eq_true (by omega),ct,hu,show((Nat.beq (List.length u.av) 22)&&(Nat.ble 22 22))=true from rfl,ct,c2,ct,wn,←g2 K,←c3,List.length_append]
  rfl
theorem A93 {N:Nat} {l:List Int} {o:Bool} (hN:4096≤N) (F:l.length≤9223372036854775807) {H:Nat} {res:List Int} {bs:List BusD} (h:1≤H∧H≤3) (rl:res.length=H) (rr:∀ x ∈ res,0≤x∧x<5) (bl:1≤bs.length∧bs.length≤4) (bg:∀ i (h:i<bs.length),BusG i H bs[i]) :
  ∀ (n fuel k:Nat) (ls:List LineD),n<fuel→k≤l.length→ls.length+n≤7→(∀ i (h:i<ls.length),LineH bs.length i H ls[i]) →
  ∃ c,rc c∧∀ K:List AV→Option R,Pe N K (bs.length:Int) (Av l) l.length o (H:Int) res.length bs.length (Av res) (bs.flatMap BusD.av) fuel (n:Int) (k:Int) ls.length (ls.flatMap LineD.av)=K c.av:=by
 have fin:∀ (k:Nat) (ls:List LineD),k≤l.length→ls.length≤7→(∀ i (h:i<ls.length),LineH bs.length i H ls[i])→∃ c,rc c∧∀ K:List AV→Option R,(Af N (3:Int) (Av l) l.length false o (k:Int) (fun y22 y23=>(Pd N K (bs.length:Int) (Av l) l.length o (H:Int) res.length bs.length (Av res) (bs.flatMap BusD.av) N (IntKind.wrap .i64 ((1:Int)+y22)) y23 ls.length 0 (ls.flatMap LineD.av) [])))=K c.av:=by
  intro k ls D ll lg
  obtain⟨y,O,y0,y1,A,V⟩:=nx (R:=R) (N:=N) (t:=false) (o:=o) F 3 (by omega) (by omega) k D
  obtain⟨n,hn⟩:∃ n:Nat,1+y=(n:Int):=⟨(1+y).toNat,by omega⟩
  obtain⟨c,B,C⟩:=A2z (R:=R) (o:=o) hN F h rl rr bl bg ll lg n N O [] (by omega) A (by simp;omega) (by simp;omega) (by simp)
  refine⟨c,B,fun K=>?_⟩
  rw[V,Ql (a:=1+y) (by omega),hn]
  simpa using C K
 intro n
 induction n with
 | zero =>
  intro fuel k ls Y D hn lg
  obtain⟨c,B,C⟩:=fin k ls D (by omega) lg
  refine⟨c,B,fun K=>?_⟩
  obtain⟨fuel,rfl⟩:∃ f,fuel=f+1:=⟨fuel - 1,by omega⟩
  rw[Pe];unfold Zm
  rw[show decide (((0:Nat):Int)>0)=false from rfl,←C K]
  rfl
 | succ n ih =>
  intro fuel k ls Y D hn lg
  obtain⟨fuel,rfl⟩:∃ f,fuel=f+1:=⟨fuel - 1,by omega⟩
  by_cases hb1:bs.length=1
  ·obtain⟨c,B,C⟩:=fin k ls D (by omega) lg
   refine⟨c,B,fun K=>?_⟩
   rw[Pe];unfold Zm
   rw[show decide (((n+1:Nat):Int)>0)=true from decide_eq_true (by omega),show decide ((bs.length:Int)>1)=false from decide_eq_false (by omega),←C K]
   rfl
  ·obtain⟨y26,S,y260,y261,G,I⟩:=nx (R:=R) (N:=N) (t:=false) (o:=o) F (bs.length:Int) (by omega) (by omega) k D
   obtain⟨y28,T,y280,y281,L,M⟩:=nx (R:=R) (N:=N) (t:=false) (o:=o) F ((bs.length:Int) - 1) (by omega) (by omega) S G
   have tm:∃ to:Int,Int.tmod (y26+1+y28) (bs.length:Int)=to∧0≤to∧to<(bs.length:Int)∧y26≠to:=by
    refine⟨_,rfl,Int.tmod_nonneg _ (by omega),Int.tmod_lt_of_pos _ (by omega),?_⟩
    by_cases U:y26+1+y28<(bs.length:Int)
    ·rw[Int.tmod_eq_of_lt (by omega) U];omega
    ·have:Int.tmod (y26+1+y28) (bs.length:Int)=y26+1+y28 - (bs.length:Int):=by
      have e:y26+1+y28=(y26+1+y28 - (bs.length:Int))+1*(bs.length:Int):=by omega
      rw[Int.tmod_eq_emod_of_nonneg (by omega)]
      conv=>lhs;rw[e]
      rw[Int.add_mul_emod_self_right,Int.emod_eq_of_lt (by omega) (by omega)]
     rw[this];omega
   obtain⟨to,ht,t0,t1,tne⟩:=tm
   obtain⟨x,O,gx,A,hx⟩:=Aom (R:=R) (N:=N) (t:=false) (o:=o) F (i:=ls.length) (by omega) y26 to (H:=(H:Int)) (by omega) T L
   obtain⟨c,B,C⟩:=ih fuel O (ls++[x]) (by omega) A (by simp;omega) (fc (P:=fun i x=>LineH bs.length i H x) lg ⟨by rw[gx.fr,gx.to];exact gx,by rw[gx.fr];exact⟨y260,y261⟩,by rw[gx.to];exact⟨t0,t1⟩,by rw[gx.fr,gx.to];exact tne⟩)
   refine⟨c,B,fun K=>?_⟩
   rw[Pe];unfold Zm VK
   have wn:IntKind.wrap .i64 (((n+1:Nat):Int) - 1)=(n:Int):=Ah5 (by omega)
   have c2:(Nat.ble (ls.length+1) 140737488355328&&Nat.ble ((ls.length+1)*120) 140737488355328)=true:=by rw[E9,E9];simp;omega
   have c3:List.take (ls.length*12) (ls.flatMap LineD.av)++x.av=(ls++[x]).flatMap LineD.av:=by rw[Ce Hm _ rfl];simp
   rw[show decide (((n+1:Nat):Int)>0)=true from decide_eq_true (by omega),show decide ((bs.length:Int)>1)=true from decide_eq_true (by omega)]
   simp only[beq_self_eq_true,cond_true]
   rw[I,Ql (a:=(bs.length:Int) - 1) (by omega),M,show((bs.length:Int)==0)=false from beq_eq_false_iff_ne.2 (by omega),cf,Ql (a:=y26+1) (by omega),Ql (a:=y26+1+y28) (by omega),ht,hx,show((Nat.beq (List.length x.av) 12)&&(Nat.ble 12 12))=true from rfl,ct,c2,ct,wn,←C K,←c3,List.length_append]
   rfl
theorem A20 {N:Nat} {l:List Int} {o:Bool} (hN:4096≤N) (B:l.length≤9223372036854775807) {H:Nat} {res:List Int} {bs:List BusD} (h:1≤H∧H≤3) (rl:res.length=H) (rr:∀ x ∈ res,0≤x∧x<5) (bl:1≤bs.length∧bs.length≤4) (bg:∀ i (h:i<bs.length),BusG i H bs[i]) :
  ∀ (m j fuel k:Nat) (ls:List LineD),j+1+m=bs.length→m<fuel→k≤l.length→ls.length=j→(∀ i (h:i<ls.length),LineH bs.length i H ls[i]) →
  ∃ c,rc c∧∀ K:List AV→Option R,Wy N K (Av l) l.length o (H:Int) res.length bs.length (Av res) (bs.flatMap BusD.av) fuel (bs.length:Int) ((j+1:Nat):Int) (k:Int) ls.length (ls.flatMap LineD.av)=K c.av
 | 0,j,fuel+1,k,ls,O,_,D,C,lg=>by
  obtain⟨y,F,y0,y1,A,G⟩:=nx (R:=R) (N:=N) (t:=false) (o:=o) B 5 (by omega) (by omega) k D
  obtain⟨n,hn⟩:∃ n:Nat,y=(n:Int):=⟨y.toNat,by omega⟩
  subst hn
  obtain⟨c,I,L⟩:=A93 (R:=R) (o:=o) hN B h rl rr bl bg n N F ls (by omega) A (by omega) lg
  refine⟨c,I,fun K=>?_⟩
  rw[Wy];unfold LZ
  rw[Lb (by omega),cf,G];exact L K
 | m+1,j,fuel+1,k,ls,O,V,D,C,lg=>by
  obtain⟨y,F,y0,y1,A,G⟩:=nx (R:=R) (N:=N) (t:=false) (o:=o) B ((j+1:Nat):Int) (by omega) (by omega) k D
  obtain⟨x,S,gx,M,T⟩:=Aom (R:=R) (N:=N) (t:=false) (o:=o) B (i:=ls.length) (by omega) y ((j+1:Nat):Int) (H:=(H:Int)) (by omega) F A
  obtain⟨c,I,L⟩:=A20 (o:=o) hN B h rl rr bl bg m (j+1) fuel S (ls++[x]) (by omega) (by omega) M (by simp[C]) (fc (P:=fun i x=>LineH bs.length i H x) lg ⟨by rw[gx.fr,gx.to];exact gx,by rw[gx.fr];omega,by rw[gx.to];omega,by rw[gx.fr,gx.to];omega⟩)
  refine⟨c,I,fun K=>?_⟩
  rw[Wy];unfold LZ
  have U:(Nat.ble (ls.length+1) 140737488355328&&Nat.ble ((ls.length+1)*120) 140737488355328)=true:=by rw[E9,E9];simp;omega
  have c3:List.take (ls.length*12) (ls.flatMap LineD.av)++x.av=(ls++[x]).flatMap LineD.av:=by rw[Ce Hm _ rfl];simp
  rw[Jp (by omega),ct,G,T,show((Nat.beq (List.length x.av) 12)&&(Nat.ble 12 12))=true from rfl,ct,U,ct,Fi (by omega),←L K,←c3,List.length_append]
  rfl
theorem A21 {N:Nat} {l:List Int} {o:Bool} (hN:4096≤N) (G:l.length≤9223372036854775807) {H:Nat} {res:List Int} (h:1≤H∧H≤3) (rl:res.length=H) (rr:∀ x ∈ res,0≤x∧x<5) :
  ∀ (n fuel k:Nat) (bs:List BusD),n<fuel→k≤l.length→bs.length+n≤4→1≤bs.length+n→(∀ i (h:i<bs.length),BusG i H bs[i]) →
  ∃ c,rc c∧∀ K:List AV→Option R,Mm N K (Av l) l.length o res.length (Av res) fuel (n:Int) (k:Int) (H:Int) bs.length (bs.flatMap BusD.av)=K c.av
 | 0,fuel+1,k,bs,_,S,hn,T,bg=>by
  obtain⟨c,D,F⟩:=A20 (R:=R) (o:=o) hN G h rl rr ⟨by omega,by omega⟩ bg (bs.length - 1) 0 N k [] (by omega) (by omega) S rfl (by simp)
  refine⟨c,D,fun K=>?_⟩
  rw[Mm];unfold Zn
  rw[show decide (((0:Nat):Int)>0)=false from rfl,cf,←F K]
  rfl
 | n+1,fuel+1,k,bs,hf,S,hn,T,bg=>by
  obtain⟨B,k1,O,b2,U,hB⟩:=IJ (R:=R) (N:=N) (m:=H) (t:=false) (o:=o) (by omega) G 14 (by omega) (by omega) (by omega) k S
  obtain⟨y12,I,y120,y121,A,C⟩:=nx (R:=R) (N:=N) (t:=false) (o:=o) G 2 (by omega) (by omega) k1 U
  have wn:IntKind.wrap .i64 (((n+1:Nat):Int) - 1)=(n:Int):=Ah5 (by omega)
  have c2:(Nat.ble (bs.length+1) 140737488355328&&Nat.ble ((bs.length+1)*48) 140737488355328)=true:=by rw[E9,E9];simp;omega
  have c3:∀ s:Int,List.take (bs.length*3) (bs.flatMap BusD.av)++[(.str [98,Bdk.getD bs.length 0]),(.imm (B.flatMap AE) H 1 false false),(.int .i64 s)]=(bs++[(⟨[98,Bdk.getD bs.length 0],.of B false false,s⟩:BusD)]).flatMap BusD.av:=fun s=>by
   rw[Ce R_ _ rfl];simp[BusD.av,Sl.av,O]
  have go:∀ (s:Int) (kk:Nat),0≤s→s<300→kk≤l.length→∃ c,rc c∧∀ K:List AV→Option R,Mm N K (Av l) l.length o res.length (Av res) fuel (n:Int) (kk:Int) (H:Int) (bs.length+1) (List.take (bs.length*3) (bs.flatMap BusD.av)++[(.str [98,Bdk.getD bs.length 0]),(.imm (B.flatMap AE) H 1 false false),(.int .i64 s)])=K c.av:=by
   intro s kk s0 s1 V
   have gb:BusG bs.length H (⟨[98,Bdk.getD bs.length 0],.of B false false,s⟩:BusD):=⟨rfl,O,b2,s0,s1⟩
   obtain⟨c,D,F⟩:=A21 (o:=o) hN G h rl rr n fuel kk (bs++[(⟨[98,Bdk.getD bs.length 0],.of B false false,s⟩:BusD)]) (by omega) V (by simp;omega) (by simp;omega) (fc (P:=fun i x=>BusG i H x) bg gb)
   refine⟨c,D,fun K=>?_⟩
   rw[c3,←F K,List.length_append]
   rfl
  by_cases h1:y12=1
  ·have e1:(y12==1)=true:=by simpa using h1
   obtain⟨y14,Y,y140,y141,L,M⟩:=nx (R:=R) (N:=N) (t:=false) (o:=o) G 200 (by omega) (by omega) I A
   obtain⟨c,D,F⟩:=go (100+y14) Y (by omega) (by omega) L
   refine⟨c,D,fun K=>?_⟩
   rw[Mm];unfold Zn
   rw[show decide (((n+1:Nat):Int)>0)=true from decide_eq_true (by omega),ct,Tx (by omega),hB,C,e1,ct,M,c2,ct,wn,Ql (a:=100+y14) (by omega),Pr O.symm,F]
  ·have e1:(y12==1)=false:=by simpa using h1
   obtain⟨c,D,F⟩:=go 0 I (by omega) (by omega) A
   refine⟨c,D,fun K=>?_⟩
   rw[Mm];unfold Zn
   rw[show decide (((n+1:Nat):Int)>0)=true from decide_eq_true (by omega),ct,Tx (by omega),hB,C,e1,cf,c2,ct,wn,Pr O.symm,F]
theorem Asq {N:Nat} {l:List Int} {n:Nat} {t o:Bool} (hn:n=l.length) (hN:4096≤N) (k:l.length≤9223372036854775807):∃ c,rc c∧∀ K:List AV→Option R,gh N (Av l) n t o K=K c.av:=by
 subst hn
 obtain⟨y1,L,y10,y11,A,C⟩:=nx (R:=R) (N:=N) (t:=false) (o:=o) k 3 (by omega) (by omega) 0 (by omega)
 obtain⟨H,hH⟩:∃ H:Nat,1+y1=(H:Int):=⟨(1+y1).toNat,by omega⟩
 obtain⟨B,M,I,O,D,hB⟩:=IJ (R:=R) (N:=N) (m:=H) (t:=false) (o:=o) (by omega) k 5 (by omega) (by omega) (by omega) L A
 obtain⟨y6,S,y60,y61,F,G⟩:=nx (R:=R) (N:=N) (t:=false) (o:=o) k 4 (by omega) (by omega) M D
 obtain⟨m,T⟩:∃ m:Nat,1+y6=(m:Int):=⟨(1+y6).toNat,by omega⟩
 obtain⟨c,U,V⟩:=A21 (R:=R) (o:=o) hN k (H:=H) (by omega) I O m N S [] (by omega) F (by simp;omega) (by simp;omega) (by simp)
 refine⟨c,U,fun K=>?_⟩
 rw[xV];unfold qw
 rw[Agj];unfold Aq8
 have z:Af N 3 (Av l) l.length false o 0=Af (R:=R) N 3 (Av l) l.length false o ((0:Nat):Int):=rfl
 rw[z,C,Ql (a:=1+y1) (by omega),hH,hB,G,Ql (a:=1+y6) (by omega),T,←V K,I]
 rfl
end
end Gx.Cf

namespace Gx
open Go Go.Proofs
section
variable {R:Type}
def A94 (s:Cf.SegD):SegD:=⟨s.width,s.price⟩
def fe:Cf.Sl Cf.SegD→Sl SegD
 | .nil=>.nil
 | .of l t o=>.of (l.map A94) t o
def uD:Cf.Sl Int→Sl Int
 | .nil=>.nil
 | .of l t o=>.of l t o
def A6d (u:Cf.UnitD):UnitD:=⟨u.name,u.bus,u.min,u.max,fe u.segs,u.noLoad,u.rampUp,u.rampDown,u.startRamp,u.stopRamp,u.upTime,u.downTime,u.startTime,u.hotCost,u.coldCost,u.hotHours,u.reserve,u.reservePrice,uD u.away,u.state,u.hours,u.output⟩
theorem Axf:∀ l:List Cf.SegD,(l.map A94).flatMap SegD.av=l.flatMap Cf.SegD.av
 | []=>rfl
 | a::r=>by rw[List.map_cons,List.flatMap_cons,List.flatMap_cons,Axf r];rfl
theorem A58 (s:Cf.Sl Cf.SegD):(fe s).av 2 SegD.av=s.av 2 Cf.SegD.av:=by
 cases s with
 | nil=>rfl
 | of l t o=>simp only[fe,Sl.av,Cf.Sl.av,Axf,List.length_map]
theorem A59 (s:Cf.Sl Int):(uD s).av 1 AE=s.av 1 Cf.AE:=by cases s<;>rfl
theorem Bb7 (u:Cf.UnitD):(A6d u).av=u.av:=by
 unfold UnitD.av Cf.UnitD.av
 rw[show(A6d u).segs=fe u.segs from rfl,show(A6d u).away=uD u.away from rfl,A58,A59];rfl
theorem Aij (s:Cf.Sl Cf.SegD):(fe s).l=s.l.map A94:=by cases s<;>rfl
theorem Axg (s:Cf.Sl Int):(uD s).l=s.l:=by cases s<;>rfl
theorem rf (a b n:Int):Cf.Fj a b n=Ff a b n:=by
 rw[Bool.eq_iff_iff];simp[Cf.Fj,Ff]<;>omega
theorem Aor:∀ (l:List Cf.SegD) (p:Int),l.all Cf.Gh=true→Cf.f6 l=true→(∀ s ∈ l.head?,p≤s.price)→Gh p (l.map A94)=true
 | [],_,_,_,_=>rfl
 | [a],p,k,_,A=>by
  simp[Cf.Gh,rf] at k
  have:=A a (by simp)
  simp[Gh,A94,k,this]
 | a::b::r,p,k,B,A=>by
  have D:=A a (by simp)
  simp only[List.all_cons,Bool.and_eq_true] at k
  simp only[Cf.f6,Bool.and_eq_true] at B
  have F:=Aor (b::r) a.price (by simp only[List.all_cons,Bool.and_eq_true];exact k.2) B.2 (by intro s hs;simp at hs;subst hs;have:=B.1;simp at this;exact this)
  have C:=k.1
  simp[Cf.Gh,rf] at C
  rw[List.map_cons,Gh,show(A94 a).price=a.price from rfl,F]
  simp[A94,C,D]
theorem Aos:∀ (l:List Cf.SegD) (a:Int),l.all Cf.Gh=true→l.length≤100→-1000000000000≤a - 1048576*(100 - (l.length:Int))→(0≤a∧a≤1048576*(100 - (l.length:Int)))→Cf.VV a l=a+aJ (l.map A94)
 | [],a,_,_,_,_=>by simp[Cf.VV,aJ]
 | s::r,a,k,A,B,C=>by
  simp only[List.all_cons,Bool.and_eq_true] at k
  have D:=k.1
  simp[Cf.Gh,rf,Ff] at D
  rw[List.length_cons] at A B C
  rw[Cf.VV,i64 (by omega),Aos r (a+s.width) k.2 (by omega) (by omega) (by omega),List.map_cons,aJ]
  simp[A94];omega
theorem Aik {i:Nat} {nb H c:Int} {u:Cf.UnitD} (g:Cf.UnitG i nb H u) (hH:1≤H∧H≤c) (hc:c≤24):Fg (A6d u) c=true:=by
 have e:=g
 obtain⟨_,_,h1,h2,h3,h4,h5,h6,h7,h8,h9,A,B,C,D,F,G,I,L,M,O,h20,h21,S,_,T,h25,k⟩:=e
 simp only[rf] at h1 h2 h7 h8 h9 A B C D F G I L M O S T k
 have hw:=Aos u.segs.l 0 h4 (by omega) (by omega) (by omega)
 have hm1:=h1;have hm2:=h2
 simp only[Ff,Bool.and_eq_true,decide_eq_true_eq] at hm1 hm2
 have U:aJ (A6d u).segs.l=u.max - u.min:=by
  have:Cf.VV 0 u.segs.l=IntKind.wrap .i64 (u.max - u.min):=by simpa using h6
  rw[hw,i64 (by omega)] at this
  show aJ (fe u.segs).l=_
  rw[Aij];omega
 have V:Gh (-1048576) (A6d u).segs.l=true:=by
  show Gh _ (fe u.segs).l=true
  rw[Aij]
  refine Aor _ _ h4 h5 fun s hs=>?_
  have hs':s ∈ u.segs.l:=List.mem_of_mem_head? hs
  have:=List.all_eq_true.1 h4 s hs'
  simp[Cf.Gh,rf,Ff] at this;omega
 have Y:(A6d u).segs.l.length≤8:=by
  show(fe u.segs).l.length≤8
  rw[Aij,List.length_map];omega
 have haw:AF (c - 1) (-1) (A6d u).away.l=true:=by
  show AF _ _ (uD u.away).l=true
  rw[Axg]
  cases hl:u.away.l with
  | nil=>rfl
  | cons x r =>
   have hr:r=[]:=by
    have:=h20;rw[hl] at this;simp at this;exact this
   subst hr
   have:=h21 x (by rw[hl];simp)
   simp[AF,Ff];omega
 have hst:C4 (A6d u)=true:=by
  unfold C4
  show(Ff 0 24 u.upTime&&(Ff 0 24 u.downTime&&(Ff 0 24 u.startTime&&(Ff 0 24 u.hotHours&&((u.state==0||(u.state==1||u.state==2))&&(Ff 1 48 u.hours&&(!(u.state==1)||decide (u.hours≤u.startTime))))))))=true
  have hs3:(u.state==0||(u.state==1||u.state==2))=true:=by
   simp only[Ff,Bool.and_eq_true,decide_eq_true_eq] at S
   simp;omega
  rw[C,D,F,L,T,hs3]
  exact h25
 have hsB:kV (A6d u)=true:=by
  unfold kV;rw[V,U];simp[Y];rfl
 have hoB:Az2 (A6d u)=true:=by
  unfold Az2
  show cond (u.state==2) (Ff u.min u.max u.output) (u.output==0)=true
  cases hb:(u.state==2) with
  | true=>rw[hb] at k;exact k
  | false=>rw[hb] at k;simp[Ff] at k;simp;omega
 have hmx:Ff 0 1048576 u.max=true:=by simp[Ff];omega
 have hle:decide (u.min≤u.max)=true:=by simp;omega
 have hcc:Ff 1 24 c=true:=by simp[Ff];omega
 unfold Fg
 rw[hst,haw,hsB,hoB]
 show(Ff 1 24 c&&(true&&(Ff 0 1048576 u.min&&(Ff 0 1048576 u.max&&(Ff 0 1048576 u.rampUp&&(Ff 0 1048576 u.rampDown&&(Ff 0 1048576 u.reserve&&(decide (u.min≤u.max)&&(Ff u.min u.max u.startRamp&&(Ff u.min u.max u.stopRamp&&(Ff 0 1048576 u.noLoad&&(Ff 0 1048576 u.hotCost&&(Ff 0 1048576 u.coldCost&&(Ff 0 1048576 u.reservePrice&&(true&&(true&&true))))))))))))))))=true
 rw[hcc,h1,hmx,h8,h9,M,hle,A,B,h7,G,I,O];rfl
theorem A1j {N:Nat} {X:Option R} {K:LA→Int→Option R} {l:List Int} {n:Nat} {t o:Bool} (hn:n=l.length) (hN:4096≤N) (k:l.length≤9223372036854775807)
  (h:∀ (u:UnitD) (H:Int),1≤H→H≤3→Fg u H=true→Fg u 24=true→u.away.l.length≤1→K u.av H=X):gi N (Av l) n t o K=X:=by
 rw[xX];unfold Ahh
 obtain⟨c,A,e⟩:=Cf.Asq (R:=R) (N:=N) (l:=l) (n:=n) (t:=false) (o:=o) hn hN k
 rw[show Av l=Cf.Av l from rfl,e]
 obtain⟨H,res,bs,ls,us,ss,ts,os,hB,_,_,rfl⟩:=A
 obtain⟨u0,us',rfl⟩:∃ u0 us',us=u0::us':=by
  cases us with
  | nil=>have:=hB.ul;simp at this
  | cons a r=>exact⟨a,r,rfl⟩
 have g:=hB.ug 0 (by simp)
 simp only[List.getElem_cons_zero] at g
 have hH:=hB.h
 have:=h (A6d u0) (H:Int) (by omega) (by omega) (Aik g (by omega) (by omega)) (Aik g (by omega) (by omega)) (by show(uD u0.away).l.length≤1;rw[Axg];exact g.aw)
 rw[Bb7] at this
 refine Eq.trans ?_ this
 rw[show List.drop 4 (Cf.Ak7 false H res bs ls (u0::us') ss ts os).av=(Cf.Sl.of (u0::us') false false).av 22 Cf.UnitD.av::List.drop 5 (Cf.Ak7 false H res bs ls (u0::us') ss ts os).av from rfl,Cf.Hz]
 rw[show(Cf.Sl.of (u0::us') false false).l=u0::us' from rfl,List.flatMap_cons,show Ad (0:Int) (u0::us').length=true from Aa (i:=0) (by simp),show Nat.ble 22 (List.length (u0.av++us'.flatMap Cf.UnitD.av))=true from rfl,show List.take 22 (u0.av++us'.flatMap Cf.UnitD.av)=u0.av from rfl]
 rw[show ∀ F:Int→Option R,Ao .i64 (Cf.Ak7 false H res bs ls (u0::us') ss ts os).av F=F (H:Int) from fun F=>Az]
 rfl
end
end Gx

namespace Gx
open Go Go.Proofs
set_option maxRecDepth 100000
section
variable {R:Type}
def Bcb (ks A B:List Int):PlanD:=Bdt ks (A.map rq) (B.map rq) false false false
theorem A8m {ks A B:List Int} {n:Nat} (k:n=ks.length) (C:A.length=n) (D:B.length=n):[AV.imm (Av ks) n 1 false false,.imm (tj A) n 3 false false,.imm (tj B) n 3 false false]=(Bcb ks A B).av:=by
 unfold Bcb;rw[←Bb1,List.length_map,List.length_map,C,D,k];rfl
theorem A95 (p:PlanD):((Nat.beq 0 0)&&((Nat.beq (List.length p.av) 3)&&(Nat.beq 3 3)))=true:=rfl
theorem A96 {N:Nat} {X:Option R} {K:LA→Bool→Option R} {u:UnitD} {raw:List Int} {h:Int} {n:Nat} {b g f:Bool} (hn:n=raw.length) (k:u.away.l.length≤1000) (hN:4096≤N) (hs:C4 u=true) (C:0≤h∧h≤1000)
  (D:K (Bcb [] [] []).av false=X) (F:∀ ks A B,ks.length≤1000→nD u h ks=0→GdA u ks ks.length ks.length A B→K (Bcb ks A B).av true=X):RW N u.av b h (Av raw) n g f K=X:=by
 rw[rW];unfold ti
 rw[D8,ct,Cg]
 refine A5y hn k (by omega) hs C fun ks I=>?_
 rw[ct]
 refine Ak5 hn rfl k (by omega) hN (fun _=>?_) (fun G A B g=>?_)
 ·rw[show [AV.imm [] 0 1 false false,.imm [] 0 3 false false,.imm [] 0 3 false false]=(Bcb [] [] []).av from A8m (ks:=[]) (A:=[]) (B:=[]) rfl rfl rfl,A95,ct,Bdr,ct,Bds]
  exact D
 ·rw[A8m rfl g.1 g.2.1,A95,ct,Bdr,ct,Bds]
  exact F ks A B (by omega) G g
theorem A1k {N:Nat} {c f:LA} {a b:Nat} {d e g i:Bool} {K:Bool→Option R}:RN N c a d e f b g i K=K (decide (a≤200)&&decide (b≤200)):=by
 rw[rG];unfold t_
 have e1:decide (((a:Nat):Int)≤200)=decide (a≤200):=by rw[decide_eq_decide];omega
 have k:decide (((b:Nat):Int)≤200)=decide (b≤200):=by rw[decide_eq_decide];omega
 rw[e1,k]
 cases decide (a≤200)<;>cases decide (b≤200)<;>rfl
theorem Axh {N:Nat} {K:Bool→Option R} {n:Nat} {g:Nat→PD} (hn:n≤1000):∀ (m p fuel:Nat),p+m=n→m<fuel→Cm N K n n (tb n g) (tb n g) fuel (p:Int)=K true
 | 0,p,fuel+1,k,_=>by
  rw[Cm];unfold Ej
  rw[Lb (by omega),cf]
 | m+1,p,fuel+1,k,A=>by
  rw[Cm];unfold Ej
  have h:p<n:=by omega
  rw[Jp h,ct,Aa h,ct,Ahw h,ct,ct,ct,Ahv h,show((Nat.ble 1 2)&&((Nat.beq (List.length (g p).av) 2)&&((Nat.beq (List.length (g p).av) 2)&&(true&&(!false)))))=true from rfl,ct,Awk,Awk,Awl,Awl]
  simp only[beq_self_eq_true,Bool.and_true,Bool.not_true,cf]
  rw[wS (by omega)]
  exact Axh hn m (p+1) fuel (by omega) (by omega)
theorem Aot {N:Nat} {K:Bool→Option R} {u:UnitD} {ks:List Int} {h:Int} {i o a:Bool} {n:Nat} (D:fit 100000 N) (hn:n=ks.length) (A:u.away.l.length≤1000) (B:ks.length≤1000) :
  Hc N u.av a h (Av ks) n i o (fun bi bq br=>G7 N u.av a h (Av ks) n i o (fun bj bs bt=>Jb N (fun bu=>(cond ((!bu)==false) (cond ((cond false true (bq != bs))==false) (cond (cond false true (((bi:Nat):Int) != ((bj:Nat):Int))) (K false) (Dg N K bi bj br bt)) (K false)) (K false)))))=K true:=by
 have hN:4096≤N:=by have:=D.1;omega
 have F:∀ (m:Nat) (g:Nat→PD) (e:Int),m≤1000→Jb N (fun bu=>(cond ((!bu)==false) (cond ((cond false true (e != e))==false) (cond (cond false true (((m:Nat):Int) != ((m:Nat):Int))) (K false) (Dg N K m m (tb m g) (tb m g))) (K false)) (K false)))=K true:=by
  intro m g e G
  rw[A0h D,show(e != e)=false by simp,show(((m:Nat):Int) != ((m:Nat):Int))=false by simp]
  exact Axh G m 0 N (by omega) (by omega)
 refine Ah3 A B hN hn (fun C=>?_) (fun C=>?_)
 ·exact AK A B hN hn (fun _=>F n _ 0 (by omega)) (fun k=>absurd C k)
 ·exact AK A B hN hn (fun k=>absurd k C) (fun _=>by
   have:=F 0 (fun _=>⟨0,0⟩) (nD u h ks) (by omega)
   exact this)
theorem WA {N:Nat} {K:Bool→Option R} (D:fit 1000000 N) {ea:List UInt8} {fa g i:Int} {sg:List SegD} {av a:Bool} {m n o p' q r s t u' w x y z:Int} {aw:List Int} {aw' b:Bool} {ac ad ae hr:Int} {ks:List Int} {G I:Bool} {l raw:List Int} {l1 l2 r1 r2 close:Bool}
    (hl:l.length≤9223372036854775807) :
    Eh N ea fa g i (sg.flatMap SegD.av) sg.length av a m n o p' q r s t u' w x y z (Av aw) aw.length aw' b ac ad ae hr (Av ks) ks.length G I (Av l) l.length l1 l2 (Av raw) raw.length r1 r2 close K=K true:=by
  have hN:4096≤N:=by have:=D.1;omega
  rw[Ob];unfold F3
  rw[A75,A07]
  rw[show(Bdg ea fa g i sg a m n o p' q r s t u' w x y z aw b ac ad ae).away.l=aw from rfl,show(Bdg ea fa g i sg a m n o p' q r s t u' w x y z aw b ac ad ae).segs.l=sg from rfl]
  by_cases L:aw.length≤40
  · by_cases M:sg.length≤20
    · rw[decide_eq_true L,decide_eq_true M,show((!(true&&true))==false)=true from rfl,ct]
      by_cases g3:ks.length≤30
      · rw[show decide ((ks.length:Int)>30)=false by simp;omega,show((cond false true false)==false)=true from rfl,ct,A1k]
        by_cases O:l.length≤200
        · by_cases S:raw.length≤200
          · rw[decide_eq_true O,decide_eq_true S,show(cond false true (!(true&&true)))=false from rfl,cf]
            unfold E5 Ha
            cases close with
            | false =>
              rw[cf]
              unfold H8 G9
              rw[A75]
              exact Aot (D.le (by omega)) rfl (by show aw.length≤1000;omega) (by omega)
            | true =>
              rw[ct]
              refine A1j rfl hN hl fun u H h1 h2 T hv' ha=>?_
              rw[show((Nat.beq 0 0)&&((Nat.beq (List.length u.av) 22)&&(Nat.beq 22 22)))=true from rfl,ct,D8,ct,Cg]
              have U:∀ (ks:List Int) (V Y:Bool),ks.length≤1000→E4 N K H u.av (Av ks) ks.length V Y=K true:=by
                intro ks V Y F
                unfold E4 G8
                simp only[D8,ct,Cg]
                exact Aot (D.le (by omega)) rfl (by omega) F
              refine A96 rfl (by omega) hN (zf T).1 (by omega) ?_ fun ks' A B F k gg=>?_
              · rw[A95,ct,p0]
                exact U ks G I (by omega)
              · rw[A95,ct,p0,show(Bcb ks' A B).st.l=ks' from rfl]
                have e0:0<ks'.length:=by
                  unfold nD at k
                  rw[T] at k
                  simp only[Bool.not_true,cond_false] at k
                  cases C:((ks'.length:Int) != H) with
                  | true=>rw[C] at k;simp at k
                  | false => have : (ks'.length : Int) = H := by simpa using C
                             omega
                rw[show decide ((ks'.length:Int)>0)=true by simp;omega,ct,p0]
                exact U ks' false false F
          · rw[decide_eq_false S,Bool.and_false];rfl
        · rw[decide_eq_false O,Bool.false_and];rfl
      · rw[show decide ((ks.length:Int)>30)=true by simp;omega];rfl
    · rw[decide_eq_false M,Bool.and_false];rfl
  · rw[decide_eq_false L,Bool.false_and];rfl
end
end Gx

namespace Gx
open Go Go.Proofs
theorem rg {p:Int→Prop}:∀ m:List { n:Int // p n },m.flatMap (fun n=>[AV.int .i64 n.1])=Av (m.map (·.1))
 | []=>rfl
 | a::r=>by rw[List.flatMap_cons,rg r];rfl
end Gx

namespace Gx
open Go Go.RowKit
theorem Asr {P:Program} {t:TypeId} (k:P.underlying t=some .string) (A:P.cellsOf t=1):Opens P t (α:={ s:List UInt8 // s.length≤maxLen }) (fun s=>[.str s.1]) 1:=by
 refine⟨A,by omega,fun _=>rfl,fun enc W fuel cs d ps h=>?_⟩
 obtain⟨s,rfl,_,B⟩:=DataW.trod_string k h
 refine⟨rfl,⟨s.data.toList,B⟩,?_⟩
 simp[RepCs,RepC]
theorem Opens.map {P:Program} {t:TypeId} {α β:Type} {e:α→List AV} {n:Nat} (h:Opens P t e n) (e':β→List AV) (g:α→β) (k:∀ a,e a=e' (g a)) (A:∀ b,(e' b).length=n):Opens P t e' n:=by
 refine⟨h.size,h.pos,A,fun enc W fuel cs d ps B=>?_⟩
 obtain⟨C,a,D⟩:=h.read enc W fuel cs d ps B
 exact⟨C,g a,by rw[←k];exact D⟩
structure OpensF (P:Program) (fs:List Field) (off:Nat) {α:Type} (e:α→List AV) (n:Nat):Prop where
 len:∀ a,(e a).length=n
 read:∀ {H:Type} (enc:TypeId×Value→H) (W:World) (fuel:Nat) (cs:List Value),(∀ (i:Nat) (f:Field),fs[i]?=some f→∃ d ps,DataW.trod enc P W 0 (fun _=>true) true fuel f.type ((cs.drop f.offset).take (P.cellsOf f.type))=some (d,ps)) →
  ∃ a,RepCs (fun k=>k<W.heap.size) W (e a) (fun j=>cs[j]?) off
theorem Ail {P:Program} {off:Nat}:OpensF P [] off (α:=Unit) (fun _=>[]) 0:=⟨fun _=>rfl,fun _ _ _ _ _=>⟨(),by simp[RepCs]⟩⟩
theorem Bi {P:Program} {f:Field} {fs:List Field} {off:Nat} {α β:Type} {e:α→List AV} {n:Nat} {e':β→List AV} {m:Nat} (I:f.offset=off) (k:Opens P f.type e n) (D:OpensF P fs (off+n) e' m) :
  OpensF P (f::fs) off (α:=α×β) (fun p=>e p.1++e' p.2) (n+m):=by
 refine⟨fun p=>by rw[List.length_append,k.len,D.len],fun enc W fuel cs h=>?_⟩
 obtain⟨d,ps,L⟩:=h 0 f rfl
 obtain⟨O,a,F⟩:=k.read enc W fuel _ _ _ L
 obtain⟨b,G⟩:=D.read enc W fuel cs fun i g M=>h (i+1) g (by simpa using M)
 refine⟨(a,b),?_⟩
 rw[Cw] at F G ⊢
 intro j x C
 by_cases B:j<n
 ·rw[List.getElem?_append_left (by rw[k.len];exact B)] at C
  obtain⟨u,A,hr⟩:=F j x C
  refine⟨u,?_,hr⟩
  simp only[Nat.zero_add] at A
  rw[k.size,List.getElem?_take_of_lt B,List.getElem?_drop,I] at A
  exact A
 ·rw[List.getElem?_append_right (by rw[k.len];omega),k.len] at C
  obtain⟨u,A,hr⟩:=G (j - n) x C
  refine⟨u,?_,hr⟩
  rw[show off+n+(j - n)=off+j by omega] at A
  exact A
theorem ri {P:Program} {t:TypeId} {fs:Array Field} {α:Type} {e:α→List AV} {n:Nat} (D:P.underlying t=some (.struct fs)) (B:P.cellsOf t=n) (hn:0<n) (h:OpensF P fs.toList 0 e n):Opens P t e n:=by
 refine⟨B,hn,h.len,fun enc W fuel cs d ps F=>?_⟩
 obtain⟨xs,g,_,_,G,k,I⟩:=DataW.trod_struct D F
 refine⟨by rw[G,B],?_⟩
 exact h.read enc W g cs fun i f hi=>by
  have C:fs[i]?=some f:=by simpa using hi
  have:=I i f C
  have A:i<xs.length:=by
   rw[k];exact(Array.getElem?_eq_some_iff.1 C).1
  rw[List.getElem?_eq_getElem A] at this
  exact⟨_,_,this⟩
end Gx

namespace Gx
open Go Go.RowKit
section
variable {P:Program} {W:World} {H:Type} {enc:TypeId×Value→H} {β:C1} {h:Am}
theorem Ak8 {t:TypeId} {fs:Array Field} {k:Nat} {r:Reach} {v:Value} (A:P.underlying t=some (.struct fs)) (h:Value.okWide P W r k t v):∃ cs,v=.agg cs:=by
 unfold Value.okWide at h
 rw[A] at h
 obtain⟨cs,h,_⟩:=h
 exact⟨cs,h⟩
theorem A8n {J:Nat→Prop}:∀ {x:AV} {u:Value},RepC J W x u→Rep (fun _=>J) β h W x u
 | .int ..,_,h=>by rw[Rep];rw[RepC] at h;exact h
 | .bool _,_,h=>by rw[Rep];rw[RepC] at h;exact h
 | .str _,_,h=>by rw[Rep];rw[RepC] at h;exact h
 | .nsl,_,h=>by rw[Rep];rw[RepC] at h;exact h
 | .imm ..,_,h=>by rw[Rep];exact h
 | .iptr ..,_,h=>by rw[Rep];exact h
 | .nilptr,_,h=>by rw[Rep];rw[RepC] at h;exact h
 | .nilfn,_,h=>by rw[Rep];rw[RepC] at h;exact h
 | .fn f [],_,h=>by
  rw[Rep];rw[RepC] at h
  exact⟨[],by simpa using h,by rw[Reps]⟩
 | .fn _ (_::_),_,h=>by simp[RepC] at h
 | .pagg ..,_,h=>by simp[RepC] at h
 | .agg _,_,h=>by simp[RepC] at h
 | .tup _,_,h=>by simp[RepC] at h
 | .own ..,_,h=>by simp[RepC] at h
 | .omap _,_,h=>by simp[RepC] at h
 | .optr ..,_,h=>by simp[RepC] at h
 | .undef,_,h=>by simp[RepC] at h
theorem A22 {J:Nat→Prop}:∀ {c:List AV} {cs:List Value} {rd:Nat→Option Value} {i:Nat},cs.length=c.length→(∀ j,cs[j]?=rd (i+j))→RepCs J W c rd i→Reps (fun _=>J) β h W c cs
 | [],cs,_,_,k,_,_=>by rw[Reps];simpa using k
 | x::r,[],_,_,k,_,_=>by simp at k
 | x::r,u::us,rd,i,k,hr,B=>by
  rw[RepCs] at B
  obtain⟨⟨u',A,D⟩,B⟩:=B
  have C:=hr 0
  simp only[List.getElem?_cons_zero,Nat.add_zero] at C
  rw[←C] at A
  cases A
  rw[Reps]
  refine⟨u,us,rfl,A8n D,A22 (by simpa using k) (fun j=>?_) B⟩
  have:=hr (j+1)
  rw[List.getElem?_cons_succ] at this
  rw[this];congr 1;omega
theorem A97 {c:List AV} {v:Value} (hr:Rep (fun _ k=>k<W.heap.size) β h W (.pagg c false) v):Rep (fun _ k=>k<W.heap.size) β h W (.agg c) v:=by
 rw[Rep] at hr
 obtain⟨cs,A,B,C⟩:=hr
 rw[Rep]
 exact⟨cs,A,A22 B (fun j=>by rw[Nat.zero_add]) C⟩
end
end Gx

namespace Gx
open Go Go.Proofs Go.RowKit
section
variable {W:World} {H:Type} {enc:TypeId×Value→H} {β:C1} {h:Am}
theorem Fh:Opens Tryz.prog 3 AE 1:=(gP Tryz.underlying3 (by kernel_rfl)).map AE (fun n=>n.1) (fun _=>rfl) (fun _=>rfl)
theorem A6a:Opens Tryz.prog 79 SegD.av 2 :=
 (ri Tryz.underlying79 (by kernel_rfl) (by decide) (Bi rfl Fh (Bi rfl Fh Ail))).map SegD.av (fun p=>⟨p.1,p.2.1⟩) (fun _=>rfl) (fun _=>rfl)
theorem A6b {v:Value} {d:DataW H} {p:List MemPlace} (A:∃ cs,v=.agg cs) (B:DataW.Trod enc Tryz.prog W 0 (fun _=>true) true 25 v d p) :
  ∃ (a:List UInt8) (b d e:Int) (sg:List SegD) (g i j l m t u w n o x p q:Int) (aw:List Int) (z aa r:Int),Rep (fun _ k=>k<W.heap.size) β h W (.agg [AV.str a,(.int .i64 b),(.int .i64 d),(.int .i64 e),(.imm (sg.flatMap SegD.av) sg.length 2 false false),(.int .i64 g),(.int .i64 i),(.int .i64 j),(.int .i64 l),(.int .i64 m),(.int .i64 t),(.int .i64 u),(.int .i64 w),(.int .i64 n),(.int .i64 o),(.int .i64 x),(.int .i64 p),(.int .i64 q),(.imm (Av aw) aw.length 1 false false),(.int .i64 z),(.int .i64 aa),(.int .i64 r)]) v:=by
 obtain⟨cs,rfl⟩:=A
 obtain⟨⟨⟨a,_⟩,b,d,e,⟨sg,_⟩,g,i,j,l,m,t,u,w,n,o,x,p,q,⟨aw,_⟩,z,aa,r,_⟩,hr⟩:=A60 (β:=β) (h:=h) (ri (P:=Tryz.prog) Tryz.underlying25 (by kernel_rfl) (by decide)
   (Bi rfl (Asr Tryz.underlying9 (by kernel_rfl)) (Bi rfl Fh (Bi rfl Fh (Bi rfl Fh
   (Bi rfl (cR Tryz.underlying22 (by kernel_rfl) A6a)
   (Bi rfl Fh (Bi rfl Fh (Bi rfl Fh (Bi rfl Fh (Bi rfl Fh (Bi rfl Fh (Bi rfl Fh (Bi rfl Fh (Bi rfl Fh (Bi rfl Fh (Bi rfl Fh (Bi rfl Fh (Bi rfl Fh
   (Bi rfl (cR Tryz.underlying23 (by kernel_rfl) Fh)
   (Bi rfl Fh (Bi rfl Fh (Bi rfl Fh Ail))))))))))))))))))))))) B
 refine⟨a,b,d,e,sg,g,i,j,l,m,t,u,w,n,o,x,p,q,aw,z,aa,r,?_⟩
 rw[←Ee]
 exact A97 hr
end
end Gx
