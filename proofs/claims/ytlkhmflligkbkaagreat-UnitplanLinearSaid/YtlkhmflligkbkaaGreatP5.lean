/- A part of the proof: what it holds is said by each theorem. -/
import Derived.Test.YtlkhmflligkbkaaGreatP4
set_option linter.unusedVariables false
set_option linter.defProp false
set_option linter.unusedSimpArgs false
namespace Gx.Cf
open Go Go.Proofs
section
variable {R:Type}
def tB (c:CaseD):Prop:=∃ (H:Nat) (res:List Int) (bs:List BusD) (ls:List LineD) (us:List UnitD) (ss:List StoreD) (ts:List TieD) (os:List OutD),
 BaseG H res bs ls us ss ts∧OutsG ls.length us.length os∧(os=[]∨gW (Aoe true H res bs ls us ss ts os)=none)∧c=Aoe false H res bs ls us ss ts os
theorem A6h {N:Nat} {l:List Int} {o:Bool} (hN:4096≤N) (F:l.length≤9223372036854775807) {H:Nat} {C:List Int} {bs:List BusD} {ls:List LineD} {us:List UnitD} {ss:List StoreD} {ts:List TieD} (b:BaseG H C bs ls us ss ts) (k:Nat) (G:k≤l.length) :
  ∃ c,tB c∧∀ K:LA→O R,WH N K (Av l) l.length o (H:Int) C.length bs.length ls.length us.length ss.length (Av C) (bs.flatMap BusD.av) (ls.flatMap LineD.av) (us.flatMap UnitD.av) (ss.flatMap StoreD.av) (k:Int) ts.length (ts.flatMap TieD.av)=K c.av:=by
 obtain⟨y,I,y0,y1,D,L⟩:=nx (R:=R) (N:=N) (t:=false) (o:=o) F 4 (by omega) (by omega) k G
 obtain⟨n,hn⟩:∃ n:Nat,y=(n:Int):=⟨y.toNat,by omega⟩
 subst hn
 obtain⟨os,a1,a2,a3⟩:=Av8 (R:=R) (o:=o) hN F b n N I [] (by omega) D (by simp;omega) ⟨by simp,by simp⟩ (.inl rfl)
 refine⟨_,⟨H,C,bs,ls,us,ss,ts,os,b,a1,a2,rfl⟩,fun K=>?_⟩
 unfold WH fb
 rw[L]
 simpa using a3 K
theorem A6i {N:Nat} {l:List Int} {o:Bool} (hN:4096≤N) (G:l.length≤9223372036854775807) {H:Nat} {I:List Int} {bs:List BusD} {ls:List LineD} {us:List UnitD} {ss:List StoreD} (b:BaseG H I bs ls us ss []) (k:Nat) (hk:k≤l.length) :
  ∃ c,tB c∧∀ K:LA→O R,HS N K (bs.length:Int) (Av l) l.length o (H:Int) I.length bs.length ls.length us.length (Av I) (bs.flatMap BusD.av) (ls.flatMap LineD.av) (us.flatMap UnitD.av) (k:Int) ss.length (ss.flatMap StoreD.av)=K c.av:=by
 have hb:=b.bl;have hH:=b.h
 obtain⟨y50,S,y500,y501,D,F⟩:=nx (R:=R) (N:=N) (t:=false) (o:=o) G 3 (by omega) (by omega) k hk
 by_cases h2:y50=2
 ·have V:(y50==2)=true:=by simpa using h2
  obtain⟨y52,Y,y520,y521,T,U⟩:=nx (R:=R) (N:=N) (t:=false) (o:=o) G (bs.length:Int) (by omega) (by omega) S D
  obtain⟨B1,k1,C,b12,hk1,hB1⟩:=IK (R:=R) (N:=N) (m:=H) (t:=false) (o:=o) (by omega) G 12 (by omega) (by omega) (by omega) Y T
  obtain⟨B2,k2,L,b22,hk2,hB2⟩:=IK (R:=R) (N:=N) (m:=H) (t:=false) (o:=o) (by omega) G 12 (by omega) (by omega) (by omega) k1 hk1
  obtain⟨B3,k3,M,b32,hk3,hB3⟩:=IK (R:=R) (N:=N) (m:=H) (t:=false) (o:=o) (by omega) G 40 (by omega) (by omega) (by omega) k2 hk2
  obtain⟨c,g1,g2⟩:=A6h (R:=R) (o:=o) hN G (ts:=[⟨[116,48],y52,.of B1 false false,.of B2 false false,.of B3 false false⟩]) ⟨b.h,b.rl,b.rr,b.bl,b.bg,b.ll,b.lg,b.ul,b.ug,b.sl,b.sg,by simp,by
   intro x hx;simp at hx;subst hx
   exact⟨rfl,⟨y520,y521⟩,C,b12,L,b22,M,b32⟩⟩ k3 hk3
  refine⟨c,g1,fun K=>?_⟩
  unfold HS MF
  rw[F,V,ct,U,hB1,hB2,hB3,Pu C.symm,Pu L.symm,Pu M.symm,←g2 K,←C]
  simp only[C]
  have e:List.flatMap TieD.av [⟨[116,48],y52,.of B1 false false,.of B2 false false,.of B3 false false⟩]=[(.str ([116,48]:List UInt8)),(.int .i64 y52),(.imm (B1.flatMap HC) H 1 false false),(.imm (B2.flatMap HC) H 1 false false),(.imm (B3.flatMap HC) H 1 false false)]:=by
   simp[TieD.av,Sl.av,C,L,M]
  rw[e];rfl
 ·have V:(y50==2)=false:=by simpa using h2
  obtain⟨c,g1,g2⟩:=A6h (R:=R) (o:=o) hN G b S D
  refine⟨c,g1,fun K=>?_⟩
  unfold HS MF
  rw[F,V,cf,←g2 K];rfl
theorem A6j {N:Nat} {l:List Int} {o:Bool} (hN:4096≤N) (C:l.length≤9223372036854775807) {H:Nat} {D:List Int} {bs:List BusD} {ls:List LineD} (h:1≤H∧H≤3) (rl:D.length=H) (rr:∀ x ∈ D,0≤x∧x<5) (bl:1≤bs.length∧bs.length≤4) (bg:∀ i (h:i<bs.length),BusG i H bs[i]) (ll:ls.length≤7) (lg:∀ i (h:i<ls.length),LineH bs.length i H ls[i]) :
  ∀ (n fuel k:Nat) (us:List UnitD),n<fuel→k≤l.length→us.length+n≤3→1≤us.length+n→(∀ i (h:i<us.length),UnitG i bs.length H us[i]) →
  ∃ c,tB c∧∀ K:LA→O R,Pm N K (bs.length:Int) (Av l) l.length o (H:Int) D.length bs.length (Av D) (bs.flatMap BusD.av) fuel (n:Int) (k:Int) ls.length us.length (ls.flatMap LineD.av) (us.flatMap UnitD.av)=K c.av
 | 0,fuel+1,k,us,_,hk,hn,hn1,ug=>by
  obtain⟨y34,I,y340,y341,F,G⟩:=nx (R:=R) (N:=N) (t:=false) (o:=o) C 3 (by omega) (by omega) k hk
  by_cases h2:y34=2
  ·have e2:(y34==2)=true:=by simpa using h2
   obtain⟨y36,k36,y360,y361,L,M⟩:=nx (R:=R) (N:=N) (t:=false) (o:=o) C (bs.length:Int) (by omega) (by omega) I F
   obtain⟨y38,k38,y380,y381,S,T⟩:=nx (R:=R) (N:=N) (t:=false) (o:=o) C 20 (by omega) (by omega) k36 L
   obtain⟨y40,k40,y400,y401,U,V⟩:=nx (R:=R) (N:=N) (t:=false) (o:=o) C 8 (by omega) (by omega) k38 S
   obtain⟨y42,k42,y420,y421,Y,hy42⟩:=nx (R:=R) (N:=N) (t:=false) (o:=o) C 8 (by omega) (by omega) k40 U
   obtain⟨y44,k44,y440,y441,hk44,hy44⟩:=nx (R:=R) (N:=N) (t:=false) (o:=o) C 4 (by omega) (by omega) k42 Y
   obtain⟨y46,k46,y460,y461,hk46,hy46⟩:=nx (R:=R) (N:=N) (t:=false) (o:=o) C (y38+1) (by omega) (by omega) k44 hk44
   obtain⟨y48,k48,y480,y481,hk48,hy48⟩:=nx (R:=R) (N:=N) (t:=false) (o:=o) C (y38+1) (by omega) (by omega) k46 hk46
   obtain⟨c,g1,g2⟩:=A6i (R:=R) (o:=o) hN C (us:=us) (ss:=[⟨[115,48],y36,y38,y46,y48,y40,y42,⟨1+y44,4⟩⟩]) ⟨h,rl,rr,bl,bg,ll,lg,⟨by omega,by omega⟩,ug,by simp,by
    intro x hx;simp at hx;subst hx
    exact⟨rfl,⟨y360,y361⟩,⟨y380,y381⟩,⟨y460,by simp only;omega⟩,⟨y480,by simp only;omega⟩,⟨y400,y401⟩,⟨y420,y421⟩,by simp only;omega,by simp only;omega,rfl⟩,by simp,by simp⟩ k48 hk48
   refine⟨c,g1,fun K=>?_⟩
   rw[Pm];unfold Zx
   rw[show decide (((0:Nat):Int)>0)=false from rfl,cf,G,e2,ct,M,T,V,hy42,hy44,Qx (a:=y38+1) (by omega),hy46,hy48,Qx (a:=1+y44) (by omega),←g2 K]
   rfl
  ·have e2:(y34==2)=false:=by simpa using h2
   obtain⟨c,g1,g2⟩:=A6i (R:=R) (o:=o) hN C (us:=us) (ss:=[]) ⟨h,rl,rr,bl,bg,ll,lg,⟨by omega,by omega⟩,ug,by simp,by simp,by simp,by simp⟩ I F
   refine⟨c,g1,fun K=>?_⟩
   rw[Pm];unfold Zx
   rw[show decide (((0:Nat):Int)>0)=false from rfl,cf,G,e2,cf,←g2 K]
   rfl
 | n+1,fuel+1,k,us,hf,hk,hn,hn1,ug=>by
  obtain⟨u,k1,gu,hk1,hu⟩:=A9w (R:=R) (N:=N) (t:=false) (o:=o) (by omega) C (i:=us.length) (by omega) (nb:=(bs.length:Int)) (H:=(H:Int)) (by omega) (by omega) k hk
  obtain⟨c,g1,g2⟩:=A6j (o:=o) hN C h rl rr bl bg ll lg n fuel k1 (us++[u]) (by omega) hk1 (by simp;omega) (by simp;omega) (gX (P:=fun i u=>UnitG i bs.length H u) ug gu)
  refine⟨c,g1,fun K=>?_⟩
  rw[Pm];unfold Zx
  have wn:IntKind.wrap .i64 (((n+1:Nat):Int) - 1)=(n:Int):=Ak4 (by omega)
  have c2:(Nat.ble (us.length+1) 140737488355328&&Nat.ble ((us.length+1)*216) 140737488355328)=true:=by rw[Fj,Fj];simp;omega
  have c3:List.take (us.length*22) (us.flatMap UnitD.av)++u.av=(us++[u]).flatMap UnitD.av:=by rw[Cn Qv _ rfl];simp
  rw[show decide (((n+1:Nat):Int)>0)=true from decide_eq_true (by omega),ct,hu,show((Nat.beq (List.length u.av) 22)&&(Nat.ble 22 22))=true from rfl,ct,c2,ct,wn,←g2 K,←c3,List.length_append]
  rfl
theorem Bdv {N:Nat} {l:List Int} {o:Bool} (hN:4096≤N) (L:l.length≤9223372036854775807) {H:Nat} {C:List Int} {bs:List BusD} (h:1≤H∧H≤3) (rl:C.length=H) (rr:∀ x ∈ C,0≤x∧x<5) (bl:1≤bs.length∧bs.length≤4) (bg:∀ i (h:i<bs.length),BusG i H bs[i]) :
  ∀ (n fuel k:Nat) (ls:List LineD),n<fuel→k≤l.length→ls.length+n≤7→(∀ i (h:i<ls.length),LineH bs.length i H ls[i]) →
  ∃ c,tB c∧∀ K:LA→O R,Pn N K (bs.length:Int) (Av l) l.length o (H:Int) C.length bs.length (Av C) (bs.flatMap BusD.av) fuel (n:Int) (k:Int) ls.length (ls.flatMap LineD.av)=K c.av:=by
 have fin:∀ (k:Nat) (ls:List LineD),k≤l.length→ls.length≤7→(∀ i (h:i<ls.length),LineH bs.length i H ls[i])→∃ c,tB c∧∀ K:LA→O R,(Ag N (3:Int) (Av l) l.length false o (k:Int) (fun y22 y23=>(Pm N K (bs.length:Int) (Av l) l.length o (H:Int) C.length bs.length (Av C) (bs.flatMap BusD.av) N (IntKind.wrap .i64 ((1:Int)+y22)) y23 ls.length 0 (ls.flatMap LineD.av) [])))=K c.av:=by
  intro k ls I ll lg
  obtain⟨y,V,y0,y1,D,hy⟩:=nx (R:=R) (N:=N) (t:=false) (o:=o) L 3 (by omega) (by omega) k I
  obtain⟨n,hn⟩:∃ n:Nat,1+y=(n:Int):=⟨(1+y).toNat,by omega⟩
  obtain⟨c,F,G⟩:=A6j (R:=R) (o:=o) hN L h rl rr bl bg ll lg n N V [] (by omega) D (by simp;omega) (by simp;omega) (by simp)
  refine⟨c,F,fun K=>?_⟩
  rw[hy,Qx (a:=1+y) (by omega),hn]
  simpa using G K
 intro n
 induction n with
 | zero =>
  intro fuel k ls hf I hn lg
  obtain⟨c,F,G⟩:=fin k ls I (by omega) lg
  refine⟨c,F,fun K=>?_⟩
  obtain⟨fuel,rfl⟩:∃ f,fuel=f+1:=⟨fuel - 1,by omega⟩
  rw[Pn];unfold Zy
  rw[show decide (((0:Nat):Int)>0)=false from rfl,←G K]
  rfl
 | succ n ih =>
  intro fuel k ls hf I hn lg
  obtain⟨fuel,rfl⟩:∃ f,fuel=f+1:=⟨fuel - 1,by omega⟩
  by_cases hb1:bs.length=1
  ·obtain⟨c,F,G⟩:=fin k ls I (by omega) lg
   refine⟨c,F,fun K=>?_⟩
   rw[Pn];unfold Zy
   rw[show decide (((n+1:Nat):Int)>0)=true from decide_eq_true (by omega),show decide ((bs.length:Int)>1)=false from decide_eq_false (by omega),←G K]
   rfl
  ·obtain⟨y26,Y,y260,y261,M,S⟩:=nx (R:=R) (N:=N) (t:=false) (o:=o) L (bs.length:Int) (by omega) (by omega) k I
   obtain⟨y28,k28,y280,y281,T,U⟩:=nx (R:=R) (N:=N) (t:=false) (o:=o) L ((bs.length:Int) - 1) (by omega) (by omega) Y M
   have tm:∃ to:Int,Int.tmod (y26+1+y28) (bs.length:Int)=to∧0≤to∧to<(bs.length:Int)∧y26≠to:=by
    refine⟨_,rfl,Int.tmod_nonneg _ (by omega),Int.tmod_lt_of_pos _ (by omega),?_⟩
    by_cases hlt:y26+1+y28<(bs.length:Int)
    ·rw[Int.tmod_eq_of_lt (by omega) hlt];omega
    ·have:Int.tmod (y26+1+y28) (bs.length:Int)=y26+1+y28 - (bs.length:Int):=by
      have e:y26+1+y28=(y26+1+y28 - (bs.length:Int))+1*(bs.length:Int):=by omega
      rw[Int.tmod_eq_emod_of_nonneg (by omega)]
      conv=>lhs;rw[e]
      rw[Int.add_mul_emod_self_right,Int.emod_eq_of_lt (by omega) (by omega)]
     rw[this];omega
   obtain⟨to,ht,t0,t1,tne⟩:=tm
   obtain⟨x,V,gx,D,hx⟩:=Arq (R:=R) (N:=N) (t:=false) (o:=o) L (i:=ls.length) (by omega) y26 to (H:=(H:Int)) (by omega) k28 T
   obtain⟨c,F,G⟩:=ih fuel V (ls++[x]) (by omega) D (by simp;omega) (gX (P:=fun i x=>LineH bs.length i H x) lg ⟨by rw[gx.fr,gx.to];exact gx,by rw[gx.fr];exact⟨y260,y261⟩,by rw[gx.to];exact⟨t0,t1⟩,by rw[gx.fr,gx.to];exact tne⟩)
   refine⟨c,F,fun K=>?_⟩
   rw[Pn];unfold Zy WF
   have wn:IntKind.wrap .i64 (((n+1:Nat):Int) - 1)=(n:Int):=Ak4 (by omega)
   have c2:(Nat.ble (ls.length+1) 140737488355328&&Nat.ble ((ls.length+1)*120) 140737488355328)=true:=by rw[Fj,Fj];simp;omega
   have c3:List.take (ls.length*12) (ls.flatMap LineD.av)++x.av=(ls++[x]).flatMap LineD.av:=by rw[Cn Hw _ rfl];simp
   rw[show decide (((n+1:Nat):Int)>0)=true from decide_eq_true (by omega),show decide ((bs.length:Int)>1)=true from decide_eq_true (by omega)]
   simp only[beq_self_eq_true,cond_true]
   rw[S,Qx (a:=(bs.length:Int) - 1) (by omega),U,show((bs.length:Int)==0)=false from beq_eq_false_iff_ne.2 (by omega),cf,Qx (a:=y26+1) (by omega),Qx (a:=y26+1+y28) (by omega),ht,hx,show((Nat.beq (List.length x.av) 12)&&(Nat.ble 12 12))=true from rfl,ct,c2,ct,wn,←G K,←c3,List.length_append]
   rfl
theorem A6k {N:Nat} {l:List Int} {o:Bool} (hN:4096≤N) (F:l.length≤9223372036854775807) {H:Nat} {C:List Int} {bs:List BusD} (h:1≤H∧H≤3) (rl:C.length=H) (rr:∀ x ∈ C,0≤x∧x<5) (bl:1≤bs.length∧bs.length≤4) (bg:∀ i (h:i<bs.length),BusG i H bs[i]) :
  ∀ (m j fuel k:Nat) (ls:List LineD),j+1+m=bs.length→m<fuel→k≤l.length→ls.length=j→(∀ i (h:i<ls.length),LineH bs.length i H ls[i]) →
  ∃ c,tB c∧∀ K:LA→O R,Xn N K (Av l) l.length o (H:Int) C.length bs.length (Av C) (bs.flatMap BusD.av) fuel (bs.length:Int) ((j+1:Nat):Int) (k:Int) ls.length (ls.flatMap LineD.av)=K c.av
 | 0,j,fuel+1,k,ls,V,_,I,G,lg=>by
  obtain⟨y,L,y0,y1,D,M⟩:=nx (R:=R) (N:=N) (t:=false) (o:=o) F 5 (by omega) (by omega) k I
  obtain⟨n,hn⟩:∃ n:Nat,y=(n:Int):=⟨y.toNat,by omega⟩
  subst hn
  obtain⟨c,S,T⟩:=Bdv (R:=R) (o:=o) hN F h rl rr bl bg n N L ls (by omega) D (by omega) lg
  refine⟨c,S,fun K=>?_⟩
  rw[Xn];unfold MG
  rw[Lm (by omega),cf,M];exact T K
 | m+1,j,fuel+1,k,ls,V,hf,I,G,lg=>by
  obtain⟨y,L,y0,y1,D,M⟩:=nx (R:=R) (N:=N) (t:=false) (o:=o) F ((j+1:Nat):Int) (by omega) (by omega) k I
  obtain⟨x,Y,gx,U,hx⟩:=Arq (R:=R) (N:=N) (t:=false) (o:=o) F (i:=ls.length) (by omega) y ((j+1:Nat):Int) (H:=(H:Int)) (by omega) L D
  obtain⟨c,S,T⟩:=A6k (o:=o) hN F h rl rr bl bg m (j+1) fuel Y (ls++[x]) (by omega) (by omega) U (by simp[G]) (gX (P:=fun i x=>LineH bs.length i H x) lg ⟨by rw[gx.fr,gx.to];exact gx,by rw[gx.fr];omega,by rw[gx.to];omega,by rw[gx.fr,gx.to];omega⟩)
  refine⟨c,S,fun K=>?_⟩
  rw[Xn];unfold MG
  have c2:(Nat.ble (ls.length+1) 140737488355328&&Nat.ble ((ls.length+1)*120) 140737488355328)=true:=by rw[Fj,Fj];simp;omega
  have c3:List.take (ls.length*12) (ls.flatMap LineD.av)++x.av=(ls++[x]).flatMap LineD.av:=by rw[Cn Hw _ rfl];simp
  rw[Jy (by omega),ct,M,hx,show((Nat.beq (List.length x.av) 12)&&(Nat.ble 12 12))=true from rfl,ct,c2,ct,Fr (by omega),←T K,←c3,List.length_append]
  rfl
theorem A6l {N:Nat} {l:List Int} {o:Bool} (hN:4096≤N) (L:l.length≤9223372036854775807) {H:Nat} {C:List Int} (h:1≤H∧H≤3) (rl:C.length=H) (rr:∀ x ∈ C,0≤x∧x<5) :
  ∀ (n fuel k:Nat) (bs:List BusD),n<fuel→k≤l.length→bs.length+n≤4→1≤bs.length+n→(∀ i (h:i<bs.length),BusG i H bs[i]) →
  ∃ c,tB c∧∀ K:LA→O R,Mw N K (Av l) l.length o C.length (Av C) fuel (n:Int) (k:Int) (H:Int) bs.length (bs.flatMap BusD.av)=K c.av
 | 0,fuel+1,k,bs,_,V,hn,Y,bg=>by
  obtain⟨c,G,I⟩:=A6k (R:=R) (o:=o) hN L h rl rr ⟨by omega,by omega⟩ bg (bs.length - 1) 0 N k [] (by omega) (by omega) V rfl (by simp)
  refine⟨c,G,fun K=>?_⟩
  rw[Mw];unfold Zz
  rw[show decide (((0:Nat):Int)>0)=false from rfl,cf,←I K]
  rfl
 | n+1,fuel+1,k,bs,hf,V,hn,Y,bg=>by
  obtain⟨B,k1,U,b2,hk1,hB⟩:=IK (R:=R) (N:=N) (m:=H) (t:=false) (o:=o) (by omega) L 14 (by omega) (by omega) (by omega) k V
  obtain⟨y12,M,y120,y121,D,F⟩:=nx (R:=R) (N:=N) (t:=false) (o:=o) L 2 (by omega) (by omega) k1 hk1
  have wn:IntKind.wrap .i64 (((n+1:Nat):Int) - 1)=(n:Int):=Ak4 (by omega)
  have c2:(Nat.ble (bs.length+1) 140737488355328&&Nat.ble ((bs.length+1)*48) 140737488355328)=true:=by rw[Fj,Fj];simp;omega
  have c3:∀ s:Int,List.take (bs.length*3) (bs.flatMap BusD.av)++[(.str [98,Bhp.getD bs.length 0]),(.imm (B.flatMap HC) H 1 false false),(.int .i64 s)]=(bs++[(⟨[98,Bhp.getD bs.length 0],.of B false false,s⟩:BusD)]).flatMap BusD.av:=fun s=>by
   rw[Cn SR _ rfl];simp[BusD.av,Sl.av,U]
  have go:∀ (s:Int) (kk:Nat),0≤s→s<300→kk≤l.length→∃ c,tB c∧∀ K:LA→O R,Mw N K (Av l) l.length o C.length (Av C) fuel (n:Int) (kk:Int) (H:Int) (bs.length+1) (List.take (bs.length*3) (bs.flatMap BusD.av)++[(.str [98,Bhp.getD bs.length 0]),(.imm (B.flatMap HC) H 1 false false),(.int .i64 s)])=K c.av:=by
   intro s kk s0 s1 hkk
   have gb:BusG bs.length H (⟨[98,Bhp.getD bs.length 0],.of B false false,s⟩:BusD):=⟨rfl,U,b2,s0,s1⟩
   obtain⟨c,G,I⟩:=A6l (o:=o) hN L h rl rr n fuel kk (bs++[(⟨[98,Bhp.getD bs.length 0],.of B false false,s⟩:BusD)]) (by omega) hkk (by simp;omega) (by simp;omega) (gX (P:=fun i x=>BusG i H x) bg gb)
   refine⟨c,G,fun K=>?_⟩
   rw[c3,←I K,List.length_append]
   rfl
  by_cases h1:y12=1
  ·have e1:(y12==1)=true:=by simpa using h1
   obtain⟨y14,k14,y140,y141,S,T⟩:=nx (R:=R) (N:=N) (t:=false) (o:=o) L 200 (by omega) (by omega) M D
   obtain⟨c,G,I⟩:=go (100+y14) k14 (by omega) (by omega) S
   refine⟨c,G,fun K=>?_⟩
   rw[Mw];unfold Zz
   rw[show decide (((n+1:Nat):Int)>0)=true from decide_eq_true (by omega),ct,Uc (by omega),hB,F,e1,ct,T,c2,ct,wn,Qx (a:=100+y14) (by omega),Pu U.symm,I]
  ·have e1:(y12==1)=false:=by simpa using h1
   obtain⟨c,G,I⟩:=go 0 M (by omega) (by omega) D
   refine⟨c,G,fun K=>?_⟩
   rw[Mw];unfold Zz
   rw[show decide (((n+1:Nat):Int)>0)=true from decide_eq_true (by omega),ct,Uc (by omega),hB,F,e1,cf,c2,ct,wn,Pu U.symm,I]
theorem Av9 {N:Nat} {l:List Int} {n:Nat} {t o:Bool} (hn:n=l.length) (hN:4096≤N) (k:l.length≤9223372036854775807):∃ c,tB c∧∀ K:LA→O R,iQ N (Av l) n t o K=K c.av:=by
 subst hn
 obtain⟨y1,M,y10,y11,C,D⟩:=nx (R:=R) (N:=N) (t:=false) (o:=o) k 3 (by omega) (by omega) 0 (by omega)
 obtain⟨H,hH⟩:∃ H:Nat,1+y1=(H:Int):=⟨(1+y1).toNat,by omega⟩
 obtain⟨B,S,L,T,F,hB⟩:=IK (R:=R) (N:=N) (m:=H) (t:=false) (o:=o) (by omega) k 5 (by omega) (by omega) (by omega) M C
 obtain⟨y6,U,y60,y61,G,I⟩:=nx (R:=R) (N:=N) (t:=false) (o:=o) k 4 (by omega) (by omega) S F
 obtain⟨m,V⟩:∃ m:Nat,1+y6=(m:Int):=⟨(1+y6).toNat,by omega⟩
 obtain⟨c,Y,g2⟩:=A6l (R:=R) (o:=o) hN k (H:=H) (by omega) L T m N U [] (by omega) G (by simp;omega) (by simp;omega) (by simp)
 refine⟨c,Y,fun K=>?_⟩
 rw[ym];unfold ro
 rw[Aja];unfold Auf
 have z:Ag N 3 (Av l) l.length false o 0=Ag (R:=R) N 3 (Av l) l.length false o ((0:Nat):Int):=rfl
 rw[z,D,Qx (a:=1+y1) (by omega),hH,hB,I,Qx (a:=1+y6) (by omega),V,←g2 K,L]
 rfl
end
end Gx.Cf

namespace Gx
open Go Go.Proofs
section
variable {R:Type}
def Bdw (s:Cf.SegD):SegD:=⟨s.width,s.price⟩
def gY:Cf.Sl Cf.SegD→Sl SegD
 | .nil=>.nil
 | .of l t o=>.of (l.map Bdw) t o
def v9:Cf.Sl Int→Sl Int
 | .nil=>.nil
 | .of l t o=>.of l t o
def A94 (u:Cf.UnitD):UnitD:=⟨u.name,u.bus,u.min,u.max,gY u.segs,u.noLoad,u.rampUp,u.rampDown,u.startRamp,u.stopRamp,u.upTime,u.downTime,u.startTime,u.hotCost,u.coldCost,u.hotHours,u.reserve,u.reservePrice,v9 u.away,u.state,u.hours,u.output⟩
theorem A01:∀ l:List Cf.SegD,(l.map Bdw).flatMap SegD.av=l.flatMap Cf.SegD.av
 | []=>rfl
 | a::r=>by rw[List.map_cons,List.flatMap_cons,List.flatMap_cons,A01 r];rfl
theorem A9y (s:Cf.Sl Cf.SegD):(gY s).av 2 SegD.av=s.av 2 Cf.SegD.av:=by
 cases s with
 | nil=>rfl
 | of l t o=>simp only[gY,Sl.av,Cf.Sl.av,A01,List.length_map]
theorem A9z (s:Cf.Sl Int):(v9 s).av 1 HC=s.av 1 Cf.HC:=by cases s<;>rfl
theorem Bfw (u:Cf.UnitD):(A94 u).av=u.av:=by
 unfold UnitD.av Cf.UnitD.av
 rw[show(A94 u).segs=gY u.segs from rfl,show(A94 u).away=v9 u.away from rfl,A9y,A9z];rfl
theorem Ali (s:Cf.Sl Cf.SegD):(gY s).l=s.l.map Bdw:=by cases s<;>rfl
theorem A02 (s:Cf.Sl Int):(v9 s).l=s.l:=by cases s<;>rfl
theorem tC (a b n:Int):Cf.Fs a b n=Fq a b n:=by
 rw[Bool.eq_iff_iff];simp[Cf.Fs,Fq]<;>omega
theorem Arv:∀ (l:List Cf.SegD) (p:Int),l.all Cf.Gq=true→Cf.gR l=true→(∀ s ∈ l.head?,p≤s.price)→Gq p (l.map Bdw)=true
 | [],_,_,_,_=>rfl
 | [a],p,k,_,C=>by
  simp[Cf.Gq,tC] at k
  have:=C a (by simp)
  simp[Gq,Bdw,k,this]
 | a::b::r,p,k,D,C=>by
  have G:=C a (by simp)
  simp only[List.all_cons,Bool.and_eq_true] at k
  simp only[Cf.gR,Bool.and_eq_true] at D
  have I:=Arv (b::r) a.price (by simp only[List.all_cons,Bool.and_eq_true];exact k.2) D.2 (by intro s hs;simp at hs;subst hs;have:=D.1;simp at this;exact this)
  have F:=k.1
  simp[Cf.Gq,tC] at F
  rw[List.map_cons,Gq,show(Bdw a).price=a.price from rfl,I]
  simp[Bdw,F,G]
theorem Arw:∀ (l:List Cf.SegD) (a:Int),l.all Cf.Gq=true→l.length≤100→-1000000000000≤a - 1048576*(100 - (l.length:Int))→(0≤a∧a≤1048576*(100 - (l.length:Int)))→Cf.WY a l=a+bL (l.map Bdw)
 | [],a,_,_,_,_=>by simp[Cf.WY,bL]
 | s::r,a,k,C,D,F=>by
  simp only[List.all_cons,Bool.and_eq_true] at k
  have G:=k.1
  simp[Cf.Gq,tC,Fq] at G
  rw[List.length_cons] at C D F
  rw[Cf.WY,i64 (by omega),Arw r (a+s.width) k.2 (by omega) (by omega) (by omega),List.map_cons,bL]
  simp[Bdw];omega
theorem Alj {i:Nat} {nb H c:Int} {u:Cf.UnitD} (g:Cf.UnitG i nb H u) (hH:1≤H∧H≤c) (hc:c≤24):De (A94 u) c=true:=by
 have e:=g
 obtain⟨_,_,h1,h2,h3,h4,h5,h6,h7,h8,h9,C,D,F,G,I,L,M,S,T,U,h20,h21,V,_,Y,h25,k⟩:=e
 simp only[tC] at h1 h2 h7 h8 h9 C D F G I L M S T U V Y k
 have hw:=Arw u.segs.l 0 h4 (by omega) (by omega) (by omega)
 have hm1:=h1;have hm2:=h2
 simp only[Fq,Bool.and_eq_true,decide_eq_true_eq] at hm1 hm2
 have hsum:bL (A94 u).segs.l=u.max - u.min:=by
  have:Cf.WY 0 u.segs.l=IntKind.wrap .i64 (u.max - u.min):=by simpa using h6
  rw[hw,i64 (by omega)] at this
  show bL (gY u.segs).l=_
  rw[Ali];omega
 have hseg:Gq (-1048576) (A94 u).segs.l=true:=by
  show Gq _ (gY u.segs).l=true
  rw[Ali]
  refine Arv _ _ h4 h5 fun s hs=>?_
  have hs':s ∈ u.segs.l:=List.mem_of_mem_head? hs
  have:=List.all_eq_true.1 h4 s hs'
  simp[Cf.Gq,tC,Fq] at this;omega
 have hlen:(A94 u).segs.l.length≤8:=by
  show(gY u.segs).l.length≤8
  rw[Ali,List.length_map];omega
 have haw:AN (c - 1) (-1) (A94 u).away.l=true:=by
  show AN _ _ (v9 u.away).l=true
  rw[A02]
  cases hl:u.away.l with
  | nil=>rfl
  | cons x r =>
   have hr:r=[]:=by
    have:=h20;rw[hl] at this;simp at this;exact this
   subst hr
   have:=h21 x (by rw[hl];simp)
   simp[AN,Fq];omega
 have hst:Cw (A94 u)=true:=by
  unfold Cw
  show(Fq 0 24 u.upTime&&(Fq 0 24 u.downTime&&(Fq 0 24 u.startTime&&(Fq 0 24 u.hotHours&&((u.state==0||(u.state==1||u.state==2))&&(Fq 1 48 u.hours&&(!(u.state==1)||decide (u.hours≤u.startTime))))))))=true
  have hs3:(u.state==0||(u.state==1||u.state==2))=true:=by
   simp only[Fq,Bool.and_eq_true,decide_eq_true_eq] at V
   simp;omega
  rw[F,G,I,S,Y,hs3]
  exact h25
 have hsB:lG (A94 u)=true:=by
  unfold lG;rw[hseg,hsum];simp[hlen];rfl
 have hoB:A3g (A94 u)=true:=by
  unfold A3g
  show cond (u.state==2) (Fq u.min u.max u.output) (u.output==0)=true
  cases hb:(u.state==2) with
  | true=>rw[hb] at k;exact k
  | false=>rw[hb] at k;simp[Fq] at k;simp;omega
 have hmx:Fq 0 1048576 u.max=true:=by simp[Fq];omega
 have hle:decide (u.min≤u.max)=true:=by simp;omega
 have hcc:Fq 1 24 c=true:=by simp[Fq];omega
 unfold De
 rw[hst,haw,hsB,hoB]
 show(Fq 1 24 c&&(true&&(Fq 0 1048576 u.min&&(Fq 0 1048576 u.max&&(Fq 0 1048576 u.rampUp&&(Fq 0 1048576 u.rampDown&&(Fq 0 1048576 u.reserve&&(decide (u.min≤u.max)&&(Fq u.min u.max u.startRamp&&(Fq u.min u.max u.stopRamp&&(Fq 0 1048576 u.noLoad&&(Fq 0 1048576 u.hotCost&&(Fq 0 1048576 u.coldCost&&(Fq 0 1048576 u.reservePrice&&(true&&(true&&true))))))))))))))))=true
 rw[hcc,h1,hmx,h8,h9,T,hle,C,D,h7,L,M,U];rfl
theorem A4w {N:Nat} {X:O R} {K:LA→Int→O R} {l:List Int} {n:Nat} {t o:Bool} (hn:n=l.length) (hN:4096≤N) (D:l.length≤9223372036854775807)
  (h:∀ (u:UnitD) (H:Int),1≤H→H≤3→De u H=true→De u 24=true→u.away.l.length≤1→K u.av H=X):rt N (Av l) n t o K=X:=by
 rw[yp];unfold Aj7
 obtain⟨c,G,e⟩:=Cf.Av9 (R:=R) (N:=N) (l:=l) (n:=n) (t:=false) (o:=o) hn hN D
 rw[show Av l=Cf.Av l from rfl,e]
 obtain⟨H,C,bs,ls,us,ss,ts,os,hB,_,_,rfl⟩:=G
 obtain⟨u0,k,rfl⟩:∃ u0 k,us=u0::k:=by
  cases us with
  | nil=>have:=hB.ul;simp at this
  | cons a r=>exact⟨a,r,rfl⟩
 have g:=hB.ug 0 (by simp)
 simp only[List.getElem_cons_zero] at g
 have hH:=hB.h
 have:=h (A94 u0) (H:Int) (by omega) (by omega) (Alj g (by omega) (by omega)) (Alj g (by omega) (by omega)) (by show(v9 u0.away).l.length≤1;rw[A02];exact g.aw)
 rw[Bfw] at this
 refine Eq.trans ?_ this
 rw[show List.drop 4 (Cf.Aoe false H C bs ls (u0::k) ss ts os).av=(Cf.Sl.of (u0::k) false false).av 22 Cf.UnitD.av::List.drop 5 (Cf.Aoe false H C bs ls (u0::k) ss ts os).av from rfl,Cf.H8]
 rw[show(Cf.Sl.of (u0::k) false false).l=u0::k from rfl,List.flatMap_cons,show Ac (0:Int) (u0::k).length=true from Aa (i:=0) (by simp),show Nat.ble 22 (List.length (u0.av++k.flatMap Cf.UnitD.av))=true from rfl,show List.take 22 (u0.av++k.flatMap Cf.UnitD.av)=u0.av from rfl]
 rw[show ∀ F:Int→O R,An .i64 (Cf.Aoe false H C bs ls (u0::k) ss ts os).av F=F (H:Int) from fun F=>A4]
 rfl
end
end Gx

namespace Gx
open Go Go.Proofs
set_option maxRecDepth 100000
section
variable {R:Type}
def Bcb (ks A B:List Int):PlanD:=Bg8 ks (A.map rq) (B.map rq) false false false
theorem Bcc {ks A B:List Int} {n:Nat} (k:n=ks.length) (C:A.length=n) (D:B.length=n):[AV.imm (Av ks) n 1 false false,.imm (vU A) n 3 false false,.imm (vU B) n 3 false false]=(Bcb ks A B).av:=by
 unfold Bcb;rw[←Bfq,List.length_map,List.length_map,C,D,k];rfl
theorem Bdx (p:PlanD):((Nat.beq 0 0)&&((Nat.beq (List.length p.av) 3)&&(Nat.beq 3 3)))=true:=rfl
theorem Bdy {N:Nat} {X:O R} {K:LA→Bool→O R} {u:UnitD} {raw:List Int} {h:Int} {n:Nat} {b g f:Bool} (hn:n=raw.length) (k:u.away.l.length≤1000) (hN:4096≤N) (hs:Cw u=true) (C:0≤h∧h≤1000)
  (D:K (Bcb [] [] []).av false=X) (F:∀ ks A B,ks.length≤1000→ny u h ks=0→GdA u ks ks.length ks.length A B→K (Bcb ks A B).av true=X):gP N u.av b h (Av raw) n g f K=X:=by
 rw[sn];unfold vR
 rw[Du,ct,B7]
 refine A9o hn k (by omega) hs C fun ks I=>?_
 rw[ct]
 refine Aoc hn rfl k (by omega) hN (fun _=>?_) (fun G A B g=>?_)
 ·rw[show [AV.imm [] 0 1 false false,.imm [] 0 3 false false,.imm [] 0 3 false false]=(Bcb [] [] []).av from Bcc (ks:=[]) (A:=[]) (B:=[]) rfl rfl rfl,Bdx,ct,Bgq,ct,Bgr]
  exact D
 ·rw[Bcc rfl g.1 g.2.1,Bdx,ct,Bgq,ct,Bgr]
  exact F ks A B (by omega) G g
theorem A4x {N:Nat} {c f:LA} {a b:Nat} {d e g i:Bool} {K:Bool→O R}:gH N c a d e f b g i K=K (decide (a≤200)&&decide (b≤200)):=by
 rw[s5];unfold vP
 have e1:decide (((a:Nat):Int)≤200)=decide (a≤200):=by rw[decide_eq_decide];omega
 have k:decide (((b:Nat):Int)≤200)=decide (b≤200):=by rw[decide_eq_decide];omega
 rw[e1,k]
 cases decide (a≤200)<;>cases decide (b≤200)<;>rfl
end
end Gx

namespace Gx
open Go Go.Proofs
set_option maxRecDepth 100000
theorem Bfx (v:Int):(rq v).q=(v:Rat):=Aiy _
theorem Beq (a b:Int):decide ((a:Rat)≤(b:Rat))=decide (a≤b):=by rw[decide_eq_decide];exact Rat.intCast_le_intCast
section
variable {u:UnitD} {ks:List Int} {n:Nat} {A B:List Int}
theorem A4y {on:Bool} {p r:Int} (k:on=true→u.min≤p∧0≤r∧r≤u.reserve∧p+r≤u.max) (C:on=false→p=0∧r=0):np u on (p:Rat) (r:Rat)=true:=by
 unfold np Bbm
 cases on with
 | true =>
  obtain⟨a,b,c,d⟩:=k rfl
  rw[cond_true,←Rat.intCast_add,Beq,Beq,Beq,Beq,decide_eq_true a,decide_eq_true b,decide_eq_true c,decide_eq_true d];rfl
 | false=>obtain⟨rfl,rfl⟩:=C rfl;rfl
theorem A90 {was on:Bool} {v p r:Int} (k:on=true→was=true→p+r - v≤u.rampUp∧v - p≤u.rampDown) (C:on=true→was=false→p+r≤u.startRamp) (D:on=false→was=true→v≤u.stopRamp):Akr u was on (v:Rat) (p:Rat) (r:Rat)=true:=by
 unfold Akr
 rw[←Rat.intCast_add,←Rat.intCast_sub,←Rat.intCast_sub,Beq,Beq,Beq,Beq]
 cases on with
 | true =>
  cases was with
  | true=>obtain⟨a,b⟩:=k rfl rfl;rw[decide_eq_true a,decide_eq_true b];rfl
  | false=>have a:=C rfl rfl;rw[decide_eq_true a];rfl
 | false =>
  cases was with
  | true=>have a:=D rfl rfl;rw[decide_eq_true a];rfl
  | false=>rfl
theorem A6m {h:Int} (k:ny u h ks=0):De u h=true∧(ks.length:Int)=h∧(Dz u 0 (Cz u) ks).2=true∧(u.state=2→Ed ks 0=false→u.output≤u.stopRamp)∧N4 u ks ks.length=false:=by
 unfold ny at k
 cases F:De u h with
 | false=>rw[F] at k;simp at k
 | true =>
  rw[F] at k
  simp only[Bool.not_true,cond_false] at k
  cases C:((ks.length:Int) != h) with
  | true=>rw[C] at k;simp at k
  | false =>
   rw[C] at k
   cases G:(Dz u 0 (Cz u) ks).2 with
   | false=>rw[G] at k;simp at k
   | true =>
    rw[G] at k
    cases D:((u.state==2&&!Ed ks 0)&&decide (u.output>u.stopRamp)) with
    | true=>rw[D] at k;simp at k
    | false =>
     rw[D] at k
     cases I:N4 u ks ks.length with
     | true=>rw[I] at k;simp at k
     | false =>
      refine⟨rfl,by simpa using C,rfl,fun L M=>?_,rfl⟩
      rw[show(u.state==2)=true by simpa using L,M] at D
      simp at D;exact D
theorem WX {l:List Int} {h:Nat} (k:h<l.length):l.getD h 0=l[h]:=by rw[List.getD_eq_getElem?_getD,List.getElem?_eq_getElem k];rfl
theorem A03 {H:Int} {EN RE:List RatD} (M:ny u H ks=0) (hn:n=ks.length) (g:GdA u ks n n A B) (hE:EN.length=n) (hR:RE.length=n) (qE:∀ i (h:i<EN.length),EN[i].q=((A.getD i 0:Int):Rat)) (qR:∀ i (h:i<RE.length),RE[i].q=((B.getD i 0:Int):Rat)):∀ (m h:Nat) (s:StD),h+m=n→(Dz u h s (ks.drop h)).2=true→A56 u h s (Rz u ks h) (A0q u A h:Rat) (ks.drop h) (EN.drop h) (RE.drop h)=((n:Int),0)
 | 0,h,s,Y,_=>by
  rw[Es (l:=ks) (by omega),A56,show n=h by omega]
  intro k ks e es r rs I;cases I
 | m+1,h,s,Y,F=>by
  obtain⟨hv,S,_,L,hf⟩:=A6m M
  have ok:=sq hv
  rw[←hn] at hf
  have I:h<ks.length:=by omega
  have T:h<EN.length:=by omega
  have U:h<RE.length:=by omega
  have gd:=g.2.2 h (by omega)
  have r3:=Avo (ks:=ks) ok h
  have r1:=Avp (ks:=ks) (n:=n) ok (n - 1 - h) h (by omega)
  have r2:=Az6 (ks:=ks) (n:=n) ok h
  rw[Ci I] at F ⊢
  rw[Ci T,Ci U,A56]
  rw[Dz] at F
  cases hs:Wl u h s ks[h] with
  | none=>rw[hs] at F;simp at F
  | some t =>
   rw[hs] at F
   dsimp only at F ⊢
   rw[qE h T,qR h U,←Qq I]
   rw[A4y (fun D=>by have:=gd.on D;have:=r3.2.2.2.2 D;omega) (fun D=>gd.off D),cond_true]
   rw[A90 (fun D C=>gd.was D C) (fun D C=>gd.st D C) (fun D C=>by
    cases h with
    | zero=>exact L (by simpa[Rz] using C) D
    | succ q =>
     have G:Ed ks q=true:=C
     have g1:=(g.2.2 q (by omega)).on G
     have V:=Avp (ks:=ks) (n:=n) ok (n - 1 - q) q (by omega)
     have e:IA u ks n q=⟨(gF u ks q).lo,Bv (gF u ks q).hi u.stopRamp⟩:=by unfold IA;rw[G,D,show decide (q+1<n)=true by simp;omega];rfl
     rw[e] at V
     simp only[Jq] at V
     show A.getD q 0≤_
     omega),cond_true]
   exact A03 M hn g hE hR qE qR m (h+1) t (by omega) (by exact F)
theorem Bfy {H:Int} {p:PlanD} (C:ny u H ks=0) (g:GdA u ks ks.length ks.length A B) (D:p.st.l=ks) (hE:p.en.l.length=ks.length) (hR:p.re.l.length=ks.length) (qE:∀ i (h:i<p.en.l.length),p.en.l[i].q=((A.getD i 0:Int):Rat)) (qR:∀ i (h:i<p.re.l.length),p.re.l[i].q=((B.getD i 0:Int):Rat)):vT u H p=(H,0):=by
 obtain⟨F,k,G,_,_⟩:=A6m C
 unfold vT Akw
 rw[F,D,hE,hR,decide_eq_true k]
 have:=A03 (n:=ks.length) C rfl g hE hR qE qR ks.length 0 (Cz u) (by omega) (by simpa using G)
 simp only[List.drop_zero] at this
 rw[k] at this
 exact this
theorem Bdz {H:Int} (k:ny u H ks=0) (g:GdA u ks ks.length ks.length A B):vT u H (Bcb ks A B)=(H,0) :=
 Bfy k g rfl (by show(A.map rq).length=_;rw[List.length_map,g.1]) (by show(B.map rq).length=_;rw[List.length_map,g.2.1])
  (fun i h=>by
   have h':i<A.length:=by simpa[Bcb,Bg8,Sl.l] using h
   rw[WX h']
   show((A.map rq)[i]'(by simpa using h')).q=_
   rw[List.getElem_map,Bfx])
  (fun i h=>by
   have h':i<B.length:=by simpa[Bcb,Bg8,Sl.l] using h
   rw[WX h']
   show((B.map rq)[i]'(by simpa using h')).q=_
   rw[List.getElem_map,Bfx])
theorem Bd0 {H:Int} (G:ny u H ks=0) (g:GdA u ks ks.length ks.length A B):okR (Bcb ks A B).en.l∧okR (Bcb ks A B).re.l:=by
 obtain⟨C,D,_,_,_⟩:=A6m G
 have ok:=sq C
 have F:=(Yu C).2.1
 have key:∀ (l:List Int),(∀ x ∈ l,0≤x∧x≤1048576)→okR (l.map rq):=by
  intro l I x k
  obtain⟨v,C,rfl⟩:=List.mem_map.1 k
  have:=I v C
  rw[Bfx];exact Bgw (by omega)
 constructor
 ·refine key A fun x k=>?_
  obtain⟨i,hi,rfl⟩:=List.getElem_of_mem k
  have:=g.1
  have:=((g.2.2 i (by omega)).rng ok F (by omega)).1
  rwa [WX hi] at this
 ·refine key B fun x k=>?_
  obtain⟨i,hi,rfl⟩:=List.getElem_of_mem k
  have:=g.2.1
  have:=((g.2.2 i (by omega)).rng ok F (by omega)).2
  rwa [WX hi] at this
end
end Gx

namespace Gx
open Go Go.Proofs
open IntKind (wrap)
set_option maxRecDepth 100000
noncomputable section
variable {R:Type} (N:Nat)
def Ge (r0:Bool→O R) (b:LA) (c:Nat) (i f:Bool) (d:LA) (e:Nat) (l g:Bool) (p:Int) (m o:LA) (k2:Nat→Nat→Int→LA→LA→O R) (w x:Nat) (y:Int) (ab ac:LA):O R :=
 (cond (decide (y<p)) (cond (Ac y c) (cond (Nat.ble 3 ((b.drop ((y.toNat)*3)).length)) (cond (Ac y e) (cond (Nat.ble 3 ((d.drop ((y.toNat)*3)).length)) (X4 N ((b.drop ((y.toNat)*3)).take 3) f ((d.drop ((y.toNat)*3)).take 3) g (fun ai=>(cond ((Nat.beq (ai.length) 3)&&(Nat.ble 3 3)) (cond ((Nat.ble (w+1) 140737488355328)&&(Nat.ble ((w+1)*56) 140737488355328)) (OQ N (fun aj=>(cond ((Nat.beq (aj.length) 3)&&(Nat.ble 3 3)) (cond ((Nat.ble (x+1) 140737488355328)&&(Nat.ble ((x+1)*56) 140737488355328)) (k2 (w+1) (x+1) (wrap .i64 (y+1)) ((ab.take (w*3))++((setCells [(.bool false),.nsl,.nsl] 0 ai).take 3)) ((ac.take (x*3))++((setCells [(.bool false),.nsl,.nsl] 0 aj).take 3))) none) none))) none) none))) none) none) none) none) (cond (Nat.ble 22 (m.length)) (cond (Nat.ble 3 (o.length)) (Ny N (m.take 22) false p (o.take 3) false b c false f d e false g (fun ae ak=>(cond ((Nat.beq 0 0)&&((Nat.beq (ae.length) 3)&&(Nat.beq 3 3))) (cond (Nat.ble 22 (m.length)) (cond (Nat.ble 3 (o.length)) (Ny N (m.take 22) false p (o.take 3) false d e false g b c false f (fun af al=>(cond ((Nat.beq 0 0)&&((Nat.beq (af.length) 3)&&(Nat.beq 3 3))) (cond (Nat.ble 22 (m.length)) (cond (Nat.ble 3 (o.length)) (Ny N (m.take 22) false p (o.take 3) false (ab.take (w*3)) w false true (ab.take (w*3)) w false true (fun ag am=>(cond ((Nat.beq 0 0)&&((Nat.beq (ag.length) 3)&&(Nat.beq 3 3))) (cond (Nat.ble 22 (m.length)) (cond (Nat.ble 3 (o.length)) (Ny N (m.take 22) false p (o.take 3) false (ac.take (x*3)) x false true (ac.take (x*3)) x false true (fun ad an=>(cond ((Nat.beq 0 0)&&((Nat.beq (ad.length) 3)&&(Nat.beq 3 3))) (cond (Nat.ble 22 (m.length)) (cond (Nat.ble 3 (o.length)) (WQ N (m.take 22) false p (o.take 3) false (fun ah ao=>(cond ((Nat.beq 0 0)&&((Nat.beq (ah.length) 3)&&(Nat.beq 3 3))) (Jh N (fun ap=>(cond (ap==true) (cond ((cond true (ak==0) false)==true) (cond ((cond true (al==0) false)==true) (cond ((cond true (am==0) false)==true) (cond ((cond true (an==0) false)==true) (cond ((cond true (ao==0) false)==true) (cond (Nat.ble 3 (ae.length)) (cond (Nat.ble 3 (af.length)) (X4 N (ae.take 3) false (af.take 3) false (fun aq=>(cond (Nat.ble 3 (ag.length)) (cond (Nat.ble 3 (ad.length)) (X4 N (ag.take 3) false (ad.take 3) false (fun ar=>(Jf N aq false ar false (fun au=>(cond ((cond true (au==0) false)==true) (cond (Nat.ble 3 (ad.length)) (cond (Nat.ble 3 (ah.length)) (X4 N (ad.take 3) false (ah.take 3) false (fun av=>(GP N av false (fun aw=>(r0 (cond true (aw==0) false)))))) none) none) (r0 false)))))) none) none))) none) none) (r0 false)) (r0 false)) (r0 false)) (r0 false)) (r0 false)) (r0 false)))) none))) none) none) none))) none) none) none))) none) none) none))) none) none) none))) none) none))
def Cu (r0:Bool→O R) (b:LA) (c:Nat) (i f:Bool) (d:LA) (e:Nat) (l g:Bool) (p:Int) (m o:LA):Nat→Nat→Nat→Int→LA→LA→O R
 | 0,_,_,_,_,_=>none
 | n+1,w,x,y,ab,ac=>(Ge N r0 b c i f d e l g p m o (Cu r0 b c i f d e l g p m o n) w x y ab ac)
def Ke (N:Nat) (r0:Bool→O R) (b:LA) (c:Nat) (i f:Bool) (d:LA) (e:Nat) (l g:Bool) (p:Int) (m o:LA) (q2:Nat→Nat→Int→LA→LA→O R):O R :=
 (q2 0 0 0 [] [])
def Ld (r0:Bool→O R) (b:LA) (c:Nat) (i f:Bool) (d:LA) (e:Nat) (l g:Bool) (p:Int) (m o:LA):O R:=(Ke N r0 b c i f d e l g p m o (fun w x y ab ac=>(Cu N r0 b c i f d e l g p m o N w x y ab ac)))
def Kf (r0:Bool→O R) (q:LA) (r:Nat) (z s:Bool) (t:LA) (u:Nat) (aa v:Bool) (b:LA) (c:Nat) (i f:Bool) (d:LA) (e:Nat) (l g:Bool) (q1:Int→LA→LA→O R):O R :=
 (rt N q r false s (fun m p=>(cond ((Nat.beq 0 0)&&((Nat.beq (m.length) 22)&&(Nat.beq 22 22))) (cond (Nat.ble 22 (m.length)) (gP N (m.take 22) false p t u false v (fun o ax=>(cond ((Nat.beq 0 0)&&((Nat.beq (o.length) 3)&&(Nat.beq 3 3))) (cond ((!ax)==false) (cond ((cond false true (((c:Nat):Int) != p))==false) (cond (cond false true (((e:Nat):Int) != p)) (Jh N (fun ay=>(r0 ay))) (q1 p m o)) (Jh N (fun az=>(r0 az)))) (Jh N (fun ba=>(r0 ba)))) none))) none) none)))
def Gv (r0:Bool→O R) (q:LA) (r:Nat) (z s:Bool) (t:LA) (u:Nat) (aa v:Bool) (b:LA) (c:Nat) (i f:Bool) (d:LA) (e:Nat) (l g:Bool):O R:=(Kf N r0 q r z s t u aa v b c i f d e l g (fun p m o=>(Ld N r0 b c i f d e l g p m o)))
def Io (r0:Bool→O R) (q0:O R) (q:LA) (r:Nat) (z s:Bool) (t:LA) (u:Nat) (aa v:Bool) (b:LA) (c:Nat) (i f:Bool) (d:LA) (e:Nat) (l g:Bool):O R :=
 (gH N q r false s t u false v (fun bb=>(cond ((!bb)==false) (nY N b c false f (fun bc=>(cond ((cond false true (!bc))==false) (nY N d e false g (fun bd=>(cond (cond false true (!bd)) (r0 true) q0))) (r0 true)))) (r0 true))))
def Gl:=(Af (fun (N:Nat) (q:LA) (r:Nat) (z s:Bool) (t:LA) (u:Nat) (aa v:Bool) (b:LA) (c:Nat) (i f:Bool) (d:LA) (e:Nat) (l g:Bool) (r0:Bool→O R)=>(Io N r0 (Gv N r0 q r z s t u aa v b c i f d e l g) q r z s t u aa v b c i f d e l g))).1
theorem R6 (q r z s t u aa v b c i f d e l g r0):(@Gl R N q r z s t u aa v b c i f d e l g r0)=(Io N r0 (Gv N r0 q r z s t u aa v b c i f d e l g) q r z s t u aa v b c i f d e l g):=by rw[Gl,(Af _).2]
def Ud:Hints:={ H:=(hS hL (hJ [0,1,2,3] hL (hS hL (hS hL (hJ [2,3,9,10,11] hL (hS hL (hS (hS hL (hS (hP [2,3,9,10,11,13,14,15] hL) hL)) hL))))))),nils:=[(13,3),(14,3)] }
def V1:Ef:=[(26,Az7 N),(18,A8v N),(27,A38 N),(28,A0j N),(15,Aie N),(32,Ag5 N),(41,wk N),(42,Avv N),(43,Akn N),(25,eH N),(34,yG N)]
def Le (F:KF R):=Ja Tryz.f10 Ud (V1 N) [] N F
def Bq (F:KF R):Bool→O R:=(fun be=>F (.bool be) [])
def SX (b:LA) (c:Nat) (i f:Bool) (d:LA) (e:Nat) (l g:Bool) (p:Int) (m o:LA) (w x:Nat) (y:Int) (ab ac:LA):St:=⟨[(2,(.imm b c 3 i f)),(3,(.imm d e 3 l g)),(9,(op 0)),(10,(iv p)),(11,(op 1)),(13,(.own 300002 0 w)),(14,(.own 300003 0 x)),(15,(iv y))],(hq [(bQ 0 m),(bQ 0 o),(bQ 3 ab),(bQ 3 ac)])⟩
def SY (F:KF R):=Le N F [1,1,1,1,1,1,0,1,0] []
def SZ (b:LA) (c:Nat) (i f:Bool) (d:LA) (e:Nat) (l g:Bool) (p:Int) (m o:LA):St:=⟨[(2,(.imm b c 3 i f)),(3,(.imm d e 3 l g)),(9,(op 0)),(10,(iv p)),(11,(op 1))],(hq [(bQ 0 m),(bQ 0 o)])⟩
def S_ (F:KF R):=Le N F [1,1,1,1,1] []
def TA (q:LA) (r:Nat) (z s:Bool) (t:LA) (u:Nat) (aa v:Bool) (b:LA) (c:Nat) (i f:Bool) (d:LA) (e:Nat) (l g:Bool):St:=⟨[(0,(.imm q r 1 z s)),(1,(.imm t u 1 aa v)),(2,(.imm b c 3 i f)),(3,(.imm d e 3 l g))],[]⟩
def TB (F:KF R):=Le N F [1,1] []
theorem Pv (F:KF R) (b:LA) (c:Nat) (i f:Bool) (d:LA) (e:Nat) (l g:Bool) (p:Int) (m o:LA):∀ (n:Nat) (w x:Nat) (y:Int) (ab ac:LA),Ap (SY N F) n (SX b c i f d e l g p m o w x y ab ac)=(Cu N (Bq F) b c i f d e l g p m o n w x y ab ac)
 | 0,_,_,_,_,_=>by kernel_rfl
 | n+1,w,x,y,ab,ac=>Eq.trans (by kernel_rfl) (Bn (Ge N (Bq F) b c i f d e l g p m o · w x y ab ac) (funext fun w=>funext fun x=>funext fun y=>funext fun ab=>funext fun ac=>(Pv F b c i f d e l g p m o n w x y ab ac)):_)
theorem IL (F:KF R) (b:LA) (c:Nat) (i f:Bool) (d:LA) (e:Nat) (l g:Bool) (p:Int) (m o:LA):A8 (S_ N F) (SZ b c i f d e l g p m o)=(Ld N (Bq F) b c i f d e l g p m o):=by
 exact Eq.trans (by kernel_rfl) (Bn (Ke N (Bq F) b c i f d e l g p m o ·) (funext fun w=>funext fun x=>funext fun y=>funext fun ab=>funext fun ac=>(Aj ..).trans (Pv N F b c i f d e l g p m o N w x y ab ac)):_)
theorem IM (F:KF R) (q:LA) (r:Nat) (z s:Bool) (t:LA) (u:Nat) (aa v:Bool) (b:LA) (c:Nat) (i f:Bool) (d:LA) (e:Nat) (l g:Bool):A8 (TB N F) (TA q r z s t u aa v b c i f d e l g)=(Gv N (Bq F) q r z s t u aa v b c i f d e l g):=by
 exact Eq.trans (by kernel_rfl) (Bn (Kf N (Bq F) q r z s t u aa v b c i f d e l g ·) (funext fun p=>funext fun m=>funext fun o=>(Ar ..).trans (IL N F b c i f d e l g p m o)):_)
theorem Ue (q:LA) (r:Nat) (z s:Bool) (t:LA) (u:Nat) (aa v:Bool) (b:LA) (c:Nat) (i f:Bool) (d:LA) (e:Nat) (l g:Bool) (F:KF R):Cm (V1 N) Ud N 10 [(.imm q r 1 z s),(.imm t u 1 aa v),(.imm b c 3 i f),(.imm d e 3 l g)] [] F=(Gl N q r z s t u aa v b c i f d e l g (Bq F)):=by
 rw[R6]
 exact Eq.trans (by kernel_rfl) (Bn (Io N (Bq F) · q r z s t u aa v b c i f d e l g) ((Ar ..).trans (IM N F q r z s t u aa v b c i f d e l g)):_)
def R7 (a:LA) (h:Am) (k:KF R):O R :=
 match a,h with
 | [(.imm q r 1 z s),(.imm t u 1 aa v),(.imm b c 3 i f),(.imm d e 3 l g)],[]=>(Gl N q r z s t u aa v b c i f d e l g (Bq k))
 | _,_=>none
theorem Uf:Ao N 10 @R7:=by
 intro R Q a h k j;unfold R7;split;exact Ay (Ue ..) (Ue ..) ⟨Az8 N,A8w N,A39 N,A0k N,Aif N,Ag6 N,wl N,Avw N,Ako N,eI N,yH N,trivial⟩;exact A0
def TC:=Az (Uf N)
def TD:=Cj (Uf N)
end
end Gx

namespace Gx
open Go Go.Proofs
set_option maxRecDepth 100000
section
variable {R:Type}
def rs (l:List RatD):LA:=l.flatMap RatD.av
theorem Bfz (l:List RatD):(rs l).length=l.length*3:=by rw[rs,d7 (e:=RatD.av) (n:=3) (fun _=>rfl)]
theorem A4z (l:List RatD):List.take (l.length*3) (rs l)=rs l:=by rw[←Bfz,List.take_length]
theorem A6n (l:List RatD) (x:RatD):List.take (l.length*3) (rs l)++List.take 3 (setCells [(.bool false),.nsl,.nsl] 0 x.av)=rs (l++[x]):=by
 rw[A4z];unfold rs;rw[List.flatMap_append];rfl
end
end Gx

namespace Gx
open Go Go.Proofs
set_option maxRecDepth 100000
section
variable {R:Type}
def NY (A B:List RatD):List RatD:=List.zipWith (fun a b=>lM (a.q+b.q)) A B
theorem A6o (b:List RatD):Kc [] b=0:=by rw[Kc];intros;simp_all
theorem Awa:∀ {C A B:List RatD},A.length=C.length→B.length=C.length→Kc (NY A B) C=Kc A C+Kc B C
 | [],A,B,k,D=>by
  obtain rfl:A=[]:=List.length_eq_zero_iff.1 k
  obtain rfl:B=[]:=List.length_eq_zero_iff.1 D
  rw[show NY [] []=[] from rfl,A6o];exact(Rat.add_zero 0).symm
 | c::C,[],_,k,_=>by simp at k
 | c::C,a::A,[],_,D=>by simp at D
 | c::C,a::A,b::B,k,D=>by
  rw[show NY (a::A) (b::B)=lM (a.q+b.q)::NY A B from rfl,Kc,Kc,Kc,Awa (by simpa using k) (by simpa using D),Aiy]
  grind
theorem Awb:∀ {n:Nat} {C:List RatD},Kc (List.replicate n (lM 0)) C=0
 | 0,C=>A6o C
 | n+1,[]=>by rw[Kc];intros;simp_all
 | n+1,c::C=>by rw[List.replicate_succ,Kc,Awb,Aiy];grind
theorem okR.tail {a:RatD} {l:List RatD} (h:okR (a::l)):okR l:=fun x k=>h x (List.mem_cons_of_mem _ k)
theorem A6p:∀ {A B:List RatD},okR A→okR B→okP (NY A B)
 | [],_,_,_=>by intro x k;simp[NY] at k
 | a::A,[],_,_=>by intro x k;simp[NY] at k
 | a::A,b::B,C,D=>by
  intro x k
  rw[show NY (a::A) (b::B)=lM (a.q+b.q)::NY A B from rfl] at k
  rcases List.mem_cons.1 k with rfl | k
  ·have F:=(C a (by simp)).qm
   have G:=(D b (by simp)).qm
   have I:=Ma a.q b.q
   rw[Aiy];exact Aq0 (by omega)
  ·exact A6p C.tail D.tail x k
theorem Bd1 (n:Nat):okP (List.replicate n (lM 0)):=by
 intro x k
 rw[(List.mem_replicate.1 k).2,Aiy]
 exact Aq0 (by have:=Vy;omega)
theorem Bcd {A B:List RatD} {j:Nat} (k:j<A.length) (C:j<B.length):NY (A.take j) (B.take j)++[lM (A[j].q+B[j].q)]=NY (A.take (j+1)) (B.take (j+1)):=by
 unfold NY
 rw[List.take_succ_eq_append_getElem k,List.take_succ_eq_append_getElem C,List.zipWith_append (by simp;omega)];rfl
section
variable {N:Nat} {u:UnitD} {pl:PlanD} {H:Int} {A B:List RatD}
theorem Awc {A B:List RatD} (ck:vT u H pl=(H,0)) (hA:(A.length:Int)=H) (hB:(B.length:Int)=H):Bf5 u H pl A B=0∧A0o u H pl A B=Kc A pl.en.l+Kc B pl.re.l - A06 u H pl:=by
 unfold Bf5 A0o Bf4
 rw[ck,decide_eq_true hA,decide_eq_true hB];exact⟨rfl,rfl⟩
theorem zo {X:O R} {K:LA→Int→O R} {n:Nat} {f e k C D F:Bool} (hn:A.length=n) (hN:4000≤N) (G:fit 1000000 N) (I:u.away.l.length≤1000) (hA:A.length≤30) (oA:okP A) (oe:okR pl.en.l) (or:okR pl.re.l)
  (h:∀ d:RatD,d.is (A0o u H pl A A) 20000→K d.av (Bf5 u H pl A A)=X):Ny N u.av f H pl.av e (rs A) n k C (rs A) n D F K=X:=by
 subst hn;exact WU hN G I hA hA oA oA oe or h
theorem Bd2 {K:Bool→O R} {g e i f:Bool} (C:fit 1900000 N) (D:u.away.l.length≤1000) (oA:okR A) (oB:okR B) (oe:okR pl.en.l) (or:okR pl.re.l) (ck:vT u H pl=(H,0)) (hH:1≤H∧H≤24) (hA:(A.length:Int)=H) (hB:(B.length:Int)=H) (T:(pl.en.l.length:Int)=H) (U:(pl.re.l.length:Int)=H) (fuel:Nat) :
  Cu N K (rs A) A.length g e (rs B) B.length i f H u.av pl.av (fuel+1) A.length A.length (A.length:Int) (rs (NY A B)) (rs (List.replicate A.length (lM 0)))=K true:=by
 have hN:4000≤N:=by have:=C.1;omega
 have k:fit 1000000 N:=C.le (by omega)
 have lS:(NY A B).length=A.length:=by unfold NY;rw[List.length_zipWith];omega
 have oS:=A6p oA oB
 have oZ:=Bd1 A.length
 have lZ:(List.replicate A.length (lM 0)).length=A.length:=by simp
 have eS:=A4z (NY A B)
 rw[lS] at eS
 have eZ:=A4z (List.replicate A.length (lM 0))
 rw[lZ] at eZ
 rw[Cu];unfold Ge
 rw[show decide ((A.length:Int)<H)=false by simp;omega,cf,eS,eZ]
 simp only[Du,ct,B7,Bgq,Bgr]
 generalize hZ:List.replicate A.length (lM 0)=Z at *
 generalize hS:NY A B=S at *
 have p1:=Awc (u:=u) (pl:=pl) (A:=A) (B:=B) ck hA hB
 have p2:=Awc (u:=u) (pl:=pl) (A:=B) (B:=A) ck hB hA
 have G:=Awc (u:=u) (pl:=pl) (A:=S) (B:=S) ck (by omega) (by omega)
 have F:=Awc (u:=u) (pl:=pl) (A:=Z) (B:=Z) ck (by omega) (by omega)
 have s1:Kc S pl.en.l=Kc A pl.en.l+Kc B pl.en.l:=by rw[←hS];exact Awa (by omega) (by omega)
 have s2:Kc S pl.re.l=Kc A pl.re.l+Kc B pl.re.l:=by rw[←hS];exact Awa (by omega) (by omega)
 have z1:Kc Z pl.en.l=0:=by rw[←hZ];exact Awb
 have z2:Kc Z pl.re.l=0:=by rw[←hZ];exact Awb
 have I:=A4l (u:=u) (c:=H) oe or
 refine WU hN k D (by omega) (by omega) oA.okP oB.okP oe or fun V e1=>?_
 rw[c3,ct]
 refine WU hN k D (by omega) (by omega) oB.okP oA.okP oe or fun Y L=>?_
 rw[c3,ct]
 refine zo lS hN k D (by omega) oS oe or fun d3 e3=>?_
 rw[c3,ct]
 refine zo lZ hN k D (by omega) oZ oe or fun d4 e4=>?_
 rw[c3,ct]
 refine Ak0 hN k D oe or fun d5 M=>?_
 rw[c3,ct,Ai9 (C.le (by omega)),show(true==true)=true from rfl,ct,p1.1,p2.1,G.1,F.1,ck]
 rw[show((cond true ((0:Int)==0) false)==true)=true from rfl,ct,ct,ct,ct,ct]
 simp only[b3,ct,lN]
 rw[Bc2 e1 L (C.le (by omega)),Bc2 e3 e4 (C.le (by omega))]
 have eq1:A0o u H pl A B+A0o u H pl B A=A0o u H pl S S+A0o u H pl Z Z:=by
  rw[p1.2,p2.2,G.2,F.2,s1,s2,z1,z2];grind
 have eq2:A0o u H pl Z Z+A06 u H pl=0:=by rw[F.2,z1,z2];grind
 have q1:=A4m (u:=u) (c:=H) (p:=pl) oS oS oe or (by omega) (by omega)
 have q2:=A4m (u:=u) (c:=H) (p:=pl) oZ oZ oe or (by omega) (by omega)
 have q3:=Ma (A0o u H pl S S) (A0o u H pl Z Z)
 rw[eq1,Bc1 (Aq0 (m:=40001) (by omega)) (Aq0 (m:=40001) (by omega)) (C.le (by omega)),rH,show((cond true ((0:Int)==0) false)==true)=true from rfl,ct]
 rw[Bc2 e4 M (C.le (by omega)),eq2,Bho (m:=4) (Aq0 (by have:=Vy;omega)) (C.le (by omega))]
 rfl
theorem A04 {K:Bool→O R} {g e i f:Bool} (D:fit 1900000 N) (F:u.away.l.length≤1000) (oA:okR A) (oB:okR B) (oe:okR pl.en.l) (or:okR pl.re.l) (ck:vT u H pl=(H,0)) (hH:1≤H∧H≤24) (hA:(A.length:Int)=H) (hB:(B.length:Int)=H) (G:(pl.en.l.length:Int)=H) (I:(pl.re.l.length:Int)=H):∀ (m j fuel:Nat),j+m=A.length→m<fuel →
  Cu N K (rs A) A.length g e (rs B) B.length i f H u.av pl.av fuel j j (j:Int) (rs (NY (A.take j) (B.take j))) (rs (List.replicate j (lM 0)))=K true
 | 0,j,fuel+1,M,_=>by
  have:=Bd2 (K:=K) (g:=g) (e:=e) (i:=i) (f:=f) D F oA oB oe or ck hH hA hB G I fuel
  rw[List.take_of_length_le (by omega),List.take_of_length_le (by omega),show j=A.length by omega]
  exact this
 | m+1,j,fuel+1,M,S=>by
  rw[Cu];unfold Ge
  have C:j<A.length:=by omega
  have k:j<B.length:=by omega
  rw[show decide ((j:Int)<H)=true by simp;omega,ct,Aa C,ct,show List.drop (((j:Int).toNat)*3) (rs A)=A[j].av++(A.drop (j+1)).flatMap RatD.av from HX C,Arg,ct,Aa k,ct,show List.drop (((j:Int).toNat)*3) (rs B)=B[j].av++(B.drop (j+1)).flatMap RatD.av from HX k,Arg,ct,vO,vO,Bc2 (oA.at C) (oB.at k) (D.le (by omega))]
  have cc:∀ q:Rat,((Nat.beq (List.length (lM q).av) 3)&&(Nat.ble 3 3))=true:=fun _=>rfl
  have lS:(NY (A.take j) (B.take j)).length=j:=by unfold NY;rw[List.length_zipWith,List.length_take,List.length_take];omega
  have e1:=A6n (NY (A.take j) (B.take j)) (lM (A[j].q+B[j].q))
  rw[lS] at e1
  have L:=A6n (List.replicate j (lM 0)) (lM 0)
  rw[List.length_replicate] at L
  rw[cc,ct,Bgx (by omega),ct,Aiz,show cq 0=(lM 0).av from rfl,cc,ct,ct,e1,L,Bcd C k,←List.replicate_succ',wS (by omega)]
  exact A04 D F oA oB oe or ck hH hA hB G I m (j+1) fuel (by omega) (by omega)
theorem jH {K:Bool→O R} (C:fit 1900000 N) {l raw:List Int} {l1 l2 r1 M a1 a2 F G:Bool} (S:l.length≤9223372036854775807) (T:∀ x ∈ A,x.ok) (U:∀ x ∈ B,x.ok) :
  Gl N (Av l) l.length l1 l2 (Av raw) raw.length r1 M (A.flatMap RatD.av) A.length a1 a2 (B.flatMap RatD.av) B.length F G K=K true:=by
 have hN:4096≤N:=by have:=C.1;omega
 rw[R6];unfold Io
 rw[A4x]
 by_cases I:l.length≤200
 ·by_cases L:raw.length≤200
  ·rw[decide_eq_true I,decide_eq_true L,show((!(true&&true))==false)=true from rfl,ct,Azy rfl (by omega)]
   cases V:A9m A with
   | false=>rfl
   | true =>
    rw[show((cond false true (!true))==false)=true from rfl,ct,Azy rfl (by omega)]
    cases Y:A9m B with
    | false=>rfl
    | true =>
     have o3:=A6b T V
     have o4:=A6b U Y
     rw[show(cond false true (!true))=false from rfl,cf]
     unfold Gv Kf
     refine A4w rfl hN S fun u H h1 h2 hv hv' ha=>?_
     rw[show((Nat.beq 0 0)&&((Nat.beq (List.length u.av) 22)&&(Nat.beq 22 22)))=true from rfl,ct,Du,ct,B7]
     have aw:Jh N (fun ax=>K ax)=K true:=Ai9 (C.le (by omega))
     refine Bdy rfl (by omega) hN (Yu hv).1 (by omega) ?_ fun ks A' B' hk D gg=>?_
     ·rw[Bdx,ct,show((!false)==false)=false from rfl,cf];exact aw
     ·obtain⟨oe,or⟩:=Bd0 D gg
      have ck:=Bdz D gg
      obtain⟨_,k,_,_,_⟩:=A6m D
      rw[Bdx,ct,show((!true)==false)=true from rfl,ct,gQ,gQ]
      by_cases x1:(A.length:Int)=H
      ·rw[decide_eq_true x1,show((cond false true (!true))==false)=true from rfl,ct]
       by_cases x2:(B.length:Int)=H
       ·rw[decide_eq_true x2,show(cond false true (!true))=false from rfl,cf]
        unfold Ld Ke
        have:=A04 (K:=K) (g:=a1) (e:=a2) (i:=F) (f:=G) (pl:=Bcb ks A' B') C (by omega) o3.1 o4.1 oe or ck (by omega) x1 x2 (by show((A'.map rq).length:Int)=H;rw[List.length_map,gg.1];exact k) (by show((B'.map rq).length:Int)=H;rw[List.length_map,gg.2.1];exact k) A.length 0 N (by omega) (by omega)
        exact this
       ·rw[decide_eq_false x2];exact aw
      ·rw[decide_eq_false x1];exact aw
  ·rw[decide_eq_false L,Bool.and_false];rfl
 ·rw[decide_eq_false I,Bool.false_and];rfl
end
end
end Gx

namespace Gx
open Go Go.Proofs
theorem Alk {p:Int→Prop}:∀ m:List { n:Int // p n },m.flatMap (fun n=>[AV.int .i64 n.1])=Av (m.map (·.1))
 | []=>rfl
 | a::r=>by rw[List.flatMap_cons,Alk r];rfl
end Gx

namespace Gx
open Go Go.RowKit
theorem Opens.map {P:Program} {t:TypeId} {α β:Type} {e:α→LA} {n:Nat} (h:Opens P t e n) (e':β→LA) (g:α→β) (k:∀ a,e a=e' (g a)) (C:∀ b,(e' b).length=n):Opens P t e' n:=by
 refine⟨h.size,h.pos,C,fun enc W fuel cs d ps D=>?_⟩
 obtain⟨F,a,G⟩:=h.read enc W fuel cs d ps D
 exact⟨F,g a,by rw[←k];exact G⟩
structure OpensF (P:Program) (fs:List Field) (off:Nat) {α:Type} (e:α→List AV) (n:Nat):Prop where
 len:∀ a,(e a).length=n
 read:∀ {H:Type} (enc:TypeId×Value→H) (W:World) (fuel:Nat) (cs:List Value),(∀ (i:Nat) (f:Field),fs[i]?=some f→∃ d ps,DataW.trod enc P W 0 (fun _=>true) true fuel f.type ((cs.drop f.offset).take (P.cellsOf f.type))=some (d,ps)) →
  ∃ a,RepCs (fun k=>k<W.heap.size) W (e a) (fun j=>cs[j]?) off
theorem All {P:Program} {off:Nat}:OpensF P [] off (α:=Unit) (fun _=>[]) 0:=⟨fun _=>rfl,fun _ _ _ _ _=>⟨(),by simp[RepCs]⟩⟩
theorem MU {P:Program} {f:Field} {fs:List Field} {off:Nat} {α β:Type} {e:α→LA} {n:Nat} {e':β→LA} {m:Nat} (M:f.offset=off) (k:Opens P f.type e n) (G:OpensF P fs (off+n) e' m) :
  OpensF P (f::fs) off (α:=α×β) (fun p=>e p.1++e' p.2) (n+m):=by
 refine⟨fun p=>by rw[List.length_append,k.len,G.len],fun enc W fuel cs h=>?_⟩
 obtain⟨d,ps,S⟩:=h 0 f rfl
 obtain⟨U,a,I⟩:=k.read enc W fuel _ _ _ S
 obtain⟨b,L⟩:=G.read enc W fuel cs fun i g T=>h (i+1) g (by simpa using T)
 refine⟨(a,b),?_⟩
 rw[Df] at I L ⊢
 intro j x F
 by_cases D:j<n
 ·rw[List.getElem?_append_left (by rw[k.len];exact D)] at F
  obtain⟨u,C,hr⟩:=I j x F
  refine⟨u,?_,hr⟩
  simp only[Nat.zero_add] at C
  rw[k.size,List.getElem?_take_of_lt D,List.getElem?_drop,M] at C
  exact C
 ·rw[List.getElem?_append_right (by rw[k.len];omega),k.len] at F
  obtain⟨u,C,hr⟩:=L (j - n) x F
  refine⟨u,?_,hr⟩
  rw[show off+n+(j - n)=off+j by omega] at C
  exact C
theorem tD {P:Program} {t:TypeId} {fs:Array Field} {α:Type} {e:α→LA} {n:Nat} (G:P.underlying t=some (.struct fs)) (D:P.cellsOf t=n) (hn:0<n) (h:OpensF P fs.toList 0 e n):Opens P t e n:=by
 refine⟨D,hn,h.len,fun enc W fuel cs d ps I=>?_⟩
 obtain⟨xs,g,_,_,L,k,M⟩:=DataW.trod_struct G I
 refine⟨by rw[L,D],?_⟩
 exact h.read enc W g cs fun i f hi=>by
  have F:fs[i]?=some f:=by simpa using hi
  have:=M i f F
  have C:i<xs.length:=by
   rw[k];exact(Array.getElem?_eq_some_iff.1 F).1
  rw[List.getElem?_eq_getElem C] at this
  exact⟨_,_,this⟩
end Gx

namespace Gx
open Go Go.Proofs Go.RowKit
theorem Bce {n:Int} (h:(Lit.int .u32 n).wf=true):0≤n∧n<4294967296:=by
 simp only[Lit.wf,Bool.and_eq_true,decide_eq_true_eq,show IntKind.u32.min=0 from rfl,show IntKind.u32.max=4294967295 from rfl] at h;omega
section
variable {W:World} {H:Type} {enc:TypeId×Value→H} {β:C8} {h:Am}
theorem A40:Opens Tryz.prog 113 (α:={ n:Nat // n<4294967296 }) (fun n=>[.int .u32 (n.1:Int)]) 1 :=
 (tz Tryz.underlying113 (by kernel_rfl)).map _ (fun n=>⟨n.1.toNat,by have:=Bce n.2;omega⟩) (fun n=>by have:=Bce n.2;simp;omega) (fun _=>rfl)
theorem Arx:∀ l:List { n:Nat // n<4294967296 },l.flatMap (fun n=>[AV.int .u32 (n.1:Int)])=Ae (l.map (·.1))
 | []=>rfl
 | a::r=>by rw[List.flatMap_cons,Arx r];rfl
theorem zp:Opens Tryz.prog 33 (α:={ l:List Nat // Al l }) (fun l=>[.imm (Ae l.1) l.1.length 1 false false]) 1 :=
 (xY Tryz.underlying33 (by kernel_rfl) A40).map _ (fun l=>⟨l.1.map (·.1),fun x k=>by obtain⟨y,_,rfl⟩:=List.mem_map.1 k;exact y.2⟩) (fun l=>by show [AV.imm (l.1.flatMap (fun n=>[AV.int .u32 (n.1:Int)])) l.1.length 1 false false]=[AV.imm (Ae (l.1.map (·.1))) (l.1.map (·.1)).length 1 false false];rw[Arx,List.length_map]) (fun _=>rfl)
theorem A91:Opens Tryz.prog 37 (α:={ x:RatD // x.ok }) (fun x=>x.1.av) 3 :=
 (tD Tryz.underlying37 (by kernel_rfl) (by decide) (MU rfl (tD Tryz.underlying35 (by kernel_rfl) (by decide) (MU rfl (A2p Tryz.underlying4 (by kernel_rfl)) (MU rfl zp All)))
  (MU rfl zp All))).map _ (fun p=>⟨⟨p.1.1,.of p.1.2.1.1 false false,.of p.2.1.1 false false⟩,p.1.2.1.2,p.2.1.2⟩) (fun _=>rfl) (fun _=>rfl)
end
end Gx

namespace Gx
open Go Go.Proofs Go.RowKit
theorem Ary:∀ l:List { x:RatD // x.ok },l.flatMap (fun x=>x.1.av)=(l.map (·.1)).flatMap RatD.av
 | []=>rfl
 | a::r=>by rw[List.flatMap_cons,Ary r];rfl
theorem Bd3 (l:List { x:RatD // x.ok }):∀ x ∈ l.map (·.1),x.ok:=fun x k=>by obtain⟨y,_,rfl⟩:=List.mem_map.1 k;exact y.2
section
variable {W:World} {H:Type} {enc:TypeId×Value→H} {β:C8} {h:Am}
theorem Arz {a:Option Addr} {len cap:Nat} {d:DataW H} {p:List MemPlace} (C:DataW.Trod enc Tryz.prog W 0 (fun _=>true) true 39 (.slice a len cap) d p) :
  ∃ l:List RatD,(∀ x ∈ l,x.ok)∧Rep (fun _ k=>k<W.heap.size) β h W (.imm (l.flatMap RatD.av) l.length 3 false false) (.slice a len cap):=by
 obtain⟨l,_,hr⟩:=Atf (β:=β) (h:=h) Tryz.underlying39 (by kernel_rfl) A91 C
 refine⟨l.map (·.1),Bd3 l,?_⟩
 rw[←Ary,List.length_map];exact hr
end
end Gx
