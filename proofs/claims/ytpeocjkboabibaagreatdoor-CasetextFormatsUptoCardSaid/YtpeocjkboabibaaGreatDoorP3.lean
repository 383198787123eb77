/- A part of the proof; each theorem says what it holds. -/
import Derived.Test.YtpeocjkboabibaaGreatDoorP2
set_option linter.unusedVariables false
set_option linter.defProp false
set_option linter.unusedSimpArgs false
open Nat (ble beq)
open List (take drop replicate)
open Go.IntKind (wrap)
namespace Gx.Cf
open Go Go.Proofs
section
variable {R:Type}
theorem O1 {a:Int} (h:-9223372036854775808≤a∧a≤9223372036854775807):wrap .i64 a=a:=Vd a h
theorem H5 {lo hi n:Int} (h:lo≤n∧n≤hi):Fa lo hi n=true:=by unfold Fa;simp;omega
structure LineG (i:Nat) (fr tx H:Int) (x:LineD):Prop where
 name:x.name=[108,Aa5.getD i 0]
 fr:x.fr=fr
 tx:x.tl=tx
 re:(No x.re&&decide (x.re.num>0))=true
 smin:(No x.smin&&decide (x.smin.num≤0))=true
 smax:(No x.smax&&decide (x.smax.num≥0))=true
 lim:Fa 0 1048576 x.limit=true
 em:Fa x.limit 1048576 x.emer=true
 aw:x.away.l.length≤1
 awr:∀ y ∈ x.away.l,0≤y∧y<H
theorem ju {f:FracD} (h:1≤f.den∧f.den≤1048576∧-1048576≤f.num∧f.num≤1048576):No f=true:=by unfold No;rw[H5 (by omega),H5 (by omega)];rfl
theorem T2 {B:List Int}:take (B.length*1) (Az B)=B.flatMap Fh:=by rw[Aeh,Ad0 (by rw[Kh];exact Ad4 _),A4]
theorem NI {N:Nat} {l:List Int} {t o:Bool} (e:l.length≤9223372036854775807) {i:Nat} (hi:i<16) (fr tx:Int) {H:Int} (hH:1≤H∧H≤24) (k:Nat) (T:k≤l.length) :
  ∃ (x:LineD) (M:Nat),LineG i fr tx H x∧M≤l.length∧∀ K:LA→Int→O R,Ro N (i:Int) fr tx H (Az l) l.length t o (k:Int) K=K x.av (M:Int):=by
 obtain⟨y2,ky2,y20,y21,q,s⟩:=nx (R:=R) (N:=N) (t:=t) (o:=o) e 4 (by omega) (by omega) k T
 obtain⟨y4,ky4,y40,y41,u,v⟩:=nx (R:=R) (N:=N) (t:=t) (o:=o) e 2 (by omega) (by omega) ky2 q
 obtain⟨y6,ky6,y60,y61,y,z⟩:=nx (R:=R) (N:=N) (t:=t) (o:=o) e 40 (by omega) (by omega) ky4 u
 obtain⟨y8,ky8,y80,y81,A,C⟩:=nx (R:=R) (N:=N) (t:=t) (o:=o) e 20 (by omega) (by omega) ky6 y
 obtain⟨y10,ky10,y100,y101,d,f⟩:=nx (R:=R) (N:=N) (t:=t) (o:=o) e 5 (by omega) (by omega) ky8 A
 by_cases S:y10=4
 ·have e4:(y10==4)=true:=by simpa using S
  obtain⟨y12,ky12,y120,y121,j,D⟩:=nx (R:=R) (N:=N) (t:=t) (o:=o) e 4 (by omega) (by omega) ky10 d
  obtain⟨y14,ky14,y140,y141,m,F⟩:=nx (R:=R) (N:=N) (t:=t) (o:=o) e 2 (by omega) (by omega) ky12 j
  obtain⟨y16,ky16,y160,y161,n,G⟩:=nx (R:=R) (N:=N) (t:=t) (o:=o) e 4 (by omega) (by omega) ky14 m
  obtain⟨B,kB,I,L,hkB,hB⟩:=XL (R:=R) (N:=N) (t:=t) (o:=o) e H hH.1 (by omega) ky16 n
  refine⟨⟨[108,Aa5.getD i 0],fr,tx,⟨1+y2,1+y4⟩,⟨0 - y12,1+y14⟩,⟨y16,1⟩,4+y6,4+y6+y8,.of B false false⟩,kB,⟨rfl,rfl,rfl,?_,?_,?_,H5 (by simp only;omega),H5 (by simp only;omega),I,L⟩,hkB,fun K=>?_⟩
  ·rw[ju (by simp only;omega)];simp;omega
  ·rw[ju (by simp only;omega)];simp;omega
  ·rw[ju (by simp only;omega)];simp;omega
  ·rw[Tm];unfold Uh
   rw[Q6 hi,s,v,z,C,f,e4,ct,D,F,G,hB,T2,O1 (a:=1+y2) (by omega),O1 (a:=1+y4) (by omega),O1 (a:=0 - y12) (by omega),O1 (a:=1+y14) (by omega),O1 (a:=4+y6) (by omega),O1 (a:=4+y6+y8) (by omega)]
   rfl
 ·have e4:(y10==4)=false:=by simpa using S
  obtain⟨B,kB,I,L,hkB,hB⟩:=XL (R:=R) (N:=N) (t:=t) (o:=o) e H hH.1 (by omega) ky10 d
  refine⟨⟨[108,Aa5.getD i 0],fr,tx,⟨1+y2,1+y4⟩,⟨0,1⟩,⟨0,1⟩,4+y6,4+y6+y8,.of B false false⟩,kB,⟨rfl,rfl,rfl,?_,?_,?_,H5 (by simp only;omega),H5 (by simp only;omega),I,L⟩,hkB,fun K=>?_⟩
  ·rw[ju (by simp only;omega)];simp;omega
  ·rw[ju (by simp only;omega)];simp
  ·rw[ju (by simp only;omega)];simp
  ·rw[Tm];unfold Uh
   rw[Q6 hi,s,v,z,C,f,e4,cf,hB,T2,O1 (a:=1+y2) (by omega),O1 (a:=1+y4) (by omega),O1 (a:=4+y6) (by omega),O1 (a:=4+y6+y8) (by omega)]
   rfl
structure UnitG (i:Nat) (nb H:Int) (u:UnitD):Prop where
 name:u.name=[117,Aa5.getD i 0]
 bus:0≤u.bus∧u.bus<nb
 min:Fa 0 1048576 u.min=true
 max:Fa u.min 1048576 u.max=true
 sl:1≤u.segs.l.length∧u.segs.l.length≤8
 sok:u.segs.l.all ZP=true
 sord:Q_ u.segs.l=true
 ssum:(QZ 0 u.segs.l==wrap .i64 (u.max - u.min))=true
 noLoad:Fa 0 1048576 u.noLoad=true
 rampUp:Fa 0 1048576 u.rampUp=true
 rampDown:Fa 0 1048576 u.rampDown=true
 startRamp:Fa u.min u.max u.startRamp=true
 stopRamp:Fa u.min u.max u.stopRamp=true
 upTime:Fa 0 24 u.upTime=true
 downTime:Fa 0 24 u.downTime=true
 startTime:Fa 0 24 u.startTime=true
 hotCost:Fa 0 1048576 u.hotCost=true
 coldCost:Fa 0 1048576 u.coldCost=true
 hotHours:Fa 0 24 u.hotHours=true
 reserve:Fa 0 1048576 u.reserve=true
 reservePrice:Fa 0 1048576 u.reservePrice=true
 aw:u.away.l.length≤1
 awr:∀ y ∈ u.away.l,0≤y∧y<H
 state:Fa 0 2 u.state=true
 starting:(u.state != 1||u.startTime != 0)=true
 hours:Fa 1 48 u.hours=true
 started:(u.state != 1||decide (u.hours≤u.startTime))=true
 output:cond (u.state==2) (Fa u.min u.max u.output) (Fa 0 0 u.output)=true
theorem jv {s:SegD}:∀ {S:List SegD},Q_ S=true→(∀ x ∈ S,x.price≤s.price)→Q_ (S++[s])=true
 | [],_,_=>f_ s
 | [a],_,h=>by
  rw[Aeb,Afr,GM,f_]
  have:=h a (by simp);simp;omega
 | a::b::r,d,h=>by
  rw[GM] at d
  simp only[Ad3] at d
  rw[Aeb,Aeb,GM,d.1]
  have:=jv (S:=b::r) d.2 (fun x hx=>h x (by rcases Ad6.1 hx with e | e<;>simp[e]))
  simpa using this
theorem jw {s:SegD}:∀ {S:List SegD} {a:Int},QZ a (S++[s])=wrap .i64 (QZ a S+s.width)
 | [],a=>rfl
 | x::r,a=>by rw[Aeb,QZ,QZ];exact jw
theorem xB (S:List SegD):(S.flatMap SegD.av).length=S.length*2:=by
 induction S with
 | nil=>rfl
 | cons e r d=>rw[Aen,Adw,d,Zj];simp;omega
theorem XM {S:List SegD} {n:Nat} (h:n=S.length):take (n*2) (S.flatMap SegD.av)=S.flatMap SegD.av:=Ad0 (by rw[xB,h];exact Ad4 _)
theorem EQ {N:Nat} {l:List Int} {t o:Bool} (d:l.length≤9223372036854775807) {i:Nat} {nb H bus mn noLoad:Int} (hb:0≤bus∧bus<nb) (hmn:0≤mn∧mn<8) (hno:0≤noLoad∧noLoad<20) (hH:1≤H∧H≤24):∀ (n fuel:Nat) (p:Int) (k:Nat) (M:Int) (S:List SegD),n<fuel→k≤l.length→S.length+n≤2→1≤S.length+n→(∀ x ∈ S,x.price≤p∧ZP x=true)→Q_ S=true→QZ 0 S=M - mn→0≤M - mn→M - mn≤15*S.length→-10≤p→p≤20+10*S.length →
  ∃ (u:UnitD) (k':Nat),UnitG i nb H u∧k'≤l.length∧∀ K:LA→Int→O R,Ex N K H (Az l) l.length t o [117,Aa5.getD i 0] bus mn noLoad fuel p (n:Int) (k:Int) M S.length (S.flatMap SegD.av)=K u.av (k':Int)
 | 0,fuel+1,p,k,M,S,_,hk,hS,hS1,hp,ho,hw,hM0,hM1,_,_=>by
  obtain⟨y16,ky16,y160,y161,q,Y⟩:=nx (R:=R) (N:=N) (t:=t) (o:=o) d 20 (by omega) (by omega) k hk
  obtain⟨y18,ky18,y180,y181,s,hy18⟩:=nx (R:=R) (N:=N) (t:=t) (o:=o) d 20 (by omega) (by omega) ky16 q
  obtain⟨y20,ky20,y200,y201,v,hy20⟩:=nx (R:=R) (N:=N) (t:=t) (o:=o) d (M - mn+1) (by omega) (by omega) ky18 s
  obtain⟨y22,ky22,y220,y221,y,hy22⟩:=nx (R:=R) (N:=N) (t:=t) (o:=o) d (M - mn+1) (by omega) (by omega) ky20 v
  obtain⟨y24,ky24,y240,y241,z,hy24⟩:=nx (R:=R) (N:=N) (t:=t) (o:=o) d 3 (by omega) (by omega) ky22 y
  obtain⟨y26,ky26,y260,y261,A,hy26⟩:=nx (R:=R) (N:=N) (t:=t) (o:=o) d 3 (by omega) (by omega) ky24 z
  obtain⟨y28,ky28,y280,y281,C,hy28⟩:=nx (R:=R) (N:=N) (t:=t) (o:=o) d 2 (by omega) (by omega) ky26 A
  obtain⟨y30,ky30,y300,y301,D,hy30⟩:=nx (R:=R) (N:=N) (t:=t) (o:=o) d 30 (by omega) (by omega) ky28 C
  obtain⟨y32,ky32,y320,y321,F,hy32⟩:=nx (R:=R) (N:=N) (t:=t) (o:=o) d 30 (by omega) (by omega) ky30 D
  obtain⟨y34,ky34,y340,y341,G,hy34⟩:=nx (R:=R) (N:=N) (t:=t) (o:=o) d 4 (by omega) (by omega) ky32 F
  obtain⟨y36,ky36,y360,y361,I,hy36⟩:=nx (R:=R) (N:=N) (t:=t) (o:=o) d 8 (by omega) (by omega) ky34 G
  obtain⟨y38,ky38,y380,y381,L,hy38⟩:=nx (R:=R) (N:=N) (t:=t) (o:=o) d 4 (by omega) (by omega) ky36 I
  obtain⟨B,kB,b1,b2,hkB,hB⟩:=XL (R:=R) (N:=N) (t:=t) (o:=o) d H hH.1 (by omega) ky38 L
  obtain⟨y43,ky43,y430,y431,T,hy43⟩:=nx (R:=R) (N:=N) (t:=t) (o:=o) d (2+y28) (by omega) (by omega) kB hkB
  obtain⟨y46,ky46,y460,y461,j,hy46⟩:=nx (R:=R) (N:=N) (t:=t) (o:=o) d 4 (by omega) (by omega) ky43 T
  have i43:Aj y43 3=true:=js y430 (by omega)
  obtain⟨x45,hx45,hst⟩:∃ x45:Int,(∀ f:Int→O R,Av .i64 (drop (0+((Int.toNat y43)*1)) [(.int .i64 (0:Int)),(.int .i64 (2:Int)),(.int .i64 (1:Int))]) f=f x45)∧(x45=0∨x45=2∨(x45=1∧y28=1)):=by
   have e:[(.int .i64 (0:Int)),(.int .i64 (2:Int)),(.int .i64 (1:Int))]=Az [0,2,1]:=rfl
   refine⟨([0,2,1]:List Int).getD y43.toNat 0,fun f=>by rw[e,vt (by simp;omega)],?_⟩
   have:y43=0∨y43=1∨y43=2:=by omega
   rcases this with rfl | rfl | rfl
   ·left;rfl
   ·right;left;rfl
   ·right;right;exact⟨rfl,by omega⟩
  have wM:wrap .i64 (wrap .i64 (M - mn)+1)=M - mn+1:=by rw[O1 (a:=M - mn) (by omega),O1 (by omega)]
  have head:∀ K:LA→Int→O R,Ex N K H (Az l) l.length t o [117,Aa5.getD i 0] bus mn noLoad (fuel+1) p ((0:Nat):Int) (k:Int) M S.length (S.flatMap SegD.av) =
    Lx N K (Az l) l.length t o (ky46:Int) [117,Aa5.getD i 0] bus mn M S.length noLoad y16 y18 y24 y26 y28 y30 y34 y36 y38 B.length x45 (S.flatMap SegD.av) (Az B) (mn+y20) (mn+y22) (y30+y32) (cond (x45==1) 1 (1+y46)):=fun K=>by
   rw[Ex];unfold Ol
   rw[show decide (((0:Nat):Int)>0)=false from rfl,cf,wM,Y,hy18,hy20,hy22,hy24,hy26,hy28,hy30,hy32,hy34,hy36,hy38,hB,O1 (a:=2+y28) (by omega),hy43,i43,ct,hx45,hy46,O1 (a:=mn+y20) (by omega),O1 (a:=mn+y22) (by omega),O1 (a:=y30+y32) (by omega),O1 (a:=1+y46) (by omega)]
   cases x45==1<;>rfl
  have hhr:1≤(cond (x45==1) (1:Int) (1+y46))∧(cond (x45==1) (1:Int) (1+y46))≤4:=by cases x45==1<;>simp<;>omega
  have hst1:x45=1→cond (x45==1) (1:Int) (1+y46)=1:=by intro e;subst e;rfl
  have sall:S.all ZP=true:=by rw[Ae3];exact fun x hx=>(hp x hx).2
  have ssum:(QZ 0 S==wrap .i64 (M - mn))=true:=by rw[O1 (a:=M - mn) (by omega),hw];simp
  have starting:(x45 != 1||y28 != 0)=true:=by
   rcases hst with h | h | ⟨h,h'⟩
   ·rw[h];rfl
   ·rw[h];rfl
   ·rw[h,h'];rfl
  have started:(x45 != 1||decide ((cond (x45==1) (1:Int) (1+y46))≤y28))=true:=by
   rcases hst with h | h | ⟨h,h'⟩
   ·rw[h];rfl
   ·rw[h];rfl
   ·rw[h,h'];rfl
  have stR:Fa 0 2 x45=true:=H5 (by omega)
  by_cases m:x45=2
  ·obtain⟨y48,ky48,y480,y481,U,hy48⟩:=nx (R:=R) (N:=N) (t:=t) (o:=o) d (M - mn+1) (by omega) (by omega) ky46 j
   refine⟨⟨[117,Aa5.getD i 0],bus,mn,M,.of S false false,noLoad,y16,y18,mn+y20,mn+y22,y24,y26,y28,y30,y30+y32,y34,y36,y38,.of B false false,x45,cond (x45==1) 1 (1+y46),mn+y48⟩,ky48,
    ⟨rfl,hb,H5 (by simp only;omega),H5 (by simp only;omega),by simp only[Sl.l];omega,sall,ho,ssum,H5 (by simp only;omega),H5 (by simp only;omega),H5 (by simp only;omega),H5 (by simp only;omega),H5 (by simp only;omega),H5 (by simp only;omega),H5 (by simp only;omega),H5 (by simp only;omega),H5 (by simp only;omega),H5 (by simp only;omega),H5 (by simp only;omega),H5 (by simp only;omega),H5 (by simp only;omega),b1,b2,stR,starting,H5 (by simp only;omega),started,?_⟩,U,fun K=>?_⟩
   ·have:(x45==2)=true:=by simpa using m
    simp only[this,cond_true];exact H5 (by omega)
   ·rw[head];unfold Lx
    have:(x45==2)=true:=by simpa using m
    rw[this,ct,wM,hy48,O1 (a:=mn+y48) (by omega),XM rfl,T2]
    rfl
  ·refine⟨⟨[117,Aa5.getD i 0],bus,mn,M,.of S false false,noLoad,y16,y18,mn+y20,mn+y22,y24,y26,y28,y30,y30+y32,y34,y36,y38,.of B false false,x45,cond (x45==1) 1 (1+y46),0⟩,ky46,
    ⟨rfl,hb,H5 (by simp only;omega),H5 (by simp only;omega),by simp only[Sl.l];omega,sall,ho,ssum,H5 (by simp only;omega),H5 (by simp only;omega),H5 (by simp only;omega),H5 (by simp only;omega),H5 (by simp only;omega),H5 (by simp only;omega),H5 (by simp only;omega),H5 (by simp only;omega),H5 (by simp only;omega),H5 (by simp only;omega),H5 (by simp only;omega),H5 (by simp only;omega),H5 (by simp only;omega),b1,b2,stR,starting,H5 (by simp only;omega),started,?_⟩,j,fun K=>?_⟩
   ·have:(x45==2)=false:=by simpa using m
    simp only[this,cond_false];exact H5 (by omega)
   ·rw[head];unfold Lx
    have:(x45==2)=false:=by simpa using m
    rw[this,cf,XM rfl,T2]
    rfl
 | n+1,fuel+1,p,k,M,S,hf,hk,hS,hS1,hp,ho,hw,hM0,hM1,hp0,hp1=>by
  obtain⟨y12,ky12,y120,y121,V,hy12⟩:=nx (R:=R) (N:=N) (t:=t) (o:=o) d 15 (by omega) (by omega) k hk
  obtain⟨y14,ky14,y140,y141,X,hy14⟩:=nx (R:=R) (N:=N) (t:=t) (o:=o) d 10 (by omega) (by omega) ky12 V
  obtain⟨u,k',g1,g2,g3⟩:=EQ (N:=N) (t:=t) (o:=o) (i:=i) (nb:=nb) (H:=H) (bus:=bus) (mn:=mn) (noLoad:=noLoad) d hb hmn hno hH n fuel (p+y14) ky14 (M+(1+y12)) (S++[(⟨1+y12,p⟩:SegD)]) (by omega) X (by simp;omega) (by simp;omega) (by
   intro x hx
   rcases Ad7.1 hx with h | h
   ·have:=hp x h;exact⟨by omega,this.2⟩
   ·simp at h;subst h
    refine⟨by simp only;omega,?_⟩
    unfold ZP;rw[H5 (by simp only;omega),H5 (by simp only;omega)];rfl) (jv ho fun x hx=>(hp x hx).1) (by rw[jw,hw,O1 (by simp only;omega)];simp only;omega) (by omega) (by simp;omega) (by omega) (by simp;omega)
  refine⟨u,k',g1,g2,fun K=>?_⟩
  rw[Ex];unfold Ol
  have c3:(ble (S.length+1) 140737488355328&&ble ((S.length+1)*16) 140737488355328)=true:=by rw[Ew,Ew];simp;omega
  have c5:take (S.length*2) (S.flatMap SegD.av)++[.int .i64 (1+y12),.int .i64 p]=(S++[(⟨1+y12,p⟩:SegD)]).flatMap SegD.av:=by rw[XM rfl];simp[SegD.av]
  have wn:wrap .i64 (((n+1:Nat):Int) - 1)=(n:Int):=fV (by omega)
  rw[show decide (((n+1:Nat):Int)>0)=true from decide_eq_true (by omega),ct,hy12,c3,ct,hy14,O1 (a:=1+y12) (by omega),O1 (a:=p+y14) (by omega),wn,O1 (a:=M+(1+y12)) (by omega),c5]
  have:=g3 K
  rw[Adw] at this
  exact this
theorem XD {N:Nat} {l:List Int} {t o:Bool} (hN:8≤N) (e:l.length≤9223372036854775807) {i:Nat} (hi:i<16) {nb H:Int} (B:1≤nb∧nb≤1000) (hH:1≤H∧H≤24) (k:Nat) (C:k≤l.length) :
  ∃ (u:UnitD) (v:Nat),UnitG i nb H u∧v≤l.length∧∀ K:LA→Int→O R,Rp N (i:Int) nb H (Az l) l.length t o (k:Int) K=K u.av (v:Int):=by
 obtain⟨y2,ky2,y20,y21,f,x⟩:=nx (R:=R) (N:=N) (t:=t) (o:=o) e nb (by omega) (by omega) k C
 obtain⟨y4,ky4,y40,y41,j,y⟩:=nx (R:=R) (N:=N) (t:=t) (o:=o) e 8 (by omega) (by omega) ky2 f
 obtain⟨y6,ky6,y60,y61,m,z⟩:=nx (R:=R) (N:=N) (t:=t) (o:=o) e 20 (by omega) (by omega) ky4 j
 obtain⟨y8,ky8,y80,y81,q,A⟩:=nx (R:=R) (N:=N) (t:=t) (o:=o) e 20 (by omega) (by omega) ky6 m
 obtain⟨y10,ky10,y100,y101,d,s⟩:=nx (R:=R) (N:=N) (t:=t) (o:=o) e 2 (by omega) (by omega) ky8 q
 obtain⟨n,hn⟩:∃ n:Nat,1+y10=(n:Int):=⟨(1+y10).toNat,by omega⟩
 obtain⟨u,v,D,F,G⟩:=EQ (R:=R) (N:=N) (l:=l) (t:=t) (o:=o) e (i:=i) (nb:=nb) (H:=H) (bus:=y2) (mn:=y4) (noLoad:=y6) ⟨y20,y21⟩ ⟨y40,y41⟩ ⟨y60,y61⟩ hH n N (y8 - 2) ky10 y4 [] (by omega) d (by simp;omega) (by simp;omega) (by simp) od (by simp[QZ]) (by omega) (by simp) (by omega) (by simp;omega)
 refine⟨u,v,D,F,fun K=>?_⟩
 rw[DQ];unfold Ui
 rw[Q6 hi,x,y,z,A,s,O1 (a:=y8 - 2) (by omega),O1 (a:=1+y10) (by omega),hn]
 simpa using G K
structure OutG (i:Nat) (nl nu:Nat) (x:OutD):Prop where
 name:x.name=[111,Aa5.getD i 0]
 ll:x.lines.l.length=1∨x.lines.l.length=2
 lr:∀ y ∈ x.lines.l,0≤y∧y<(nl:Int)
 la:iJ x.lines.l=true
 ml:x.moves.l.length≤nu
 mc:((x.moves.l.length:Int)==0||x.corr)=true
 mr:∀ m ∈ x.moves.l,0≤m.unit∧m.unit<(nu:Int)
 ma:iJ (x.moves.l.map (·.unit))=true
 mi:x.moves.l.all rM=true
theorem pW {s:Int}:∀ {S:List Int},iJ S=true→(∀ x ∈ S,x<s)→iJ (S++[s])=true
 | [],_,_=>TE s
 | [a],_,h=>by
  rw[Aeb,Afr,EB,TE]
  have:=h a (by simp);simp;omega
 | a::b::r,d,h=>by
  rw[EB] at d
  simp only[Ad3] at d
  rw[Aeb,Aeb,EB,d.1]
  have:=pW (S:=b::r) d.2 (fun x hx=>h x (by rcases Ad6.1 hx with e | e<;>simp[e]))
  simpa using this
theorem wB (S:List MoveD):(S.flatMap MoveD.av).length=S.length*3:=by
 induction S with
 | nil=>rfl
 | cons e r d=>rw[Aen,Adw,d,On];simp;omega
theorem XN {N:Nat} {l:List Int} {t o:Bool} (s:l.length≤9223372036854775807) {i nl nu:Nat} (u:nu≤16) {B:List Int} (hB1:B.length=1∨B.length=2) (hB2:∀ y ∈ B,0≤y∧y<(nl:Int)) (hB3:iJ B=true):∀ (m j fuel:Nat) (k:Nat) (S:List MoveD),j+m=nu→m<fuel→k≤l.length→S.length≤j→(∀ x ∈ S,0≤x.unit∧x.unit<(j:Int))→iJ (S.map (·.unit))=true→S.all rM=true →
  ∃ (x:OutD) (q:Nat),OutG i nl nu x∧q≤l.length∧∀ K:LA→Int→O R,El N K (nu:Int) (Az l) l.length t o [111,Aa5.getD i 0] B.length (Az B) fuel (j:Int) (k:Int) S.length (S.flatMap MoveD.av)=K x.av (q:Int)
 | 0,j,fuel+1,k,S,M,_,C,hS,hr,A,hi=>by
  have D:j=nu:=by omega
  subst D
  refine⟨⟨[111,Aa5.getD i 0],.of B false false,true,.of S false false⟩,k,⟨rfl,hB1,hB2,hB3,hS,by simp,hr,A,hi⟩,C,fun K=>?_⟩
  rw[El];unfold Hj
  rw[F9 (Ad4 _),cf,T2,Ad0 (by rw[wB];exact Ad4 _)]
  rfl
 | m+1,j,fuel+1,k,S,M,X,C,hS,hr,A,hi=>by
  obtain⟨y10,ky10,y100,y101,d,e⟩:=nx (R:=R) (N:=N) (t:=t) (o:=o) s 2 (by omega) (by omega) k C
  by_cases L:y10=1
  ·obtain⟨y12,ky12,y120,y121,f,v⟩:=nx (R:=R) (N:=N) (t:=t) (o:=o) s 8 (by omega) (by omega) ky10 d
   obtain⟨y14,ky14,y140,y141,n,z⟩:=nx (R:=R) (N:=N) (t:=t) (o:=o) s 8 (by omega) (by omega) ky12 f
   obtain⟨x,q,F,G,I⟩:=XN (N:=N) (t:=t) (o:=o) (i:=i) (nl:=nl) (nu:=nu) s u hB1 hB2 hB3 m (j+1) fuel ky14 (S++[(⟨j,y12,y14⟩:MoveD)]) (by omega) (by omega) n (by simp;omega) (by
    intro x hx
    rcases Ad7.1 hx with h | h
    ·have:=hr x h;omega
    ·simp at h;subst h;simp only;omega) (by
    rw[Afy];exact pW A (by
     intro x hx
     simp only[Aef] at hx
     obtain⟨y,T,rfl⟩:=hx
     exact(hr y T).2)) (by
    rw[List.all_append,hi]
    simp only[Aek,Aeu,Afd,Aex]
    unfold rM;rw[H5 (by simp only;omega),H5 (by simp only;omega)];rfl)
   refine⟨x,q,F,G,fun K=>?_⟩
   rw[El];unfold Hj
   have e1:(y10==1)=true:=by simpa using L
   have U:(ble (S.length+1) 140737488355328&&ble ((S.length+1)*24) 140737488355328)=true:=by rw[Ew,Ew];simp;omega
   have V:take (S.length*3) (S.flatMap MoveD.av)++[.int .i64 (j:Int),.int .i64 y12,.int .i64 y14]=(S++[(⟨j,y12,y14⟩:MoveD)]).flatMap MoveD.av:=by
    rw[Ad0 (by rw[wB];exact Ad4 _)];simp[MoveD.av]
   rw[Fn (by omega),ct,e,e1,ct,v,z,U,ct,V,Ez (by omega)]
   have:=I K
   rw[Adw] at this
   exact this
  ·obtain⟨x,q,F,G,I⟩:=XN (N:=N) (t:=t) (o:=o) (i:=i) (nl:=nl) (nu:=nu) s u hB1 hB2 hB3 m (j+1) fuel ky10 S (by omega) (by omega) d (by omega) (by intro x hx;have:=hr x hx;omega) A hi
   refine⟨x,q,F,G,fun K=>?_⟩
   rw[El];unfold Hj
   have e1:(y10==1)=false:=by simpa using L
   rw[Fn (by omega),ct,e,e1,cf,Ez (by omega),I]
theorem jx {N:Nat} {l:List Int} {t o:Bool} (hN:64≤N) (m:l.length≤9223372036854775807) {i nl nu:Nat} (j:nu≤16) {B:List Int} (hB1:B.length=1∨B.length=2) (hB2:∀ y ∈ B,0≤y∧y<(nl:Int)) (hB3:iJ B=true) (k:Nat) (q:k≤l.length) :
  ∃ (x:OutD) (f:Nat),OutG i nl nu x∧f≤l.length∧∀ K:LA→Int→O R,Em N K (nu:Int) (Az l) l.length t o [111,Aa5.getD i 0] (k:Int) B.length (Az B)=K x.av (f:Int):=by
 obtain⟨y8,ky8,y80,y81,d,e⟩:=nx (R:=R) (N:=N) (t:=t) (o:=o) m 2 (by omega) (by omega) k q
 by_cases n:y8=1
 ·obtain⟨x,f,s,u,v⟩:=XN (R:=R) (N:=N) (t:=t) (o:=o) (i:=i) (nl:=nl) (nu:=nu) m j hB1 hB2 hB3 nu 0 N ky8 [] (by omega) (by omega) d (by simp) (by simp) lm rfl
  refine⟨x,f,s,u,fun K=>?_⟩
  unfold Em Kr
  have e1:(y8==1)=true:=by simpa using n
  rw[e,e1,ct]
  simpa using v K
 ·refine⟨⟨[111,Aa5.getD i 0],.of B false false,false,.of [] false false⟩,ky8,⟨rfl,hB1,hB2,hB3,by simp[Sl.l],by simp[Sl.l],by simp[Sl.l],lm,rfl⟩,d,fun K=>?_⟩
  unfold Em Kr
  have e1:(y8==1)=false:=by simpa using n
  rw[e,e1,cf,T2]
  rfl
theorem pX {N:Nat} {l:List Int} {t o:Bool} (hN:64≤N) (n:l.length≤9223372036854775807) {i nl nu:Nat} (hi:i<16) (M:1≤nl∧nl≤1000) (q:nu≤16) (k:Nat) (S:k≤l.length) :
  ∃ (x:OutD) (d:Nat),OutG i nl nu x∧d≤l.length∧∀ K:LA→Int→O R,Ng N (i:Int) (nl:Int) (nu:Int) (Az l) l.length t o (k:Int) K=K x.av (d:Int):=by
 obtain⟨y2,ky2,y20,y21,s,j⟩:=nx (R:=R) (N:=N) (t:=t) (o:=o) n (nl:Int) (by omega) (by omega) k S
 obtain⟨y4,ky4,y40,y41,e,m⟩:=nx (R:=R) (N:=N) (t:=t) (o:=o) n (nl:Int) (by omega) (by omega) ky2 s
 have one:∀ D,D≤l.length→∃ (x:OutD) (d:Nat),OutG i nl nu x∧d≤l.length∧∀ K:LA→Int→O R,Em N K (nu:Int) (Az l) l.length t o [111,Aa5.getD i 0] (D:Int) 1 [.int .i64 y2]=K x.av (d:Int):=fun D F =>
  jx (i:=i) (nl:=nl) hN n q (B:=[y2]) (.inl rfl) (by intro y u;simp at u;subst u;exact⟨y20,y21⟩) (TE _) D F
 by_cases G:y4>y2
 ·obtain⟨y6,ky6,y60,y61,f,v⟩:=nx (R:=R) (N:=N) (t:=t) (o:=o) n 3 (by omega) (by omega) ky4 e
  by_cases L:y6=2
  ·obtain⟨x,d,z,A,C⟩:=jx (R:=R) (N:=N) (t:=t) (o:=o) (i:=i) (nl:=nl) (nu:=nu) hN n q (B:=[y2,y4]) (.inr rfl) (by intro y u;simp at u;rcases u with rfl | rfl<;>omega) (by rw[EB,TE];simp;omega) ky6 f
   refine⟨x,d,z,A,fun K=>?_⟩
   rw[Ks];unfold H6
   have e1:decide (y4>y2)=true:=by simpa using G
   have I:(y6==2)=true:=by simpa using L
   rw[Q6 hi,j,m,e1,v,I]
   simpa[Az] using C K
  ·obtain⟨x,d,z,A,C⟩:=one ky6 f
   refine⟨x,d,z,A,fun K=>?_⟩
   rw[Ks];unfold H6
   have e1:decide (y4>y2)=true:=by simpa using G
   have I:(y6==2)=false:=by simpa using L
   rw[Q6 hi,j,m,e1,v,I]
   exact C K
 ·obtain⟨x,d,z,A,C⟩:=one ky4 e
  refine⟨x,d,z,A,fun K=>?_⟩
  rw[Ks];unfold H6
  have e1:decide (y4>y2)=false:=by simpa using G
  rw[Q6 hi,j,m,e1]
  exact C K
def OI (f:Bool) (H:Nat) (res:List Int) (bs:List BusD) (ls:List LineD) (us:List UnitD) (ss:List StoreD) (ts:List TieD) (os:List OutD):CaseD :=
 ⟨(H:Int),.of res false f,.of bs false f,.of ls false f,.of us false f,.of ss false f,.of ts false f,.of os false f⟩
structure BusG (i H:Nat) (b:BusD):Prop where
 name:b.name=[98,Aa5.getD i 0]
 dl:b.demand.l.length=H
 dr:∀ x ∈ b.demand.l,0≤x∧x<14
 shed:0≤b.shed∧b.shed<300
structure StoreG (nb:Nat) (x:StoreD):Prop where
 name:x.name=[115,48]
 bus:0≤x.bus∧x.bus<(nb:Int)
 cap:0≤x.capacity∧x.capacity<20
 ini:0≤x.initial∧x.initial≤x.capacity
 fin:0≤x.final∧x.final≤x.capacity
 ch:0≤x.charge∧x.charge<8
 dis:0≤x.discharge∧x.discharge<8
 eff:1≤x.eff.num∧x.eff.num≤4∧x.eff.den=4
structure TieG (nb H:Nat) (x:TieD):Prop where
 name:x.name=[116,48]
 bus:0≤x.bus∧x.bus<(nb:Int)
 il:x.imp.l.length=H
 ir:∀ y ∈ x.imp.l,0≤y∧y<12
 el:x.exp.l.length=H
 er:∀ y ∈ x.exp.l,0≤y∧y<12
 pl:x.price.l.length=H
 pr:∀ y ∈ x.price.l,0≤y∧y<40
structure LineH (nb:Nat) (i:Nat) (H:Int) (x:LineD):Prop where
 g:LineG i x.fr x.tl H x
 fr:0≤x.fr∧x.fr<(nb:Int)
 tx:0≤x.tl∧x.tl<(nb:Int)
 ne:x.fr≠x.tl
structure BaseG (H:Nat) (res:List Int) (bs:List BusD) (ls:List LineD) (us:List UnitD) (ss:List StoreD) (ts:List TieD):Prop where
 h:1≤H∧H≤3
 rl:res.length=H
 rr:∀ x ∈ res,0≤x∧x<5
 bl:1≤bs.length∧bs.length≤4
 bg:∀ i (h:i<bs.length),BusG i H bs[i]
 ll:ls.length≤7
 lg:∀ i (h:i<ls.length),LineH bs.length i H ls[i]
 ul:1≤us.length∧us.length≤3
 ug:∀ i (h:i<us.length),UnitG i bs.length H us[i]
 sl:ss.length≤1
 sg:∀ x ∈ ss,StoreG bs.length x
 tl:ts.length≤1
 tg:∀ x ∈ ts,TieG bs.length H x
structure OutsG (nl nu:Nat) (os:List OutD):Prop where
 l:os.length≤3
 g:∀ i (h:i<os.length),OutG i nl nu os[i]
theorem uN {N:Nat} (hN:4096≤N) {f:Bool} {H:Nat} {res:List Int} {bs:List BusD} {ls:List LineD} {us:List UnitD} {ss:List StoreD} {ts:List TieD} {os:List OutD} (b:BaseG H res bs ls us ss ts) (g:OutsG ls.length us.length os):Small (OI f H res bs ls us ss ts os) N:=by
 have h:=b.h;have rl:=b.rl;have bl:=b.bl;have ll:=b.ll;have ul:=b.ul;have sl:=b.sl;have tl:=b.tl;have ol:=g.l
 have fit:∀ n:Nat,n≤100→Qo n N:=fun n hn=>⟨by omega,by omega⟩
 refine⟨by omega,fit _ (by simp only[OI,Sl.l];omega),fit _ (by simp only[OI,Sl.l];omega),fit _ (by simp only[OI,Sl.l];omega),fit _ (by simp only[OI,Sl.l];omega),fit _ (by simp only[OI,Sl.l];omega),fit _ (by simp only[OI,Sl.l];omega),fit _ (by simp only[OI,Sl.l];omega),
  fun x hx=>?_,fun x hx=>?_,fun x hx=>?_,fun x hx=>?_,fun x hx=>?_,fun x hx=>?_,fun x hx=>?_,fun x hx=>?_,fun x hx=>?_,fun x hx=>?_,by simp only[OI,Sl.l];omega⟩
 all_goals simp only[OI,Sl.l] at hx
 ·obtain⟨i,hi,rfl⟩:=Aep hx;have:=(b.bg i hi).dl;exact fit _ (by omega)
 ·obtain⟨i,hi,rfl⟩:=Aep hx;have:=(b.lg i hi).g.aw;exact fit _ (by omega)
 ·obtain⟨i,hi,rfl⟩:=Aep hx;have:=(b.ug i hi).sl;exact fit _ (by omega)
 ·obtain⟨i,hi,rfl⟩:=Aep hx;have:=(b.ug i hi).aw;exact fit _ (by omega)
 ·have:=(b.tg x hx).il;exact fit _ (by omega)
 ·have:=(b.tg x hx).el;exact fit _ (by omega)
 ·have:=(b.tg x hx).pl;exact fit _ (by omega)
 ·obtain⟨i,hi,rfl⟩:=Aep hx;have:=(g.g i hi).ll;exact fit _ (by omega)
 ·obtain⟨i,hi,rfl⟩:=Aep hx;have:=(g.g i hi).ml;exact fit _ (by omega)
 ·obtain⟨i,hi,rfl⟩:=Aep hx;have:=(g.g i hi).ml;omega
theorem LV {α:Type} {e:α→LA} {sz:Nat} (d:∀ a,(e a).length=sz) (l:List α):(l.flatMap e).length=l.length*sz:=by
 induction l with
 | nil=>simp
 | cons a r f=>rw[Aen,Adw,f,d,Adx,Afn];omega
theorem B6 {α:Type} {e:α→LA} {sz n:Nat} (d:∀ a,(e a).length=sz) (l:List α) (hn:n=l.length):take (n*sz) (l.flatMap e)=l.flatMap e:=Ad0 (by rw[LV d,hn];exact Ad4 _)
theorem Oa {B:List Int} {n:Nat} (h:n=B.length):take (n*1) (Az B)=B.flatMap Fh:=by rw[h];exact T2
theorem LW {α:Type} {P:Nat→α→Prop} {l:List α} {x:α} (h:∀ i (h:i<l.length),P i l[i]) (hx:P l.length x):∀ i (h:i<(l++[x]).length),P i (l++[x])[i]:=by
 intro i hi
 by_cases d:i<l.length
 ·rw[List.getElem_append_left d];exact h i d
 ·have:i=l.length:=by simp at hi;omega
  subst this
  simpa using hx
theorem rc {p:I6} (h:(H1 p==0)=true):p=none:=by
 rcases p with _ | ⟨x,e,d⟩
 ·rfl
 ·simp[H1] at h;exact absurd h d
theorem mX {N:Nat} {l:List Int} {o:Bool} (hN:4096≤N) (q:l.length≤9223372036854775807) {H:Nat} {res:List Int} {bs:List BusD} {ls:List LineD} {us:List UnitD} {ss:List StoreD} {ts:List TieD} (b:BaseG H res bs ls us ss ts):∀ (n fuel k:Nat) (os:List OutD),n<fuel→k≤l.length→os.length+n≤3→OutsG ls.length us.length os→(os=[]∨LR (OI true H res bs ls us ss ts os)=none) →
  ∃ d,OutsG ls.length us.length d∧(d=[]∨LR (OI true H res bs ls us ss ts d)=none)∧∀ K:LA→O R,Hq N K (Az l) l.length o (H:Int) res.length bs.length ls.length us.length ss.length ts.length (Az res) (bs.flatMap BusD.av) (ls.flatMap LineD.av) (us.flatMap UnitD.av) (ss.flatMap StoreD.av) (ts.flatMap TieD.av) fuel (n:Int) (k:Int) os.length (os.flatMap OutD.av)=K (OI false H res bs ls us ss ts d).av
 | 0,fuel+1,k,os,_,s,_,g,j=>by
  refine⟨os,g,j,fun K=>?_⟩
  rw[Hq];unfold Vx
  rw[show decide (((0:Nat):Int)>0)=false from rfl,Oa rfl,B6 Kb _ rfl,B6 Gi _ rfl,B6 H7 _ rfl,B6 Ns _ rfl,B6 Lz _ rfl,B6 Nt _ rfl]
  rfl
 | n+1,fuel+1,k,os,D,s,hn,g,j=>by
  by_cases u:ls.length=0
  ·refine⟨os,g,j,fun K=>?_⟩
   rw[Hq];unfold Vx
   rw[show decide ((ls.length:Int)>0)=false from decide_eq_false (by omega),show decide (((n+1:Nat):Int)>0)=true from decide_eq_true (by omega),Oa rfl,B6 Kb _ rfl,B6 Gi _ rfl,B6 H7 _ rfl,B6 Ns _ rfl,B6 Lz _ rfl,B6 Nt _ rfl]
   rfl
  ·have v:=b.ul;have y:=b.ll
   obtain⟨x,m,gx,e,hx⟩:=pX (R:=R) (N:=N) (t:=false) (o:=o) (by omega) q (i:=os.length) (nl:=ls.length) (nu:=us.length) (by omega) (by omega) (by omega) k s
   have g':OutsG ls.length us.length (os++[x]):=⟨by simp;omega,LW g.g gx⟩
   have sm:=uN (f:=true) hN b g'
   have wn:wrap .i64 (((n+1:Nat):Int) - 1)=(n:Int):=fV (by omega)
   have step:∀ K:LA→O R,Hq N K (Az l) l.length o (H:Int) res.length bs.length ls.length us.length ss.length ts.length (Az res) (bs.flatMap BusD.av) (ls.flatMap LineD.av) (us.flatMap UnitD.av) (ss.flatMap StoreD.av) (ts.flatMap TieD.av) (fuel+1) ((n+1:Nat):Int) (k:Int) os.length (os.flatMap OutD.av) =
     cond (H1 (LR (OI true H res bs ls us ss ts (os++[x])))==0)
      (Hq N K (Az l) l.length o (H:Int) res.length bs.length ls.length us.length ss.length ts.length (Az res) (bs.flatMap BusD.av) (ls.flatMap LineD.av) (us.flatMap UnitD.av) (ss.flatMap StoreD.av) (ts.flatMap TieD.av) fuel (n:Int) (m:Int) (os++[x]).length ((os++[x]).flatMap OutD.av))
      (Hq N K (Az l) l.length o (H:Int) res.length bs.length ls.length us.length ss.length ts.length (Az res) (bs.flatMap BusD.av) (ls.flatMap LineD.av) (us.flatMap UnitD.av) (ss.flatMap StoreD.av) (ts.flatMap TieD.av) fuel (n:Int) (m:Int) os.length (os.flatMap OutD.av)):=fun K=>by
    rw[Hq];unfold Vx HC
    have c1:(ble (0+os.length) 140737488355328&&ble ((0+os.length)*72) 140737488355328)=true:=by rw[Ew,Ew];simp;omega
    have z:(ble ((0+os.length)+1) 140737488355328&&ble (((0+os.length)+1)*72) 140737488355328)=true:=by rw[Ew,Ew];simp;omega
    have A:take ((0+os.length)*4) (take (os.length*4) (os.flatMap OutD.av))++take 4 (setCells [(.str ([]:Lu)),.nsl,(.bool false),.nsl] 0 (take 4 x.av))=(os++[x]).flatMap OutD.av:=by
     rw[Aec,B6 Nt _ rfl,B6 Nt _ rfl]
     simp only[Af3,Aen,Aft,Aej]
     rfl
    have B:take (((0+os.length)+1)*4) ((os++[x]).flatMap OutD.av)=(os++[x]).flatMap OutD.av:=B6 Nt _ (by simp)
    have C:(0+os.length)+1=(os++[x]).length:=by simp
    rw[show decide ((ls.length:Int)>0)=true from decide_eq_true (by omega),show decide (((n+1:Nat):Int)>0)=true from decide_eq_true (by omega)]
    simp only[beq_self_eq_true,cond_true]
    rw[hx,show((beq 0 0)&&((beq (List.length x.av) 4)&&(beq 4 4)))=true from rfl,ct,c1,ct,show ble 4 (List.length x.av)=true from rfl,ct,show((beq (List.length (take 4 x.av)) 4)&&(ble 4 4))=true from rfl,ct,z,ct,A,B,C,Oa rfl,B6 Kb _ rfl,B6 Gi _ rfl,B6 H7 _ rfl,B6 Ns _ rfl,B6 Lz _ rfl]
    refine Agl (gV (R:=R) (N:=N) (c:=OI true H res bs ls us ss ts (os++[x])) (o:=true) sm hN) ?_
    rw[yK,show((beq 3 3)&&((ble 3 3)&&(!false)))=true from rfl,ct,wn]
   cases hq:H1 (LR (OI true H res bs ls us ss ts (os++[x])))==0 with
   | true =>
    obtain⟨d,a1,a2,a3⟩:=mX hN q b n fuel m (os++[x]) (by omega) e (by simp;omega) g' (.inr (rc hq))
    exact⟨d,a1,a2,fun K=>by rw[step,hq,ct,a3]⟩
   | false =>
    obtain⟨d,a1,a2,a3⟩:=mX hN q b n fuel m os (by omega) e (by omega) g j
    exact⟨d,a1,a2,fun K=>by rw[step,hq,cf,a3]⟩
def LX (c:CaseD):Prop:=∃ (H:Nat) (res:List Int) (bs:List BusD) (ls:List LineD) (us:List UnitD) (ss:List StoreD) (ts:List TieD) (os:List OutD),
 BaseG H res bs ls us ss ts∧OutsG ls.length us.length os∧(os=[]∨LR (OI true H res bs ls us ss ts os)=none)∧c=OI false H res bs ls us ss ts os
theorem sy {N:Nat} {l:List Int} {o:Bool} (hN:4096≤N) (e:l.length≤9223372036854775807) {H:Nat} {res:List Int} {bs:List BusD} {ls:List LineD} {us:List UnitD} {ss:List StoreD} {ts:List TieD} (b:BaseG H res bs ls us ss ts) (k:Nat) (f:k≤l.length) :
  ∃ c,LX c∧∀ K:LA→O R,HD N K (Az l) l.length o (H:Int) res.length bs.length ls.length us.length ss.length (Az res) (bs.flatMap BusD.av) (ls.flatMap LineD.av) (us.flatMap UnitD.av) (ss.flatMap StoreD.av) (k:Int) ts.length (ts.flatMap TieD.av)=K c.av:=by
 obtain⟨y,j,y0,y1,d,m⟩:=nx (R:=R) (N:=N) (t:=false) (o:=o) e 4 (by omega) (by omega) k f
 obtain⟨n,hn⟩:∃ n:Nat,y=(n:Int):=⟨y.toNat,by omega⟩
 subst hn
 obtain⟨os,a1,a2,a3⟩:=mX (R:=R) (o:=o) hN e b n N j [] (by omega) d (by simp;omega) ⟨by simp,by simp⟩ (.inl rfl)
 refine⟨_,⟨H,res,bs,ls,us,ss,ts,os,b,a1,a2,rfl⟩,fun K=>?_⟩
 unfold HD LU
 rw[m]
 simpa using a3 K
theorem tA {N:Nat} {l:List Int} {o:Bool} (hN:4096≤N) (n:l.length≤9223372036854775807) {H:Nat} {res:List Int} {bs:List BusD} {ls:List LineD} {us:List UnitD} {ss:List StoreD} (b:BaseG H res bs ls us ss []) (k:Nat) (T:k≤l.length) :
  ∃ c,LX c∧∀ K:LA→O R,Zz N K (bs.length:Int) (Az l) l.length o (H:Int) res.length bs.length ls.length us.length (Az res) (bs.flatMap BusD.av) (ls.flatMap LineD.av) (us.flatMap UnitD.av) (k:Int) ss.length (ss.flatMap StoreD.av)=K c.av:=by
 have X:=b.bl;have hH:=b.h
 obtain⟨y50,u,y500,y501,f,j⟩:=nx (R:=R) (N:=N) (t:=false) (o:=o) n 3 (by omega) (by omega) k T
 by_cases S:y50=2
 ·have z:(y50==2)=true:=by simpa using S
  obtain⟨y52,A,y520,y521,v,y⟩:=nx (R:=R) (N:=N) (t:=false) (o:=o) n (bs.length:Int) (by omega) (by omega) u f
  obtain⟨B1,U,d,B,C,hB1⟩:=Z1 (R:=R) (N:=N) (m:=H) (t:=false) (o:=o) (by omega) n 12 (by omega) (by omega) (by omega) A v
  obtain⟨B2,k2,q,D,F,hB2⟩:=Z1 (R:=R) (N:=N) (m:=H) (t:=false) (o:=o) (by omega) n 12 (by omega) (by omega) (by omega) U C
  obtain⟨B3,V,s,G,I,hB3⟩:=Z1 (R:=R) (N:=N) (m:=H) (t:=false) (o:=o) (by omega) n 40 (by omega) (by omega) (by omega) k2 F
  obtain⟨c,L,M⟩:=sy (R:=R) (o:=o) hN n (ts:=[⟨[116,48],y52,.of B1 false false,.of B2 false false,.of B3 false false⟩]) ⟨b.h,b.rl,b.rr,b.bl,b.bg,b.ll,b.lg,b.ul,b.ug,b.sl,b.sg,by simp,by
   intro x hx;simp at hx;subst hx
   exact⟨rfl,⟨y520,y521⟩,d,B,q,D,s,G⟩⟩ V I
  refine⟨c,L,fun K=>?_⟩
  unfold Zz BP
  rw[j,z,ct,y,hB1,hB2,hB3,Oa d.symm,Oa q.symm,Oa s.symm,←M K,←d]
  simp only[d]
  have e:List.flatMap TieD.av [⟨[116,48],y52,.of B1 false false,.of B2 false false,.of B3 false false⟩]=[(.str ([116,48]:Lu)),(.int .i64 y52),(.imm (B1.flatMap Fh) H 1 false false),(.imm (B2.flatMap Fh) H 1 false false),(.imm (B3.flatMap Fh) H 1 false false)]:=by
   simp[TieD.av,Sl.av,d,q,s]
  rw[e];rfl
 ·have z:(y50==2)=false:=by simpa using S
  obtain⟨c,L,M⟩:=sy (R:=R) (o:=o) hN n b u f
  refine⟨c,L,fun K=>?_⟩
  unfold Zz BP
  rw[j,z,cf,←M K];rfl
theorem tB {N:Nat} {l:List Int} {o:Bool} (hN:4096≤N) (d:l.length≤9223372036854775807) {H:Nat} {res:List Int} {bs:List BusD} {ls:List LineD} (h:1≤H∧H≤3) (rl:res.length=H) (rr:∀ x ∈ res,0≤x∧x<5) (bl:1≤bs.length∧bs.length≤4) (bg:∀ i (h:i<bs.length),BusG i H bs[i]) (ll:ls.length≤7) (lg:∀ i (h:i<ls.length),LineH bs.length i H ls[i]) :
  ∀ (n fuel k:Nat) (us:List UnitD),n<fuel→k≤l.length→us.length+n≤3→1≤us.length+n→(∀ i (h:i<us.length),UnitG i bs.length H us[i]) →
  ∃ c,LX c∧∀ K:LA→O R,N8 N K (bs.length:Int) (Az l) l.length o (H:Int) res.length bs.length (Az res) (bs.flatMap BusD.av) fuel (n:Int) (k:Int) ls.length us.length (ls.flatMap LineD.av) (us.flatMap UnitD.av)=K c.av
 | 0,fuel+1,k,us,_,T,hn,U,ug=>by
  obtain⟨y34,j,y340,y341,e,f⟩:=nx (R:=R) (N:=N) (t:=false) (o:=o) d 3 (by omega) (by omega) k T
  by_cases h2:y34=2
  ·have V:(y34==2)=true:=by simpa using h2
   obtain⟨y36,X,y360,y361,m,q⟩:=nx (R:=R) (N:=N) (t:=false) (o:=o) d (bs.length:Int) (by omega) (by omega) j e
   obtain⟨y38,Y,y380,y381,s,v⟩:=nx (R:=R) (N:=N) (t:=false) (o:=o) d 20 (by omega) (by omega) X m
   obtain⟨y40,k40,y400,y401,y,z⟩:=nx (R:=R) (N:=N) (t:=false) (o:=o) d 8 (by omega) (by omega) Y s
   obtain⟨y42,k42,y420,y421,A,B⟩:=nx (R:=R) (N:=N) (t:=false) (o:=o) d 8 (by omega) (by omega) k40 y
   obtain⟨y44,k44,y440,y441,C,D⟩:=nx (R:=R) (N:=N) (t:=false) (o:=o) d 4 (by omega) (by omega) k42 A
   obtain⟨y46,k46,y460,y461,F,G⟩:=nx (R:=R) (N:=N) (t:=false) (o:=o) d (y38+1) (by omega) (by omega) k44 C
   obtain⟨y48,k48,y480,y481,I,L⟩:=nx (R:=R) (N:=N) (t:=false) (o:=o) d (y38+1) (by omega) (by omega) k46 F
   obtain⟨c,M,S⟩:=tA (R:=R) (o:=o) hN d (us:=us) (ss:=[⟨[115,48],y36,y38,y46,y48,y40,y42,⟨1+y44,4⟩⟩]) ⟨h,rl,rr,bl,bg,ll,lg,⟨by omega,by omega⟩,ug,by simp,by
    intro x hx;simp at hx;subst hx
    exact⟨rfl,⟨y360,y361⟩,⟨y380,y381⟩,⟨y460,by simp only;omega⟩,⟨y480,by simp only;omega⟩,⟨y400,y401⟩,⟨y420,y421⟩,by simp only;omega,by simp only;omega,rfl⟩,by simp,by simp⟩ k48 I
   refine⟨c,M,fun K=>?_⟩
   rw[N8];unfold Vy
   rw[show decide (((0:Nat):Int)>0)=false from rfl,cf,f,V,ct,q,v,z,B,D,O1 (a:=y38+1) (by omega),G,L,O1 (a:=1+y44) (by omega),←S K]
   rfl
  ·have V:(y34==2)=false:=by simpa using h2
   obtain⟨c,M,S⟩:=tA (R:=R) (o:=o) hN d (us:=us) (ss:=[]) ⟨h,rl,rr,bl,bg,ll,lg,⟨by omega,by omega⟩,ug,by simp,by simp,by simp,by simp⟩ j e
   refine⟨c,M,fun K=>?_⟩
   rw[N8];unfold Vy
   rw[show decide (((0:Nat):Int)>0)=false from rfl,cf,f,V,cf,←S K]
   rfl
 | n+1,fuel+1,k,us,hf,T,hn,U,ug=>by
  obtain⟨u,k1,gu,hk1,hu⟩:=XD (R:=R) (N:=N) (t:=false) (o:=o) (by omega) d (i:=us.length) (by omega) (nb:=(bs.length:Int)) (H:=(H:Int)) (by omega) (by omega) k T
  obtain⟨c,M,S⟩:=tB (o:=o) hN d h rl rr bl bg ll lg n fuel k1 (us++[u]) (by omega) hk1 (by simp;omega) (by simp;omega) (LW (P:=fun i u=>UnitG i bs.length H u) ug gu)
  refine⟨c,M,fun K=>?_⟩
  rw[N8];unfold Vy
  have wn:wrap .i64 (((n+1:Nat):Int) - 1)=(n:Int):=fV (by omega)
  have c2:(ble (us.length+1) 140737488355328&&ble ((us.length+1)*216) 140737488355328)=true:=by rw[Ew,Ew];simp;omega
  have c3:take (us.length*22) (us.flatMap UnitD.av)++u.av=(us++[u]).flatMap UnitD.av:=by rw[B6 H7 _ rfl];simp
  rw[show decide (((n+1:Nat):Int)>0)=true from decide_eq_true (by omega),ct,hu,show((beq (List.length u.av) 22)&&(ble 22 22))=true from rfl,ct,c2,ct,wn,←S K,←c3,Adw]
  rfl
theorem xC {N:Nat} {l:List Int} {o:Bool} (hN:4096≤N) (s:l.length≤9223372036854775807) {H:Nat} {res:List Int} {bs:List BusD} (h:1≤H∧H≤3) (rl:res.length=H) (rr:∀ x ∈ res,0≤x∧x<5) (bl:1≤bs.length∧bs.length≤4) (bg:∀ i (h:i<bs.length),BusG i H bs[i]) :
  ∀ (n fuel k:Nat) (ls:List LineD),n<fuel→k≤l.length→ls.length+n≤7→(∀ i (h:i<ls.length),LineH bs.length i H ls[i]) →
  ∃ c,LX c∧∀ K:LA→O R,N9 N K (bs.length:Int) (Az l) l.length o (H:Int) res.length bs.length (Az res) (bs.flatMap BusD.av) fuel (n:Int) (k:Int) ls.length (ls.flatMap LineD.av)=K c.av:=by
 have fin:∀ (k:Nat) (ls:List LineD),k≤l.length→ls.length≤7→(∀ i (h:i<ls.length),LineH bs.length i H ls[i])→∃ c,LX c∧∀ K:LA→O R,(Ae N (3:Int) (Az l) l.length false o (k:Int) fun y22 y23=>N8 N K (bs.length:Int) (Az l) l.length o (H:Int) res.length bs.length (Az res) (bs.flatMap BusD.av) N (wrap .i64 ((1:Int)+y22)) y23 ls.length 0 (ls.flatMap LineD.av) [])=K c.av:=by
  intro k ls q ll lg
  obtain⟨y,B,y0,y1,d,G⟩:=nx (R:=R) (N:=N) (t:=false) (o:=o) s 3 (by omega) (by omega) k q
  obtain⟨n,hn⟩:∃ n:Nat,1+y=(n:Int):=⟨(1+y).toNat,by omega⟩
  obtain⟨c,j,m⟩:=tB (R:=R) (o:=o) hN s h rl rr bl bg ll lg n N B [] (by omega) d (by simp;omega) (by simp;omega) (by simp)
  refine⟨c,j,fun K=>?_⟩
  rw[G,O1 (a:=1+y) (by omega),hn]
  simpa using m K
 intro n
 induction n with
 | zero =>
  intro fuel k ls I q hn lg
  obtain⟨c,j,m⟩:=fin k ls q (by omega) lg
  refine⟨c,j,fun K=>?_⟩
  obtain⟨fuel,rfl⟩:∃ f,fuel=f+1:=⟨fuel - 1,by omega⟩
  rw[N9];unfold Vz
  rw[show decide (((0:Nat):Int)>0)=false from rfl,←m K]
  rfl
 | succ n L =>
  intro fuel k ls I q hn lg
  obtain⟨fuel,rfl⟩:∃ f,fuel=f+1:=⟨fuel - 1,by omega⟩
  by_cases M:bs.length=1
  ·obtain⟨c,j,m⟩:=fin k ls q (by omega) lg
   refine⟨c,j,fun K=>?_⟩
   rw[N9];unfold Vz
   rw[show decide (((n+1:Nat):Int)>0)=true from decide_eq_true (by omega),show decide ((bs.length:Int)>1)=false from decide_eq_false (by omega),←m K]
   rfl
  ·obtain⟨y26,C,y260,y261,u,v⟩:=nx (R:=R) (N:=N) (t:=false) (o:=o) s (bs.length:Int) (by omega) (by omega) k q
   obtain⟨y28,D,y280,y281,z,A⟩:=nx (R:=R) (N:=N) (t:=false) (o:=o) s ((bs.length:Int) - 1) (by omega) (by omega) C u
   have tm:∃ tx:Int,Int.tmod (y26+1+y28) (bs.length:Int)=tx∧0≤tx∧tx<(bs.length:Int)∧y26≠tx:=by
    refine⟨_,rfl,Int.tmod_nonneg _ (by omega),Ah4 _ (by omega),?_⟩
    by_cases F:y26+1+y28<(bs.length:Int)
    ·rw[Int.tmod_eq_of_lt (by omega) F];omega
    ·have:Int.tmod (y26+1+y28) (bs.length:Int)=y26+1+y28 - (bs.length:Int):=by
      have e:y26+1+y28=(y26+1+y28 - (bs.length:Int))+1*(bs.length:Int):=by omega
      rw[Int.tmod_eq_emod_of_nonneg (by omega)]
      conv=>lhs;rw[e]
      rw[Int.add_mul_emod_self_right,Int.emod_eq_of_lt (by omega) (by omega)]
     rw[this];omega
   obtain⟨tx,S,t0,t1,tne⟩:=tm
   obtain⟨x,B,gx,d,hx⟩:=NI (R:=R) (N:=N) (t:=false) (o:=o) s (i:=ls.length) (by omega) y26 tx (H:=(H:Int)) (by omega) D z
   obtain⟨c,j,m⟩:=L fuel B (ls++[x]) (by omega) d (by simp;omega) (LW (P:=fun i x=>LineH bs.length i H x) lg ⟨by rw[gx.fr,gx.tx];exact gx,by rw[gx.fr];exact⟨y260,y261⟩,by rw[gx.tx];exact⟨t0,t1⟩,by rw[gx.fr,gx.tx];exact tne⟩)
   refine⟨c,j,fun K=>?_⟩
   rw[N9];unfold Vz HB
   have wn:wrap .i64 (((n+1:Nat):Int) - 1)=(n:Int):=fV (by omega)
   have T:(ble (ls.length+1) 140737488355328&&ble ((ls.length+1)*120) 140737488355328)=true:=by rw[Ew,Ew];simp;omega
   have U:take (ls.length*12) (ls.flatMap LineD.av)++x.av=(ls++[x]).flatMap LineD.av:=by rw[B6 Gi _ rfl];simp
   rw[show decide (((n+1:Nat):Int)>0)=true from decide_eq_true (by omega),show decide ((bs.length:Int)>1)=true from decide_eq_true (by omega)]
   simp only[beq_self_eq_true,cond_true]
   rw[v,O1 (a:=(bs.length:Int) - 1) (by omega),A,show((bs.length:Int)==0)=false from beq_eq_false_iff_ne.2 (by omega),cf,O1 (a:=y26+1) (by omega),O1 (a:=y26+1+y28) (by omega),S,hx,show((beq (List.length x.av) 12)&&(ble 12 12))=true from rfl,ct,T,ct,wn,←m K,←U,Adw]
   rfl
theorem tC {N:Nat} {l:List Int} {o:Bool} (hN:4096≤N) (e:l.length≤9223372036854775807) {H:Nat} {res:List Int} {bs:List BusD} (h:1≤H∧H≤3) (rl:res.length=H) (rr:∀ x ∈ res,0≤x∧x<5) (bl:1≤bs.length∧bs.length≤4) (bg:∀ i (h:i<bs.length),BusG i H bs[i]) :
  ∀ (m j fuel k:Nat) (ls:List LineD),j+1+m=bs.length→m<fuel→k≤l.length→ls.length=j→(∀ i (h:i<ls.length),LineH bs.length i H ls[i]) →
  ∃ c,LX c∧∀ K:LA→O R,T1 N K (Az l) l.length o (H:Int) res.length bs.length (Az res) (bs.flatMap BusD.av) fuel (bs.length:Int) ((j+1:Nat):Int) (k:Int) ls.length (ls.flatMap LineD.av)=K c.av
 | 0,j,fuel+1,k,ls,B,_,q,f,lg=>by
  obtain⟨y,s,y0,y1,d,u⟩:=nx (R:=R) (N:=N) (t:=false) (o:=o) e 5 (by omega) (by omega) k q
  obtain⟨n,hn⟩:∃ n:Nat,y=(n:Int):=⟨y.toNat,by omega⟩
  subst hn
  obtain⟨c,v,z⟩:=xC (R:=R) (o:=o) hN e h rl rr bl bg n N s ls (by omega) d (by omega) lg
  refine⟨c,v,fun K=>?_⟩
  rw[T1];unfold BQ
  rw[F9 (by omega),cf,u];exact z K
 | m+1,j,fuel+1,k,ls,B,F,q,f,lg=>by
  obtain⟨y,s,y0,y1,d,u⟩:=nx (R:=R) (N:=N) (t:=false) (o:=o) e ((j+1:Nat):Int) (by omega) (by omega) k q
  obtain⟨x,k2,gx,A,hx⟩:=NI (R:=R) (N:=N) (t:=false) (o:=o) e (i:=ls.length) (by omega) y ((j+1:Nat):Int) (H:=(H:Int)) (by omega) s d
  obtain⟨c,v,z⟩:=tC (o:=o) hN e h rl rr bl bg m (j+1) fuel k2 (ls++[x]) (by omega) (by omega) A (by simp[f]) (LW (P:=fun i x=>LineH bs.length i H x) lg ⟨by rw[gx.fr,gx.tx];exact gx,by rw[gx.fr];omega,by rw[gx.tx];omega,by rw[gx.fr,gx.tx];omega⟩)
  refine⟨c,v,fun K=>?_⟩
  rw[T1];unfold BQ
  have C:(ble (ls.length+1) 140737488355328&&ble ((ls.length+1)*120) 140737488355328)=true:=by rw[Ew,Ew];simp;omega
  have D:take (ls.length*12) (ls.flatMap LineD.av)++x.av=(ls++[x]).flatMap LineD.av:=by rw[B6 Gi _ rfl];simp
  rw[Fn (by omega),ct,u,hx,show((beq (List.length x.av) 12)&&(ble 12 12))=true from rfl,ct,C,ct,Ez (by omega),←z K,←D,Adw]
  rfl
theorem tD {N:Nat} {l:List Int} {o:Bool} (hN:4096≤N) (q:l.length≤9223372036854775807) {H:Nat} {res:List Int} (h:1≤H∧H≤3) (rl:res.length=H) (rr:∀ x ∈ res,0≤x∧x<5) :
  ∀ (n fuel k:Nat) (bs:List BusD),n<fuel→k≤l.length→bs.length+n≤4→1≤bs.length+n→(∀ i (h:i<bs.length),BusG i H bs[i]) →
  ∃ c,LX c∧∀ K:LA→O R,Lk N K (Az l) l.length o res.length (Az res) fuel (n:Int) (k:Int) (H:Int) bs.length (bs.flatMap BusD.av)=K c.av
 | 0,fuel+1,k,bs,_,A,hn,C,bg=>by
  obtain⟨c,f,j⟩:=tC (R:=R) (o:=o) hN q h rl rr ⟨by omega,by omega⟩ bg (bs.length - 1) 0 N k [] (by omega) (by omega) A rfl (by simp)
  refine⟨c,f,fun K=>?_⟩
  rw[Lk];unfold V0
  rw[show decide (((0:Nat):Int)>0)=false from rfl,cf,←j K]
  rfl
 | n+1,fuel+1,k,bs,V,A,hn,C,bg=>by
  obtain⟨B,M,z,S,D,hB⟩:=Z1 (R:=R) (N:=N) (m:=H) (t:=false) (o:=o) (by omega) q 14 (by omega) (by omega) (by omega) k A
  obtain⟨y12,u,y120,y121,d,e⟩:=nx (R:=R) (N:=N) (t:=false) (o:=o) q 2 (by omega) (by omega) M D
  have wn:wrap .i64 (((n+1:Nat):Int) - 1)=(n:Int):=fV (by omega)
  have I:(ble (bs.length+1) 140737488355328&&ble ((bs.length+1)*48) 140737488355328)=true:=by rw[Ew,Ew];simp;omega
  have T:∀ s:Int,take (bs.length*3) (bs.flatMap BusD.av)++[(.str [98,Aa5.getD bs.length 0]),(.imm (B.flatMap Fh) H 1 false false),(.int .i64 s)]=(bs++[(⟨[98,Aa5.getD bs.length 0],.of B false false,s⟩:BusD)]).flatMap BusD.av:=fun s=>by
   rw[B6 Kb _ rfl];simp[BusD.av,Sl.av,z]
  have go:∀ (s:Int) (kk:Nat),0≤s→s<300→kk≤l.length→∃ c,LX c∧∀ K:LA→O R,Lk N K (Az l) l.length o res.length (Az res) fuel (n:Int) (kk:Int) (H:Int) (bs.length+1) (take (bs.length*3) (bs.flatMap BusD.av)++[(.str [98,Aa5.getD bs.length 0]),(.imm (B.flatMap Fh) H 1 false false),(.int .i64 s)])=K c.av:=by
   intro s kk U s1 F
   have gb:BusG bs.length H (⟨[98,Aa5.getD bs.length 0],.of B false false,s⟩:BusD):=⟨rfl,z,S,U,s1⟩
   obtain⟨c,f,j⟩:=tD (o:=o) hN q h rl rr n fuel kk (bs++[(⟨[98,Aa5.getD bs.length 0],.of B false false,s⟩:BusD)]) (by omega) F (by simp;omega) (by simp;omega) (LW (P:=fun i x=>BusG i H x) bg gb)
   refine⟨c,f,fun K=>?_⟩
   rw[T,←j K,Adw]
   rfl
  by_cases L:y12=1
  ·have e1:(y12==1)=true:=by simpa using L
   obtain⟨y14,G,y140,y141,v,y⟩:=nx (R:=R) (N:=N) (t:=false) (o:=o) q 200 (by omega) (by omega) u d
   obtain⟨c,f,j⟩:=go (100+y14) G (by omega) (by omega) v
   refine⟨c,f,fun K=>?_⟩
   rw[Lk];unfold V0
   rw[show decide (((n+1:Nat):Int)>0)=true from decide_eq_true (by omega),ct,Q6 (by omega),hB,e,e1,ct,y,I,ct,wn,O1 (a:=100+y14) (by omega),Oa z.symm,j]
  ·have e1:(y12==1)=false:=by simpa using L
   obtain⟨c,f,j⟩:=go 0 u (by omega) (by omega) d
   refine⟨c,f,fun K=>?_⟩
   rw[Lk];unfold V0
   rw[show decide (((n+1:Nat):Int)>0)=true from decide_eq_true (by omega),ct,Q6 (by omega),hB,e,e1,cf,I,ct,wn,Oa z.symm,j]
theorem mY {N:Nat} {l:List Int} {n:Nat} {t o:Bool} (hn:n=l.length) (hN:4096≤N) (d:l.length≤9223372036854775807):∃ c,LX c∧∀ K:LA→O R,BR N (Az l) n t o K=K c.av:=by
 subst hn
 obtain⟨y1,u,y10,y11,e,f⟩:=nx (R:=R) (N:=N) (t:=false) (o:=o) d 3 (by omega) (by omega) 0 (by omega)
 obtain⟨H,hH⟩:∃ H:Nat,1+y1=(H:Int):=⟨(1+y1).toNat,by omega⟩
 obtain⟨B,k2,s,v,j,hB⟩:=Z1 (R:=R) (N:=N) (m:=H) (t:=false) (o:=o) (by omega) d 5 (by omega) (by omega) (by omega) u e
 obtain⟨y6,x,y60,y61,k,q⟩:=nx (R:=R) (N:=N) (t:=false) (o:=o) d 4 (by omega) (by omega) k2 j
 obtain⟨m,y⟩:∃ m:Nat,1+y6=(m:Int):=⟨(1+y6).toNat,by omega⟩
 obtain⟨c,A,C⟩:=tD (R:=R) (o:=o) hN d (H:=H) (by omega) s v m N x [] (by omega) k (by simp;omega) (by simp;omega) (by simp)
 refine⟨c,A,fun K=>?_⟩
 rw[aI];unfold UK
 rw[fH];unfold lZ
 have z:Ae N 3 (Az l) l.length false o 0=Ae (R:=R) N 3 (Az l) l.length false o ((0:Nat):Int):=rfl
 rw[z,f,O1 (a:=1+y1) (by omega),hH,hB,q,O1 (a:=1+y6) (by omega),y,←C K,s]
 rfl
theorem UL {N:Nat} {s:Lu} {K:Bool→O R} (hs:s.length<4611686018427387904):∀ (m j fuel:Nat),j+m=s.length→m<fuel →
  Tx N K s fuel (s.length:Int) (j:Int)=K ((s.drop j).all vX)
 | 0,j,fuel+1,d,_=>by
  rw[Tx];unfold BG
  rw[F9 (by omega),cf,O8 (by omega)];rfl
 | m+1,j,fuel+1,d,q=>by
  rw[Tx];unfold BG
  have h:j<s.length:=by omega
  rw[Fn h,ct,Ab h,ct,Ez (by omega),UL hs m (j+1) fuel (by omega) (by omega),Ka h,Aek,lp h]
  unfold vX WR
  generalize s[j].toNat=v
  generalize (s.drop (j+1)).all _=r
  by_cases e:97≤v<;>by_cases f:v≤122<;>by_cases k:48≤v<;>by_cases l:v≤57<;>by_cases n:v=95 <;>
   simp[e,f,k,l,show((v:Int)<97)↔¬ 97≤v by omega,show((v:Int)<48)↔¬ 48≤v by omega,show((122:Int)<v)↔¬ v≤122 by omega,show((57:Int)<v)↔¬ v≤57 by omega,show((v:Int) != 95)=!decide (v=95) by (by_cases v=95<;>simp_all<;>omega),n]
theorem mZ {N:Nat} {s:Lu} {K:Bool→O R} (hN:64≤N):TR N s K=K (Df s):=by
 rw[ZQ];unfold TQ GR LG
 unfold Df
 by_cases d:1≤s.length
 ·by_cases e:s.length≤16
  ·have f:=UL (R:=R) (N:=N) (s:=s) (K:=K) (by omega) s.length 0 N (by omega) (by omega)
   simp only[Aeg,Af9] at f
   rw[f]
   have j:Aj 0 s.length=true:=Ab (i:=0) (by omega)
   rw[j]
   simp only[d,e,show(decide ((s.length:Int)<1))=false by simp;omega,show(decide ((s.length:Int)>16))=false by simp;omega,decide_true,cond_true,cond_false,beq_self_eq_true]
   cases s==[99,111,114,114,101,99,116,105,118,101]
   ·unfold WR
    generalize (List.getD s 0 0).toNat=v
    by_cases k:97≤v<;>by_cases l:v≤122<;>simp[k,l,show((v:Int)<97)↔¬ 97≤v by omega,show((122:Int)<v)↔¬ v≤122 by omega]
   ·simp
  ·simp[d,e,show((s.length:Int)<1)↔¬ 1≤s.length by omega,show((16:Int)<s.length)↔¬ s.length≤16 by omega]
 ·simp[d,show((s.length:Int)<1)↔¬ 1≤s.length by omega]
end
end Gx.Cf
namespace Gx.Ct
open Go Go.Proofs Gx.Cf
section
variable {R:Type} {N:Nat}
theorem Ds (l:List A0):take (l.length*1) (Au l)=Au l:=by rw[Aeh,Ad0 (by simp[Au])]
theorem Ia (l:List A0) (w:A0):Au l++[.str w]=Au (l++[w]):=by simp[Au]
theorem Wl {n:Nat} (h:n≤2000000000):((ble n 140737488355328)&&(ble (n*16) 140737488355328))=true:=by simp;omega
theorem jy {l:List A0} {d c:Bool} (hN:64≤N) (f:l.length≤1000000):∀ (m j fuel:Nat),j+m=l.length→m<fuel →
  ∃ v:Int,(decide (v≥0)=!(l.drop j).all Df)∧∀ K:Int→O R,Ay N K (Au l) l.length d c fuel (l.length:Int) (j:Int)=K v
 | 0,j,fuel+1,k,_=>by
  refine⟨-1,by rw[A5 (by omega)];rfl,fun K=>?_⟩
  rw[Ay];unfold B4
  rw[F9 (by omega),cf]
 | m+1,j,fuel+1,k,n=>by
  have h:j<l.length:=by omega
  obtain⟨v,v1,v2⟩:=jy (l:=l) (d:=d) (c:=c) hN f m (j+1) fuel (by omega) (by omega)
  have st:∀ K:Int→O R,Ay N K (Au l) l.length d c (fuel+1) (l.length:Int) (j:Int)=cond (!Df l[j]) (K (j:Int)) (K v):=fun K=>by
   rw[Ay];unfold B4
   rw[Fn h,ct,Ab h,ct,Ad2,Aeh,Gb h,EK]
   unfold CO
   rw[mZ hN,Oy (by omega),v2]
  cases e:Df l[j] with
  | false=>exact⟨(j:Int),by rw[A3 h,Aek,e];simp,fun K=>by rw[st,e];rfl⟩
  | true=>exact⟨v,by rw[v1,A3 h,Aek,e];rfl,fun K=>by rw[st,e];rfl⟩
theorem rf {l:List A0} {n:Nat} {d c:Bool} {K:Bool→O R} (hN:1000000000<N) (hn:n=l.length) (e:l.length≤1000000):As N (Au l) n d c K=K (!l.all Df):=by
 subst hn
 rw[Gd];unfold Dy
 rw[Gc];unfold Cd
 obtain⟨v,v1,v2⟩:=jy (R:=R) (N:=N) (l:=l) (d:=false) (c:=c) (by omega) e l.length 0 N (by omega) (by omega)
 refine(v2 _).trans ?_
 show K (decide (v≥0))=_
 rw[v1,Aeg]
theorem pY {l:List A0} {w:A0} {d f:Bool} (k:l.length≤1000000):∀ (m j fuel:Nat),j+m=l.length→m<fuel →
  ∃ v:Int,(decide (v≥0)=(l.drop j).contains w)∧∀ K:Int→O R,A7 N K (Au l) l.length d f w fuel (l.length:Int) (j:Int)=K v
 | 0,j,fuel+1,n,_=>by
  refine⟨-1,by rw[A5 (by omega)];rfl,fun K=>?_⟩
  rw[A7];unfold B7
  rw[F9 (by omega),cf]
 | m+1,j,fuel+1,n,q=>by
  have h:j<l.length:=by omega
  obtain⟨v,v1,v2⟩:=pY (l:=l) (w:=w) (d:=d) (f:=f) k m (j+1) fuel (by omega) (by omega)
  by_cases e:w=l[j]
  ·refine⟨(j:Int),by rw[A3 h,Agk,e];simp,fun K=>?_⟩
   rw[A7];unfold B7
   rw[Fn h,ct,Ab h,ct,Ad2,Aeh,Gb h,show(w==l[j])=true by simpa using e,ct]
  ·refine⟨v,by rw[v1,A3 h,Agk,show(w==l[j])=false by simpa using e,Aew],fun K=>?_⟩
   rw[A7];unfold B7
   rw[Fn h,ct,Ab h,ct,Ad2,Aeh,Gb h,show(w==l[j])=false by simpa using e,cf,Oy (by omega),v2]
theorem Q8 {l:List A0} {w:A0} {n:Nat} {d f:Bool} {K:Bool→O R} (hN:1000000000<N) (hn:n=l.length) (e:l.length≤1000000):A2 N (Au l) n d f w K=K (l.contains w):=by
 subst hn
 rw[Hp];unfold E9
 rw[Jm];unfold D0
 obtain⟨v,v1,v2⟩:=pY (R:=R) (N:=N) (l:=l) (w:=w) (d:=false) (f:=f) e l.length 0 N (by omega) (by omega)
 refine(v2 _).trans ?_
 show K (decide (v≥0))=_
 rw[v1,Aeg]
theorem NL (l:List A0) (j:Nat):take j (Au l)=Au (l.take j):=by unfold Au;rw[Ah3]
theorem Wm {l:List A0} {j:Nat} (h:j<l.length):j=(l.take j).length:=(Ahm (by omega)).symm
theorem XO {l:List A0} {j:Nat} (h:j<l.length):((decide ((0:Int)≤(0:Int)))&&((decide (0≤(j:Int)))&&((decide ((j:Int)≤(l.length:Int)))&&(decide ((l.length:Int)≤(l.length:Int))))))=true:=by simp;omega
theorem ET {l:List A0} {j:Nat} (h:j<l.length):Dm (l.take j) (l.drop j)=((l.take j).contains l[j]||Dm (l.take (j+1)) (l.drop (j+1))):=by
 rw[A3 h,Dm,List.take_add_one,Ad1 h];rfl
theorem tE {l:List A0} {k7:Int→O R} {K:Int→O R} {n1 n2 n3 n4 n5:Nat} {s1 s2 s3 s4 s5:LA} {ar:Int} (hN:1000000000<N) (d:l.length≤1000000):∀ (m j fuel:Nat),j+m=l.length→m<fuel →
  Nv N k7 K l.length n1 n2 n3 n4 n5 (Au l) s1 s2 s3 s4 s5 fuel ar (l.length:Int) (j:Int)=cond (Dm (l.take j) (l.drop j)) (K 10) (k7 (wrap .i64 (ar+1)))
 | 0,j,fuel+1,e,_=>by
  rw[Nv];unfold Xr
  rw[F9 (by omega),cf,A5 (by omega)];rfl
 | m+1,j,fuel+1,e,k=>by
  rw[Nv];unfold Xr
  have h:j<l.length:=by omega
  have f:=tE (l:=l) (k7:=k7) (K:=K) (n1:=n1) (n2:=n2) (n3:=n3) (n4:=n4) (n5:=n5) (s1:=s1) (s2:=s2) (s3:=s3) (s4:=s4) (s5:=s5) (ar:=ar) hN d m (j+1) fuel (by omega) (by omega)
  rw[ET h,Fn h,ct,Ab h,ct,Aec,Ad2,Aeh,Gb h,XO h,ct,NL,Q8 hN (Wm h) (by rw[←Wm h];omega),Oy (by omega),f]
  cases (l.take j).contains l[j]<;>rfl
theorem pZ {l:List A0} {k7:Int→O R} {K:Int→O R} {n1 n2 n3 n4 n5:Nat} {s1 s2 s3 s4 s5:LA} {ar:Int} (hN:1000000000<N) (d:l.length≤1000000):∀ (m j fuel:Nat),j+m=l.length→m<fuel →
  K0 N k7 K l.length n1 n2 n3 n4 n5 (Au l) s1 s2 s3 s4 s5 fuel ar (l.length:Int) (j:Int)=cond (Dm (l.take j) (l.drop j)) (K 10) (k7 (wrap .i64 (ar+1)))
 | 0,j,fuel+1,e,_=>by
  rw[K0];unfold Uo
  rw[F9 (by omega),cf,A5 (by omega)];rfl
 | m+1,j,fuel+1,e,k=>by
  rw[K0];unfold Uo
  have h:j<l.length:=by omega
  have f:=pZ (l:=l) (k7:=k7) (K:=K) (n1:=n1) (n2:=n2) (n3:=n3) (n4:=n4) (n5:=n5) (s1:=s1) (s2:=s2) (s3:=s3) (s4:=s4) (s5:=s5) (ar:=ar) hN d m (j+1) fuel (by omega) (by omega)
  rw[ET h,Fn h,ct,Ab h,ct,Aec,Ad2,Aeh,Gb h,XO h,ct,NL,Q8 hN (Wm h) (by rw[←Wm h];omega),Oy (by omega),f]
  cases (l.take j).contains l[j]<;>rfl
theorem p7 {l:List A0} {k7:Int→O R} {K:Int→O R} {n1 n2 n3 n4 n5:Nat} {s1 s2 s3 s4 s5:LA} {ar:Int} (hN:1000000000<N) (d:l.length≤1000000):∀ (m j fuel:Nat),j+m=l.length→m<fuel →
  K3 N k7 K l.length n1 n2 n3 n4 n5 (Au l) s1 s2 s3 s4 s5 fuel ar (l.length:Int) (j:Int)=cond (Dm (l.take j) (l.drop j)) (K 10) (k7 (wrap .i64 (ar+1)))
 | 0,j,fuel+1,e,_=>by
  rw[K3];unfold Up
  rw[F9 (by omega),cf,A5 (by omega)];rfl
 | m+1,j,fuel+1,e,k=>by
  rw[K3];unfold Up
  have h:j<l.length:=by omega
  have f:=p7 (l:=l) (k7:=k7) (K:=K) (n1:=n1) (n2:=n2) (n3:=n3) (n4:=n4) (n5:=n5) (s1:=s1) (s2:=s2) (s3:=s3) (s4:=s4) (s5:=s5) (ar:=ar) hN d m (j+1) fuel (by omega) (by omega)
  rw[ET h,Fn h,ct,Ab h,ct,Aec,Ad2,Aeh,Gb h,XO h,ct,NL,Q8 hN (Wm h) (by rw[←Wm h];omega),Oy (by omega),f]
  cases (l.take j).contains l[j]<;>rfl
theorem p_ {l:List A0} {k7:Int→O R} {K:Int→O R} {n1 n2 n3 n4 n5:Nat} {s1 s2 s3 s4 s5:LA} {ar:Int} (hN:1000000000<N) (d:l.length≤1000000):∀ (m j fuel:Nat),j+m=l.length→m<fuel →
  K4 N k7 K l.length n1 n2 n3 n4 n5 (Au l) s1 s2 s3 s4 s5 fuel ar (l.length:Int) (j:Int)=cond (Dm (l.take j) (l.drop j)) (K 10) (k7 (wrap .i64 (ar+1)))
 | 0,j,fuel+1,e,_=>by
  rw[K4];unfold Uq
  rw[F9 (by omega),cf,A5 (by omega)];rfl
 | m+1,j,fuel+1,e,k=>by
  rw[K4];unfold Uq
  have h:j<l.length:=by omega
  have f:=p_ (l:=l) (k7:=k7) (K:=K) (n1:=n1) (n2:=n2) (n3:=n3) (n4:=n4) (n5:=n5) (s1:=s1) (s2:=s2) (s3:=s3) (s4:=s4) (s5:=s5) (ar:=ar) hN d m (j+1) fuel (by omega) (by omega)
  rw[ET h,Fn h,ct,Ab h,ct,Aec,Ad2,Aeh,Gb h,XO h,ct,NL,Q8 hN (Wm h) (by rw[←Wm h];omega),Oy (by omega),f]
  cases (l.take j).contains l[j]<;>rfl
theorem pa {l:List A0} {k7:Int→O R} {K:Int→O R} {n1 n2 n3 n4 n5:Nat} {s1 s2 s3 s4 s5:LA} {ar:Int} (hN:1000000000<N) (d:l.length≤1000000):∀ (m j fuel:Nat),j+m=l.length→m<fuel →
  K5 N k7 K l.length n1 n2 n3 n4 n5 (Au l) s1 s2 s3 s4 s5 fuel ar (l.length:Int) (j:Int)=cond (Dm (l.take j) (l.drop j)) (K 10) (k7 (wrap .i64 (ar+1)))
 | 0,j,fuel+1,e,_=>by
  rw[K5];unfold Ur
  rw[F9 (by omega),cf,A5 (by omega)];rfl
 | m+1,j,fuel+1,e,k=>by
  rw[K5];unfold Ur
  have h:j<l.length:=by omega
  have f:=pa (l:=l) (k7:=k7) (K:=K) (n1:=n1) (n2:=n2) (n3:=n3) (n4:=n4) (n5:=n5) (s1:=s1) (s2:=s2) (s3:=s3) (s4:=s4) (s5:=s5) (ar:=ar) hN d m (j+1) fuel (by omega) (by omega)
  rw[ET h,Fn h,ct,Ab h,ct,Aec,Ad2,Aeh,Gb h,XO h,ct,NL,Q8 hN (Wm h) (by rw[←Wm h];omega),Oy (by omega),f]
  cases (l.take j).contains l[j]<;>rfl
theorem pb {l:List A0} {k7:Int→O R} {K:Int→O R} {n1 n2 n3 n4 n5:Nat} {s1 s2 s3 s4 s5:LA} {ar:Int} (hN:1000000000<N) (d:l.length≤1000000):∀ (m j fuel:Nat),j+m=l.length→m<fuel →
  K6 N k7 K l.length n1 n2 n3 n4 n5 (Au l) s1 s2 s3 s4 s5 fuel ar (l.length:Int) (j:Int)=cond (Dm (l.take j) (l.drop j)) (K 10) (k7 (wrap .i64 (ar+1)))
 | 0,j,fuel+1,e,_=>by
  rw[K6];unfold Us
  rw[F9 (by omega),cf,A5 (by omega)];rfl
 | m+1,j,fuel+1,e,k=>by
  rw[K6];unfold Us
  have h:j<l.length:=by omega
  have f:=pb (l:=l) (k7:=k7) (K:=K) (n1:=n1) (n2:=n2) (n3:=n3) (n4:=n4) (n5:=n5) (s1:=s1) (s2:=s2) (s3:=s3) (s4:=s4) (s5:=s5) (ar:=ar) hN d m (j+1) fuel (by omega) (by omega)
  rw[ET h,Fn h,ct,Ab h,ct,Aec,Ad2,Aeh,Gb h,XO h,ct,NL,Q8 hN (Wm h) (by rw[←Wm h];omega),Oy (by omega),f]
  cases (l.take j).contains l[j]<;>rfl
def Wn (X1 X2 X3 X4 X5 X6:List A0) (i:Nat):List A0:=[[],X1,X2,X3,X4,X5,X6].getD i []
section
variable {X1 X2 X3 X4 X5 X6:List A0} {K:Int→O R} (hN:1000000000<N) (hX:∀ i,(Wn X1 X2 X3 X4 X5 X6 i).length≤1000)
include hN hX
theorem pc:∀ (m i fuel:Nat),i+m=7→m<fuel→Cx N K X1.length X2.length X3.length X4.length X5.length X6.length (Au X1) (Au X2) (Au X3) (Au X4) (Au X5) (Au X6) fuel (i:Int)=cond ((List.range' i m).any fun i=>Dm [] (Wn X1 X2 X3 X4 X5 X6 i)) (K 10) (K 0)
 | 0,i,fuel+1,hi,_=>by
  rw[Cx];unfold R7
  rw[decide_eq_false (show ¬ (i:Int)<7 by omega),cf];rfl
 | m+1,i,fuel+1,hi,j=>by
  have e:=pc m (i+1) fuel (by omega) (by omega)
  rw[Cx];unfold R7
  have f:i=0∨i=1∨i=2∨i=3∨i=4∨i=5∨i=6:=by omega
  rw[Agr,Aez]
  rcases f with rfl | rfl | rfl | rfl | rfl | rfl | rfl
  ·obtain⟨M,rfl⟩:∃ M,N=M+1:=⟨N - 1,by omega⟩
   exact e
  ·have d:=hX 1
   refine Agl (tE (l:=X1) hN (by simp only[Wn] at d;exact Afi d (by decide)) _ 0 N (Aec _) (by simp only[Wn] at d;exact Afp d (by omega))) ?_
   rw[show wrap .i64 (((1:Nat):Int)+1)=(((1:Nat)+1:Nat):Int) from rfl,e]
   show cond (Dm [] X1) _ _=cond (Dm [] X1||_) _ _
   cases Dm [] X1<;>rfl
  ·have d:=hX 2
   refine Agl (pZ (l:=X2) hN (by simp only[Wn] at d;exact Afi d (by decide)) _ 0 N (Aec _) (by simp only[Wn] at d;exact Afp d (by omega))) ?_
   rw[show wrap .i64 (((2:Nat):Int)+1)=(((2:Nat)+1:Nat):Int) from rfl,e]
   show cond (Dm [] X2) _ _=cond (Dm [] X2||_) _ _
   cases Dm [] X2<;>rfl
  ·have d:=hX 3
   refine Agl (p7 (l:=X3) hN (by simp only[Wn] at d;exact Afi d (by decide)) _ 0 N (Aec _) (by simp only[Wn] at d;exact Afp d (by omega))) ?_
   rw[show wrap .i64 (((3:Nat):Int)+1)=(((3:Nat)+1:Nat):Int) from rfl,e]
   show cond (Dm [] X3) _ _=cond (Dm [] X3||_) _ _
   cases Dm [] X3<;>rfl
  ·have d:=hX 4
   refine Agl (p_ (l:=X4) hN (by simp only[Wn] at d;exact Afi d (by decide)) _ 0 N (Aec _) (by simp only[Wn] at d;exact Afp d (by omega))) ?_
   rw[show wrap .i64 (((4:Nat):Int)+1)=(((4:Nat)+1:Nat):Int) from rfl,e]
   show cond (Dm [] X4) _ _=cond (Dm [] X4||_) _ _
   cases Dm [] X4<;>rfl
  ·have d:=hX 5
   refine Agl (pa (l:=X5) hN (by simp only[Wn] at d;exact Afi d (by decide)) _ 0 N (Aec _) (by simp only[Wn] at d;exact Afp d (by omega))) ?_
   rw[show wrap .i64 (((5:Nat):Int)+1)=(((5:Nat)+1:Nat):Int) from rfl,e]
   show cond (Dm [] X5) _ _=cond (Dm [] X5||_) _ _
   cases Dm [] X5<;>rfl
  ·have d:=hX 6
   refine Agl (pb (l:=X6) hN (by simp only[Wn] at d;exact Afi d (by decide)) _ 0 N (Aec _) (by simp only[Wn] at d;exact Afp d (by omega))) ?_
   rw[show wrap .i64 (((6:Nat):Int)+1)=(((6:Nat)+1:Nat):Int) from rfl,e]
   show cond (Dm [] X6) _ _=cond (Dm [] X6||_) _ _
   cases Dm [] X6<;>rfl
theorem pd:∀ (m i fuel:Nat),i+m=7→m<fuel→Ik N K X1.length X2.length X3.length X4.length X5.length X6.length (Au X1) (Au X2) (Au X3) (Au X4) (Au X5) (Au X6) fuel (i:Int)=cond ((List.range' i m).all fun i=>(Wn X1 X2 X3 X4 X5 X6 i).all Df) (Cx N K X1.length X2.length X3.length X4.length X5.length X6.length (Au X1) (Au X2) (Au X3) (Au X4) (Au X5) (Au X6) N 0) (K 9)
 | 0,i,fuel+1,hi,_=>by
  rw[Ik];unfold Xs
  rw[decide_eq_false (show ¬ (i:Int)<7 by omega),cf];rfl
 | m+1,i,fuel+1,hi,k=>by
  have d:=pd m (i+1) fuel (by omega) (by omega)
  have step:∀ (l:List A0) (n:Nat) (c:LA),Wn X1 X2 X3 X4 X5 X6 i=l→c=Au l→n=l.length→As N c n false true (fun ca=>cond ca (K 9) (Ik N K X1.length X2.length X3.length X4.length X5.length X6.length (Au X1) (Au X2) (Au X3) (Au X4) (Au X5) (Au X6) fuel (wrap .i64 ((i:Int)+1))))=cond (l.all Df&&(List.range' (i+1) m).all fun i=>(Wn X1 X2 X3 X4 X5 X6 i).all Df) (Cx N K X1.length X2.length X3.length X4.length X5.length X6.length (Au X1) (Au X2) (Au X3) (Au X4) (Au X5) (Au X6) N 0) (K 9):=fun l n c e1 e e3=>by
   have f:=hX i
   rw[e1] at f
   subst e
   rw[rf hN e3 (by omega),Oy (by omega),d]
   cases l.all Df<;>rfl
  rw[Ik];unfold Xs
  have j:i=0∨i=1∨i=2∨i=3∨i=4∨i=5∨i=6:=by omega
  rw[Agr,Aek]
  rcases j with rfl | rfl | rfl | rfl | rfl | rfl | rfl
  ·exact step [] 0 [] rfl rfl rfl
  ·exact step X1 _ _ rfl (Ds _) rfl
  ·exact step X2 _ _ rfl (Ds _) rfl
  ·exact step X3 _ _ rfl (Ds _) rfl
  ·exact step X4 _ _ rfl (Ds _) rfl
  ·exact step X5 _ _ rfl (Ds _) rfl
  ·exact step X6 _ _ rfl (Ds _) rfl
end
variable {c:CaseD} {b:Bool}
theorem tF {X1 X2 X3 X4 X5:List A0} {K:Int→O R} (f:c.outs.l.length≤1000000000):∀ (m j fuel:Nat) (A:List A0),j+m=c.outs.l.length→m<fuel→A.length=j →
  Nw N K (c.outs.l.flatMap OutD.av) c.outs.l.length b X1.length X2.length X3.length X4.length X5.length (Au X1) (Au X2) (Au X3) (Au X4) (Au X5) fuel (c.outs.l.length:Int) (j:Int) A.length (Au A)=Ik N K X1.length X2.length X3.length X4.length X5.length (A++(c.outs.l.drop j).map OutD.name).length (Au X1) (Au X2) (Au X3) (Au X4) (Au X5) (Au (A++(c.outs.l.drop j).map OutD.name)) N 0
 | 0,j,fuel+1,A,k,_,hA=>by
  rw[Nw];unfold Xt
  rw[F9 (by omega),cf,show c.outs.l.drop j=[] from A5 (by omega),Aem,Aej]
 | m+1,j,fuel+1,A,k,n,hA=>by
  rw[Nw];unfold Xt
  have h:j<c.outs.l.length:=by omega
  rw[Fn h,ct,Ab h,ct,Cq (e:=OutD.av) (sz:=4) (fun _=>rfl) h,ct,Br (e:=OutD.av) (sz:=4) (fun _=>rfl) h,show((beq 0 0)&&((beq ((OutD.av c.outs.l[j]).length) 4)&&(beq 4 4)))=true from rfl,ct,show ∀ F:A0→O R,Hz (OutD.av c.outs.l[j]) F=F (c.outs.l[j]).name from fun _=>rfl,Wl (by omega),ct,Oy (by omega),Ds,Ia,A3 h,Ad5]
  have d:=tF (X1:=X1) (X2:=X2) (X3:=X3) (X4:=X4) (X5:=X5) (K:=K) f m (j+1) fuel (A++[(c.outs.l[j]).name]) (by omega) (by omega) (by simp[hA])
  rw[Adw,Aer] at d
  refine d.trans ?_
  rw[Aea];rfl
theorem tG {X1 X2 X3 X4:List A0} {K:Int→O R} (f:c.ties.l.length≤1000000000):∀ (m j fuel:Nat) (A:List A0),j+m=c.ties.l.length→m<fuel→A.length=j →
  Nx N K (c.ties.l.flatMap TieD.av) c.ties.l.length b c.av X1.length X2.length X3.length X4.length (Au X1) (Au X2) (Au X3) (Au X4) fuel (c.ties.l.length:Int) (j:Int) A.length (Au A)=Nw N K (c.outs.l.flatMap OutD.av) c.outs.l.length b X1.length X2.length X3.length X4.length (A++(c.ties.l.drop j).map TieD.name).length (Au X1) (Au X2) (Au X3) (Au X4) (Au (A++(c.ties.l.drop j).map TieD.name)) N (c.outs.l.length:Int) 0 0 []
 | 0,j,fuel+1,A,k,_,hA=>by
  rw[Nx];unfold Xu
  rw[F9 (by omega),cf,show c.ties.l.drop j=[] from A5 (by omega),Aem,Aej,Fb]
 | m+1,j,fuel+1,A,k,n,hA=>by
  rw[Nx];unfold Xu
  have h:j<c.ties.l.length:=by omega
  rw[Fn h,ct,Ab h,ct,Cq (e:=TieD.av) (sz:=5) (fun _=>rfl) h,ct,Br (e:=TieD.av) (sz:=5) (fun _=>rfl) h,show((beq 0 0)&&((beq ((TieD.av c.ties.l[j]).length) 5)&&(beq 5 5)))=true from rfl,ct,show ∀ F:A0→O R,Hz (TieD.av c.ties.l[j]) F=F (c.ties.l[j]).name from fun _=>rfl,Wl (by omega),ct,Oy (by omega),Ds,Ia,A3 h,Ad5]
  have d:=tG (X1:=X1) (X2:=X2) (X3:=X3) (X4:=X4) (K:=K) f m (j+1) fuel (A++[(c.ties.l[j]).name]) (by omega) (by omega) (by simp[hA])
  rw[Adw,Aer] at d
  refine d.trans ?_
  rw[Aea];rfl
theorem jz {X1 X2 X3:List A0} {K:Int→O R} (f:c.stores.l.length≤1000000000):∀ (m j fuel:Nat) (A:List A0),j+m=c.stores.l.length→m<fuel→A.length=j →
  Ny N K (c.stores.l.flatMap StoreD.av) c.stores.l.length b c.av X1.length X2.length X3.length (Au X1) (Au X2) (Au X3) fuel (c.stores.l.length:Int) (j:Int) A.length (Au A)=Nx N K (c.ties.l.flatMap TieD.av) c.ties.l.length b c.av X1.length X2.length X3.length (A++(c.stores.l.drop j).map StoreD.name).length (Au X1) (Au X2) (Au X3) (Au (A++(c.stores.l.drop j).map StoreD.name)) N (c.ties.l.length:Int) 0 0 []
 | 0,j,fuel+1,A,k,_,hA=>by
  rw[Ny];unfold Xv
  rw[F9 (by omega),cf,show c.stores.l.drop j=[] from A5 (by omega),Aem,Aej,Gy]
 | m+1,j,fuel+1,A,k,n,hA=>by
  rw[Ny];unfold Xv
  have h:j<c.stores.l.length:=by omega
  rw[Fn h,ct,Ab h,ct,Cq (e:=StoreD.av) (sz:=9) (fun _=>rfl) h,ct,Br (e:=StoreD.av) (sz:=9) (fun _=>rfl) h,show((beq 0 0)&&((beq ((StoreD.av c.stores.l[j]).length) 9)&&(beq 9 9)))=true from rfl,ct,show ∀ F:A0→O R,Hz (StoreD.av c.stores.l[j]) F=F (c.stores.l[j]).name from fun _=>rfl,Wl (by omega),ct,Oy (by omega),Ds,Ia,A3 h,Ad5]
  have d:=jz (X1:=X1) (X2:=X2) (X3:=X3) (K:=K) f m (j+1) fuel (A++[(c.stores.l[j]).name]) (by omega) (by omega) (by simp[hA])
  rw[Adw,Aer] at d
  refine d.trans ?_
  rw[Aea];rfl
theorem pe {X1 X2:List A0} {K:Int→O R} (f:c.units.l.length≤1000000000):∀ (m j fuel:Nat) (A:List A0),j+m=c.units.l.length→m<fuel→A.length=j →
  Nz N K (c.units.l.flatMap UnitD.av) c.units.l.length b c.av X1.length X2.length (Au X1) (Au X2) fuel (c.units.l.length:Int) (j:Int) A.length (Au A)=Ny N K (c.stores.l.flatMap StoreD.av) c.stores.l.length b c.av X1.length X2.length (A++(c.units.l.drop j).map UnitD.name).length (Au X1) (Au X2) (Au (A++(c.units.l.drop j).map UnitD.name)) N (c.stores.l.length:Int) 0 0 []
 | 0,j,fuel+1,A,k,_,hA=>by
  rw[Nz];unfold Xw
  rw[F9 (by omega),cf,show c.units.l.drop j=[] from A5 (by omega),Aem,Aej,Eb]
 | m+1,j,fuel+1,A,k,n,hA=>by
  rw[Nz];unfold Xw
  have h:j<c.units.l.length:=by omega
  rw[Fn h,ct,Ab h,ct,Cq (e:=UnitD.av) (sz:=22) (fun _=>rfl) h,ct,Br (e:=UnitD.av) (sz:=22) (fun _=>rfl) h,show((beq 0 0)&&((beq ((UnitD.av c.units.l[j]).length) 22)&&(beq 22 22)))=true from rfl,ct,show ∀ F:A0→O R,Hz (UnitD.av c.units.l[j]) F=F (c.units.l[j]).name from fun _=>rfl,Wl (by omega),ct,Oy (by omega),Ds,Ia,A3 h,Ad5]
  have d:=pe (X1:=X1) (X2:=X2) (K:=K) f m (j+1) fuel (A++[(c.units.l[j]).name]) (by omega) (by omega) (by simp[hA])
  rw[Adw,Aer] at d
  refine d.trans ?_
  rw[Aea];rfl
theorem pf {X1:List A0} {K:Int→O R} (f:c.lines.l.length≤1000000000):∀ (m j fuel:Nat) (A:List A0),j+m=c.lines.l.length→m<fuel→A.length=j →
  N0 N K (c.lines.l.flatMap LineD.av) c.lines.l.length b c.av X1.length (Au X1) fuel (c.lines.l.length:Int) (j:Int) A.length (Au A)=Nz N K (c.units.l.flatMap UnitD.av) c.units.l.length b c.av X1.length (A++(c.lines.l.drop j).map LineD.name).length (Au X1) (Au (A++(c.lines.l.drop j).map LineD.name)) N (c.units.l.length:Int) 0 0 []
 | 0,j,fuel+1,A,k,_,hA=>by
  rw[N0];unfold Xx
  rw[F9 (by omega),cf,show c.lines.l.drop j=[] from A5 (by omega),Aem,Aej,Dd]
 | m+1,j,fuel+1,A,k,n,hA=>by
  rw[N0];unfold Xx
  have h:j<c.lines.l.length:=by omega
  rw[Fn h,ct,Ab h,ct,Cq (e:=LineD.av) (sz:=12) (fun _=>rfl) h,ct,Br (e:=LineD.av) (sz:=12) (fun _=>rfl) h,show((beq 0 0)&&((beq ((LineD.av c.lines.l[j]).length) 12)&&(beq 12 12)))=true from rfl,ct,show ∀ F:A0→O R,Hz (LineD.av c.lines.l[j]) F=F (c.lines.l[j]).name from fun _=>rfl,Wl (by omega),ct,Oy (by omega),Ds,Ia,A3 h,Ad5]
  have d:=pf (X1:=X1) (K:=K) f m (j+1) fuel (A++[(c.lines.l[j]).name]) (by omega) (by omega) (by simp[hA])
  rw[Adw,Aer] at d
  refine d.trans ?_
  rw[Aea];rfl
theorem pg {K:Int→O R} (f:c.buses.l.length≤1000000000):∀ (m j fuel:Nat) (A:List A0),j+m=c.buses.l.length→m<fuel→A.length=j →
  N1 N K (c.buses.l.flatMap BusD.av) c.buses.l.length b c.av fuel (c.buses.l.length:Int) (j:Int) A.length (Au A)=N0 N K (c.lines.l.flatMap LineD.av) c.lines.l.length b c.av (A++(c.buses.l.drop j).map BusD.name).length (Au (A++(c.buses.l.drop j).map BusD.name)) N (c.lines.l.length:Int) 0 0 []
 | 0,j,fuel+1,A,k,_,hA=>by
  rw[N1];unfold Xy
  rw[F9 (by omega),cf,show c.buses.l.drop j=[] from A5 (by omega),Aem,Aej,C1]
 | m+1,j,fuel+1,A,k,n,hA=>by
  rw[N1];unfold Xy
  have h:j<c.buses.l.length:=by omega
  rw[Fn h,ct,Ab h,ct,Cq (e:=BusD.av) (sz:=3) (fun _=>rfl) h,ct,Br (e:=BusD.av) (sz:=3) (fun _=>rfl) h,show((beq 0 0)&&((beq ((BusD.av c.buses.l[j]).length) 3)&&(beq 3 3)))=true from rfl,ct,show ∀ F:A0→O R,Hz (BusD.av c.buses.l[j]) F=F (c.buses.l[j]).name from fun _=>rfl,Wl (by omega),ct,Oy (by omega),Ds,Ia,A3 h,Ad5]
  have d:=pg (K:=K) f m (j+1) fuel (A++[(c.buses.l[j]).name]) (by omega) (by omega) (by simp[hA])
  rw[Adw,Aer] at d
  refine d.trans ?_
  rw[Aea];rfl
theorem rg {K:Int→O R} (hN:1000000000<N) (d:Ff c=true):LH N c.av b K=K (I9 c):=by
 unfold Ff at d
 simp only[Ad3,decide_eq_true_eq] at d
 obtain⟨c1,j,k,m,n,q⟩:=d
 rw[TT];unfold NE
 rw[Bi]
 refine(pg (A:=[]) (by omega) c.buses.l.length 0 N (by omega) (by omega) rfl).trans ?_
 refine(pf (A:=[]) (by omega) c.lines.l.length 0 N (by omega) (by omega) rfl).trans ?_
 refine(pe (A:=[]) (by omega) c.units.l.length 0 N (by omega) (by omega) rfl).trans ?_
 refine(jz (A:=[]) (by omega) c.stores.l.length 0 N (by omega) (by omega) rfl).trans ?_
 refine(tG (A:=[]) (by omega) c.ties.l.length 0 N (by omega) (by omega) rfl).trans ?_
 refine(tF (A:=[]) (by omega) c.outs.l.length 0 N (by omega) (by omega) rfl).trans ?_
 simp only[Aeg,Afr]
 show Ik N K (Bh c).length (Cl c).length (Bt c).length (Tr c).length (WS c).length (WT c).length (Au (Bh c)) (Au (Cl c)) (Au (Bt c)) (Au (Tr c)) (Au (WS c)) (Au (WT c)) N 0=_
 have hX:∀ i,(Wn (Bh c) (Cl c) (Bt c) (Tr c) (WS c) (WT c) i).length≤1000:=fun i=>by
  have:i=0∨i=1∨i=2∨i=3∨i=4∨i=5∨i=6∨7≤i:=by omega
  rcases this with rfl | rfl | rfl | rfl | rfl | rfl | rfl | h
  all_goals first
   | (simp[Wn,Bh,Cl,Bt,Tr,WS,WT];omega)
   | (simp[Wn];done)
   | (unfold Wn;rw[Aee,Afo (by simpa using h)];simp)
 refine(pd hN hX 7 0 N (by omega) (by omega)).trans ?_
 have e:=pc (K:=K) hN hX 7 0 N (by omega) (by omega)
 rw[show Cx N K (Bh c).length (Cl c).length (Bt c).length (Tr c).length (WS c).length (WT c).length (Au (Bh c)) (Au (Cl c)) (Au (Bt c)) (Au (Tr c)) (Au (WS c)) (Au (WT c)) N 0=_ from e]
 have e1:((List.range' 0 7).all fun i=>(Wn (Bh c) (Cl c) (Bt c) (Tr c) (WS c) (WT c) i).all Df)=(B5 c).all fun l=>l.all Df:=by simp[Wn,B5,List.range']
 have f:((List.range' 0 7).any fun i=>Dm [] (Wn (Bh c) (Cl c) (Bt c) (Tr c) (WS c) (WT c) i))=(B5 c).any (Dm []):=by simp[Wn,B5,List.range',Dm]
 rw[e1,f]
 unfold I9
 cases (B5 c).all fun l=>l.all Df with
 | false=>rfl
 | true=>cases (B5 c).any (Dm [])<;>rfl
end
end Gx.Ct
namespace Gx.Ct
open Go Go.Proofs Gx.Cf
section
variable {R:Type} {N:Nat} {c:CaseD} {b:Bool}
def UM (o:OutD):Bool:=o.corr||o.moves.l.isEmpty
theorem gX {K:Lu→Int→O R} (d:c.outs.l.length≤1000):∀ (m j fuel:Nat),j+m=c.outs.l.length→m<fuel →
  O0 N K (c.outs.l.flatMap OutD.av) c.outs.l.length b c.av fuel (c.outs.l.length:Int) (j:Int) =
   cond ((c.outs.l.drop j).all UM) (H9 N c.av b false fun h o p=>cond o (K ([]:Lu) 3) (cond (decide ((h:Int)>1048576)) (K ([]:Lu) 8) (Option.bind (T6 (p.take (h*1))) fun q=>K q 0))) (K [] 16)
 | 0,j,fuel+1,f,_=>by
  rw[O0];unfold Ut
  rw[F9 (by omega),cf,A5 (by omega),Aeu,Dx,ct,Bx];rfl
 | m+1,j,fuel+1,f,n=>by
  rw[O0];unfold Ut
  have h:j<c.outs.l.length:=by omega
  have k:=gX (K:=K) d m (j+1) fuel (by omega) (by omega)
  rw[Fn h,ct,Ab h,ct,Cq (e:=OutD.av) (sz:=4) (fun _=>rfl) h,ct,Br (e:=OutD.av) (sz:=4) (fun _=>rfl) h,show((beq 0 0)&&((beq ((OutD.av c.outs.l[j]).length) 4)&&(beq 4 4)))=true from rfl,ct,Oy (by omega),k,A3 h,Aek,
   show ∀ F:Bool→O R,qS (drop 2 (OutD.av c.outs.l[j])) F=F (c.outs.l[j]).corr from fun _=>rfl]
  have rm:∀ F:LA→Nat→O R,A6 3 (drop 3 (OutD.av c.outs.l[j])) F=F ((c.outs.l[j]).moves.l.flatMap MoveD.av) (c.outs.l[j]).moves.l.length:=fun F=>by
   show A6 3 ((c.outs.l[j]).moves.av 3 MoveD.av::_) F=_
   rw[Bn]
  rw[rm]
  unfold UM
  cases (c.outs.l[j]).corr with
  | true=>rfl
  | false =>
   show cond (decide ((((c.outs.l[j]).moves.l.length:Nat):Int)>0)) _ _=_
   cases s:(c.outs.l[j]).moves.l with
   | nil=>rfl
   | cons x r=>rw[decide_eq_true (by simp)];rfl
theorem ph {K:Lu→Int→O R} (hx:Bp) (t:∀ z,i8 (tx z)) (hN:1000000000<N) (hI:CaseI c):T0 N c.av b K=K (o9 c) (Tt c):=by
 have fin:∀ e:Int,Tt c=e→e≠0→K [] e=K (o9 c) (Tt c):=fun e d j=>by unfold o9;rw[d,if_neg j]
 rw[PL];unfold GY
 rw[Dx,ct,Bx,pJ]
 cases d:Ff c with
 | false=>exact fin 8 (by unfold Tt;rw[if_pos d]) (by decide)
 | true =>
  have u:=d
  unfold Ff at u
  simp only[Ad3,decide_eq_true_eq] at u
  have E1:Tt c=if c.hours<1∨c.hours>24 then 3 else if Xo c=false then 4 else if I9 c≠0 then I9 c else if Mn c=false then 12 else if Fc c=false then 16 else if G0 c then 3 else if (Pa c).length>1048576 then 8 else 0:=by
   unfold Tt;rw[if_neg (by rw[d];decide)]
  show Av .i64 c.av _=_
  rw[Dc]
  by_cases j:c.hours<1
  ·rw[decide_eq_true j];exact fin 3 (by rw[E1,if_pos (.inl j)]) (by decide)
  ·rw[decide_eq_false j,show((false:Bool)==false)=true from rfl,ct,Dc]
   show cond (decide (c.hours>24)) _ _=_
   by_cases m:c.hours>24
   ·rw[decide_eq_true m];exact fin 3 (by rw[E1,if_pos (.inr m)]) (by decide)
   ·have E2:Tt c=if Xo c=false then 4 else if I9 c≠0 then I9 c else if Mn c=false then 12 else if Fc c=false then 16 else if G0 c then 3 else if (Pa c).length>1048576 then 8 else 0:=by
     rw[E1,if_neg (fun h=>h.elim j m)]
    rw[decide_eq_false m,cf]
    unfold Yc CQ
    rw[Dx,ct,Bx,pK (by omega) (by omega) (by omega)]
    cases v:Xo c with
    | false=>exact fin 4 (by rw[E2,if_pos v]) (by decide)
    | true =>
     have E3:Tt c=if I9 c≠0 then I9 c else if Mn c=false then 12 else if Fc c=false then 16 else if G0 c then 3 else if (Pa c).length>1048576 then 8 else 0:=by
      rw[E2,if_neg (by rw[v];decide)]
     rw[show(!true)=false from rfl,cf,ct,rg hN d]
     by_cases f:I9 c=0
     ·have E4:Tt c=if Mn c=false then 12 else if Fc c=false then 16 else if G0 c then 3 else if (Pa c).length>1048576 then 8 else 0:=by
       rw[E3,if_neg (fun h=>h f)]
      rw[f,show((0:Int) != 0)=false from rfl,cf,ct,rW hN d hI.o]
      cases n:Mn c with
      | false=>exact fin 12 (by rw[E4,if_pos n]) (by decide)
      | true =>
       have E5:Tt c=if Fc c=false then 16 else if G0 c then 3 else if (Pa c).length>1048576 then 8 else 0:=by
        rw[E4,if_neg (by rw[n];decide)]
       rw[show(!true)=false from rfl,cf,Fb]
       refine(gX (by omega) c.outs.l.length 0 N (by omega) (by omega)).trans ?_
       rw[Aeg,show c.outs.l.all UM=Fc c from rfl]
       cases x:Fc c with
       | false=>exact fin 16 (by rw[E5,if_pos x]) (by decide)
       | true =>
        have E6:Tt c=if G0 c then 3 else if (Pa c).length>1048576 then 8 else 0:=by
         rw[E5,if_neg (by rw[x];decide)]
        rw[ct]
        have k:∀ l ∈ B5 c,∀ s ∈ l,Df s=true:=by
         unfold I9 at f
         split at f
         ·rename_i y
          simp only[Ae3] at y
          exact y
         ·cases f
        have rd:Ready c:=⟨hI,fun l C s hs=>by
         have:=k l C s hs
         unfold Df at this
         simp only[Ad3,decide_eq_true_eq] at this
         exact this.2.1,n,d⟩
        rw[rV hx hN rd]
        cases A:G0 c with
        | true=>exact fin 3 (by rw[E6,if_pos A]) (by decide)
        | false =>
         have E7:Tt c=if (Pa c).length>1048576 then 8 else 0:=by
          rw[E6,if_neg (by rw[A];decide)]
         rw[cf]
         obtain⟨B,D⟩:=(v7 ⟨t,k,n⟩).out
         by_cases q:(Pa c).length>1048576
         ·have:=B.2 q
          rw[decide_eq_true (show(((Ho [] (f6 c)).length:Nat):Int)>1048576 by omega)]
          exact fin 8 (by rw[E7,if_pos q]) (by decide)
         ·have F:¬ (Ho [] (f6 c)).length>1048576:=fun h=>q (B.1 h)
          have e:=D (by omega)
          have E8:Tt c=0:=by rw[E7,if_neg q]
          rw[decide_eq_false (show ¬ (((Ho [] (f6 c)).length:Nat):Int)>1048576 by omega),cf,mH,PA,e]
          unfold o9;rw[E8,if_pos rfl];rfl
     ·rw[show(I9 c != 0)=true by simp[f],ct]
      exact fin (I9 c) (by rw[E3,if_pos f]) f
end
end Gx.Ct
namespace Gx.Ct
open Go Go.Proofs Gx.Cf
section
variable {R:Type} {N:Nat}
theorem UN {c:CaseD} {b:Bool} {K:Bool→O R} (e:c.ties.l.length≤1000000):∀ (m j fuel:Nat) (ok:Bool),j+m=c.ties.l.length→m<fuel →
  Mk N K (c.ties.l.flatMap TieD.av) c.ties.l.length b c.av fuel ok (c.ties.l.length:Int) (j:Int)=K (ok&&(c.ties.l.drop j).all (uI c))
 | 0,j,fuel+1,ok,f,_=>by
  rw[Mk];unfold Sa
  rw[F9 (by omega),cf,A5 (by omega),Aeu,Afd]
 | m+1,j,fuel+1,ok,f,s=>by
  rw[Mk];unfold Sa
  have h:j<c.ties.l.length:=by omega
  rw[Fn h,ct,Ab h,ct,Cq Lz h,ct,Br Lz h,show((beq 0 0)&&((beq ((TieD.av c.ties.l[j]).length) 5)&&(beq 5 5)))=true from rfl,ct,Oy (by omega),A3 h,Aek]
  have d:=fun ok=>UN (c:=c) (b:=b) (K:=K) e m (j+1) fuel ok (by omega) (by omega)
  have k:∀ F:LA→Nat→O R,A6 1 (drop 2 (TieD.av c.ties.l[j])) F=F (Az c.ties.l[j].imp.l) c.ties.l[j].imp.l.length:=fun F=>by
   show A6 1 (c.ties.l[j].imp.av 1 Fh::_) F=_
   rw[Bn,A4]
  have n:∀ F:LA→Nat→O R,A6 1 (drop 3 (TieD.av c.ties.l[j])) F=F (Az c.ties.l[j].exp.l) c.ties.l[j].exp.l.length:=fun F=>by
   show A6 1 (c.ties.l[j].exp.av 1 Fh::_) F=_
   rw[Bn,A4]
  have q:∀ F:LA→Nat→O R,A6 1 (drop 4 (TieD.av c.ties.l[j])) F=F (Az c.ties.l[j].price.l) c.ties.l[j].price.l.length:=fun F=>by
   show A6 1 (c.ties.l[j].price.av 1 Fh::_) F=_
   rw[Bn,A4]
  cases ok with
  | false=>exact(d false).trans (by simp)
  | true =>
   rw[show((true:Bool)==true)=true from rfl,ct,k,Dc]
   show cond (AN c c.ties.l[j].imp==true) _ _=_
   unfold uI
   cases AN c c.ties.l[j].imp with
   | false=>exact(d false).trans (by simp)
   | true =>
    rw[show((true:Bool)==true)=true from rfl,ct,n,Dc]
    show cond (AN c c.ties.l[j].exp==true) _ _=_
    cases AN c c.ties.l[j].exp with
    | false=>exact(d false).trans (by simp)
    | true =>
     rw[show((true:Bool)==true)=true from rfl,ct,q,Dc]
     exact d (AN c c.ties.l[j].price)
theorem PP {c:CaseD} {b:Bool} {K:Bool→O R} (f:c.buses.l.length≤1000000) (d:c.ties.l.length≤1000000) (hN:1000000<N):∀ (m j fuel:Nat) (ok:Bool),j+m=c.buses.l.length→m<fuel →
  Ja N K (c.buses.l.flatMap BusD.av) c.buses.l.length b c.av fuel ok (c.buses.l.length:Int) (j:Int)=K (ok&&((c.buses.l.drop j).all (fun x=>AN c x.demand)&&c.ties.l.all (uI c)))
 | 0,j,fuel+1,ok,k,_=>by
  rw[Ja];unfold Sb
  rw[F9 (by omega),cf,show c.buses.l.drop j=[] from A5 (by omega),Aeu,Gy]
  refine(UN (b:=b) (K:=K) d c.ties.l.length 0 N ok (by omega) (by omega)).trans ?_
  rfl
 | m+1,j,fuel+1,ok,k,q=>by
  rw[Ja];unfold Sb
  have h:j<c.buses.l.length:=by omega
  rw[Fn h,ct,Ab h,ct,Cq Kb h,ct,Br Kb h,show((beq 0 0)&&((beq ((BusD.av c.buses.l[j]).length) 3)&&(beq 3 3)))=true from rfl,ct,Oy (by omega),A3 h,Aek]
  have e:=fun ok=>PP (c:=c) (b:=b) (K:=K) f d hN m (j+1) fuel ok (by omega) (by omega)
  have n:∀ F:LA→Nat→O R,A6 1 (drop 1 (BusD.av c.buses.l[j])) F=F (Az c.buses.l[j].demand.l) c.buses.l[j].demand.l.length:=fun F=>by
   show A6 1 (c.buses.l[j].demand.av 1 Fh::_) F=_
   rw[Bn,A4]
  cases ok with
  | false=>exact(e false).trans (by simp)
  | true =>
   rw[show((true:Bool)==true)=true from rfl,ct,n,Dc]
   refine(e (AN c c.buses.l[j].demand)).trans ?_
   congr 1
   simp[Aey]
theorem m0 {c:CaseD} {t:Bool} {K:Bool→O R} (d:c.buses.l.length≤1000000) (e:c.ties.l.length≤1000000) (hN:1000000<N):Zw N c.av t K=K (Xo c):=by
 rw[LL];unfold BO
 rw[Tp,Dc,Bi]
 exact PP (b:=t) (K:=K) d e hN c.buses.l.length 0 N _ (by omega) (by omega)
theorem V1 {i:Int} {n:Nat} {F:Bool→O R}:Zx N i (n:Int) F=F (Dg i n):=by
 rw[gI];unfold mL Dg
 show cond (decide (0≤i)==true) (F (decide (i<(n:Int)))) (F false)=_
 cases decide (0≤i)<;>rfl
theorem kA {l:List A0} {w:A0} {d f:Bool} (k:l.length≤1000000):∀ (m j fuel:Nat),j+m=l.length→m<fuel →
  ∃ v:Int,(decide (v≥0)=(l.drop j).contains w)∧∀ K:Int→O R,Kl N K (Au l) l.length d f w fuel (j:Int)=K v
 | 0,j,fuel+1,n,_=>by
  refine⟨-1,by rw[A5 (by omega)];rfl,fun K=>?_⟩
  rw[Kl];unfold Sc
  rw[F9 (by omega),cf]
 | m+1,j,fuel+1,n,q=>by
  have h:j<l.length:=by omega
  obtain⟨v,v1,v2⟩:=kA (l:=l) (w:=w) (d:=d) (f:=f) k m (j+1) fuel (by omega) (by omega)
  by_cases e:l[j]=w
  ·refine⟨(j:Int),by rw[A3 h,Agk,e];simp,fun K=>?_⟩
   rw[Kl];unfold Sc
   rw[Fn h,ct,Ab h,ct,Ad2,Aeh,Gb h,show(l[j]==w)=true by simp[e],ct]
  ·refine⟨v,by rw[v1,A3 h,Agk,show(w==l[j])=false by simpa using fun h=>e h.symm,Aew],fun K=>?_⟩
   rw[Kl];unfold Sc
   rw[Fn h,ct,Ab h,ct,Ad2,Aeh,Gb h,show(l[j]==w)=false by simp[e],cf,Oy (by omega),v2]
end
end Gx.Ct
namespace Gx
open Go Go.Proofs
set_option maxRecDepth 100000
noncomputable section
variable {R:Type} (N:Nat)
def Ye (N:Nat) (r0:Nat→LA→O R) (b:LA) (a:Nat) (f d:Bool) (k0:Int→O R) (c:Int):O R :=
 (cond ((decide (c>0))==true) (cond (Aj (wrap .i64 (c - 1)) a) (Av .u32 (b.drop (((wrap .i64 (c - 1)).toNat)*1)) fun g=>cond (cond true (g==0) false) (k0 (wrap .i64 (c - 1))) (cond ((decide ((0:Int)≤(0:Int)))&&((decide (0≤c))&&((decide (c≤(a:Int)))&&(decide ((a:Int)≤(a:Int)))))) (cond ((!d)||(Ax (b.take ((c.toNat)*1)))) (cond ((ble (0+(c.toNat)) 140737488355328)&&(ble ((0+(c.toNat))*4) 140737488355328)) (r0 (0+(c.toNat)) (b.take ((c.toNat)*1))) none) none) none)) none) (cond ((decide ((0:Int)≤(0:Int)))&&((decide (0≤c))&&((decide (c≤(a:Int)))&&(decide ((a:Int)≤(a:Int)))))) (cond ((!d)||(Ax (b.take ((c.toNat)*1)))) (cond ((ble (0+(c.toNat)) 140737488355328)&&(ble ((0+(c.toNat))*4) 140737488355328)) (r0 (0+(c.toNat)) (b.take ((c.toNat)*1))) none) none) none))
def Ob (r0:Nat→LA→O R) (b:LA) (a:Nat) (f d:Bool):Nat→Int→O R
 | 0,_=>none
 | n+1,c=>Ye N r0 b a f d (Ob r0 b a f d n) c
def EU (N:Nat) (r0:Nat→LA→O R) (q0:Int→O R) (b:LA) (a:Nat) (f d:Bool):O R :=
 (q0 (a:Int))
def Ge:=(At fun N b a f d r0=>EU (R:=R) N r0 (Ob N r0 b a f d N) b a f d).1
theorem HF (b a f d r0):(@Ge R N b a f d r0)=(EU N r0 (Ob N r0 b a f d N) b a f d):=by rw[Ge,(At _).2]
def aR:Hints:={ H:=(hK 2 (hS (hS (hP [0,3] hL) hL) hL)),nils:=[(2,1)],modes:=[(2,1)] }
def pi (F:KF R):=Tj Tryz.f161 aR [] [] N F
def pj (b:LA) (a:Nat) (f d:Bool) (K:St→O R):=fun c=>K ⟨[(0,(.imm b a 1 f d)),(3,(iv c))],[]⟩
theorem gY (F:KF R) (b a f d):∀ n,pj b a f d (Ao (pi N F (pz 336) []) n)=(Ob N (M9 F) b a f d n):=Ev fun n e=>(Ee (Ye N (M9 F) b a f d) e:_)
def Oc:=Jl N 161 [] aR (fun
 | [(.imm b a 1 f d)],[]=>some fun _ k=>Ge N b a f d (M9 k)
 | _,_=>none) fun _ _=>by split;intro R F;exact(Ee (EU N (M9 F) · _ _ _ _) ((lW ..).trans (gY ..)):_).trans (HF ..).symm;trivial
def Wo (a:Int) (r0:Nat→LA→O R):O R :=
 (Ge N [(.int .u32 (wrap .u32 a)),(.int .u32 (wrap .u32 (Int.fdiv a (2 ^ 32))))] 2 false true fun b c=>r0 b c)
def Hr:=(At (@Wo R)).1
theorem Z2:@Hr R=@Wo R:=(At _).2
def EV:=Jl N 145 [Oc N] { H:=hL,nils:=[(2,1)],modes:=[(2,1)] } (fun
 | [(.int .u64 a)],[]=>some fun _ k=>Hr N a (M9 k)
 | _,_=>none) fun _ _=>by split;intro R F;dsimp only;rw[Z2];kernel_rfl;trivial
def XP (b:Bool) (c:LA) (d:Nat) (f e:Bool) (r0:LA→O R):O R :=
 (Ge N c d false e fun a g=>cond (b==true) (r0 [(.bool (cond true (decide ((a:Int)>0)) false)),(.imm (g.take (a*1)) a 1 false false)]) (r0 [(.bool false),(.imm (g.take (a*1)) a 1 false false)]))
def EW:=(At (@XP R)).1
theorem UO:@EW R=@XP R:=(At _).2
def gZ:=Jl N 144 [Oc N] vQ (fun
 | [(.bool b),(.imm c d 1 f e)],[]=>some fun _ k=>EW N b c d f e (CJ k)
 | _,_=>none) fun _ _=>by split;intro R F;dsimp only;rw[UO];kernel_rfl;trivial
def HG (a:Int) (r0:LA→O R):O R :=
 (cond (decide (a<0)) (Hr N (wrap .u64 ((wrap .u64 (wrap .i64 ((0:Int) - (wrap .i64 (a+1)))))+1)) fun d f=>EW N true (f.take (d*1)) d false true fun b=>cond ((beq 0 0)&&((beq (b.length) 2)&&(beq 2 2))) (cond (ble 2 (b.length)) (r0 (b.take 2)) none) none) (Hr N (wrap .u64 a) fun e g=>EW N false (g.take (e*1)) e false true fun c=>cond ((beq 0 0)&&((beq (c.length) 2)&&(beq 2 2))) (cond (ble 2 (c.length)) (r0 (c.take 2)) none) none))
def V2:=(At (@HG R)).1
theorem IR:@V2 R=@HG R:=(At _).2
def iz:=Jl N 131 [EV N,gZ N] vQ (fun
 | [(.int .i64 a)],[]=>some fun _ k=>V2 N a (CJ k)
 | _,_=>none) fun _ _=>by split;intro R F;dsimp only;rw[IR];kernel_rfl;trivial
def XQ (a:LA) (b:Bool) (r0:LA→O R):O R :=
 (qS a fun d=>A6 1 (a.drop 1) fun e f=>EW N d e f false b fun c=>cond ((beq 0 0)&&((beq (c.length) 2)&&(beq 2 2))) (cond (ble 2 (c.length)) (r0 (c.take 2)) none) none)
def UP:=(At (@XQ R)).1
theorem UQ:@UP R=@XQ R:=(At _).2
def ri:=Jl N 142 [gZ N] vQ (fun
 | [(.pagg a b)],[]=>some fun _ k=>UP N a b (CJ k)
 | _,_=>none) fun _ _=>by split;intro R F;dsimp only;rw[UQ];kernel_rfl;trivial
def Gf (N:Nat) (r0:Int→Bool→O R) (a:Nat) (b:LA) (k0:Int→Int→O R) (i c:Int):O R :=
 (cond (decide (c≥0)) (cond (Aj c a) (Av .u32 (b.drop (0+((c.toNat)*1))) fun j=>k0 (fB .u64 (wrap .u64 (i*2 ^ 32)) (wrap .u64 j)) (wrap .i64 (c - 1))) none) (r0 i true))
def Ei (r0:Int→Bool→O R) (a:Nat) (b:LA):Nat→Int→Int→O R
 | 0,_,_=>none
 | n+1,i,c=>Gf N r0 a b (Ei r0 a b n) i c
def BS (r0:Int→Bool→O R) (q0:Nat→LA→Int→Int→O R) (d:LA) (f:Nat) (h g:Bool):O R :=
 (Ge N d f false g fun a b=>cond (decide ((a:Int)>2)) (r0 0 false) (q0 a b 0 (wrap .i64 ((a:Int) - 1))))
def Lm:=(At fun N d f h g r0=>BS (R:=R) N r0 (fun a b=>Ei N r0 a b N) d f h g).1
theorem LY (d f h g r0):(@Lm R N d f h g r0)=(BS N r0 (fun a b=>Ei N r0 a b N) d f h g):=by rw[Lm,(At _).2]
def PQ:Hints:={ H:=(hK 4 (hS (hK 1 (hS (hP [0,4,5] hL) hL)) hL)) }
def UR:EZ:=[Oc N]
def jA (F:KF R):=Tj Tryz.f160 PQ (UR N) [] N F
def U1 (F:KF R):Int→Bool→O R:=(fun l m=>F (.tup [(.int .u64 l),(.bool m)]) [])
def jB (a:Nat) (b:LA) (K:St→O R):=fun i c=>K ⟨[(0,(.own 300000 0 a)),(4,(.int .u64 i)),(5,(iv c))],(hq [(bQ 1 b)])⟩
theorem XR (F:KF R) (a b):∀ n,jB a b (Ao (jA N F (pz 21828) []) n)=(Ei N (U1 F) a b n):=Ev fun n e=>(Ee (Gf N (U1 F) a b) e:_)
def US:=Jl N 160 (UR N) PQ (fun
 | [(.imm d f 1 h g)],[]=>some fun _ k=>Lm N d f h g (U1 k)
 | _,_=>none) fun _ _=>by split;intro R F;exact(Ee (BS N (U1 F) · _ _ _ _) (Yo fun a b=>(lW ..).trans (XR ..)):_).trans (LY ..).symm;trivial
def Sg (N:Nat) (r0:Int→O R) (k0:Int→Int→O R) (f g:Int):O R :=
 (cond (decide (g>0)) (k0 (wrap .i64 (f+1)) (Int.fdiv g (2 ^ 1))) (r0 f))
def Km (r0:Int→O R):Nat→Int→Int→O R
 | 0,_,_=>none
 | n+1,f,g=>Sg N r0 (Km r0 n) f g
def EX (r0:Int→O R) (q0:Int→Int→O R) (a:LA) (b:Nat) (d c:Bool):O R :=
 (Ge N a b false c fun h i=>cond ((h:Int)==0) (r0 0) (cond (Aj (wrap .i64 ((h:Int) - 1)) h) (Av .u32 (i.drop (0+(((wrap .i64 ((h:Int) - 1)).toNat)*1))) fun j=>q0 (wrap .i64 (32*(wrap .i64 ((h:Int) - 1)))) j) none))
def LZ:=(At fun N a b d c r0=>EX (R:=R) N r0 (Km N r0 N) a b d c).1
theorem HH (a b d c r0):(@LZ R N a b d c r0)=(EX N r0 (Km N r0 N) a b d c):=by rw[LZ,(At _).2]
def aS:Hints:={ H:=(hK 4 (hS (hK 1 (hS (hP [3,4] hL) hL)) hL)) }
def g8:EZ:=[Oc N]
def pk (F:KF R):=Tj Tryz.f190 aS (g8 N) [] N F
def pm (K:St→O R):=fun f g=>K ⟨[(3,(iv f)),(4,(.int .u32 g))],[]⟩
theorem g9 (F:KF R):∀ n,pm (Ao (pk N F (pz 21828) []) n)=(Km N (D4 F) n):=Ev fun n e=>(Ee (Sg N (D4 F)) e:_)
def rj:=Jl N 190 (g8 N) aS (fun
 | [(.imm a b 1 d c)],[]=>some fun _ k=>LZ N a b d c (D4 k)
 | _,_=>none) fun _ _=>by split;intro R F;exact(Ee (EX N (D4 F) · _ _ _ _) ((lW ..).trans (g9 ..)):_).trans (HH ..).symm;trivial
def Z3 (N:Nat) (k0:Nat→Int→Int→LA→O R) (r0:Nat→LA→O R) (c:LA) (a:Nat) (f g:Bool) (d:LA) (b:Nat) (h i:Bool) (j:Nat) (l:LA) (p m:Int):O R :=
 (cond (decide (m<(b:Int))) (cond (Aj m b) (Av .u32 (d.drop ((m.toNat)*1)) fun r=>cond (Aj m j) (cond ((beq 1 1)&&((ble ((0+((m.toNat)*1))+1) (l.length))&&(!false))) (k0 j (Int.fdiv (wrap .u64 (p+(wrap .u64 r))) (2 ^ 32)) (wrap .i64 (m+1)) (l.set (0+((m.toNat)*1)) (.int .u32 (wrap .u32 (wrap .u64 (p+(wrap .u64 r))))))) none) none) none) (cond (Aj m j) (cond ((beq 1 1)&&((ble ((0+((m.toNat)*1))+1) (l.length))&&(!false))) (k0 j (Int.fdiv p (2 ^ 32)) (wrap .i64 (m+1)) (l.set (0+((m.toNat)*1)) (.int .u32 (wrap .u32 p)))) none) none))
def BT (r0:Nat→LA→O R) (c:LA) (a:Nat) (f g:Bool) (d:LA) (b:Nat) (h i:Bool) (k0:Nat→Int→Int→LA→O R) (q1:Nat→LA→Int→Int→O R) (j:Nat) (q o:Int) (l:LA):O R :=
 (cond (decide (o<(j:Int))) (cond (decide (o<(a:Int))) (cond (Aj o a) (Av .u32 (c.drop ((o.toNat)*1)) fun s=>q1 j l (wrap .u64 (q+(wrap .u64 s))) o) none) (q1 j l q o)) (Ge N (l.take (j*1)) j false true fun t u=>r0 t u))
def Jc (r0:Nat→LA→O R) (c:LA) (a:Nat) (f g:Bool) (d:LA) (b:Nat) (h i:Bool):Nat→Nat→Int→Int→LA→O R
 | 0,_,_,_,_=>none
 | n+1,j,q,o,l=>BT N r0 c a f g d b h i (Jc r0 c a f g d b h i n) (fun j l=>Z3 N (Jc r0 c a f g d b h i n) r0 c a f g d b h i j l) j q o l
def UT (N:Nat) (r0:Nat→LA→O R) (q0:Nat→Int→Int→LA→O R) (c:LA) (a:Nat) (f g:Bool) (d:LA) (b:Nat) (h i:Bool):O R :=
 (cond ((decide (0≤(wrap .i64 ((QG (a:Int) (b:Int))+1))))&&((decide ((wrap .i64 ((QG (a:Int) (b:Int))+1))≤(wrap .i64 ((QG (a:Int) (b:Int))+1))))&&((decide ((wrap .i64 ((QG (a:Int) (b:Int))+1))≤140737488355328))&&(decide (((wrap .i64 ((QG (a:Int) (b:Int))+1))*((4:Nat):Int))≤140737488355328))))) (q0 ((wrap .i64 ((QG (a:Int) (b:Int))+1)).toNat) 0 0 (replicate ((wrap .i64 ((QG (a:Int) (b:Int))+1)).toNat) (.int .u32 0))) none)
def NM:=(At fun N c a f g d b h i r0=>UT (R:=R) N r0 (Jc N r0 c a f g d b h i N) c a f g d b h i).1
theorem aT (c a f g d b h i r0):(@NM R N c a f g d b h i r0)=(UT N r0 (Jc N r0 c a f g d b h i N) c a f g d b h i):=by rw[NM,(At _).2]
def g_:Hints:={ H:=(hK 3 (hS (hK 1 (hS (hP [0,1,5,6,7] (hK 1 (hS (hS (hJ [0,1,5,6,7] hL hL) hL) hL))) hL)) hL)),nils:=[(4,1)],modes:=[(2,1)] }
def kC:EZ:=[Oc N]
def gc (F:KF R):=Tj Tryz.f191 g_ (kC N) [] N F
def rk (c:LA) (a:Nat) (f g:Bool) (d:LA) (b:Nat) (h i:Bool) (j:Nat) (l:LA) (K:St→O R):=fun p m=>K ⟨[(0,(.imm c a 1 f g)),(1,(.imm d b 1 h i)),(5,(.own 300000 0 j)),(6,(.int .u64 p)),(7,(iv m))],(hq [(bQ 1 l)])⟩
def gd (c:LA) (a:Nat) (f g:Bool) (d:LA) (b:Nat) (h i:Bool) (K:St→O R):=fun j q o l=>K ⟨[(0,(.imm c a 1 f g)),(1,(.imm d b 1 h i)),(5,(.own 300000 0 j)),(6,(.int .u64 q)),(7,(iv o))],(hq [(bQ 1 l)])⟩
theorem jC (Q0) (F:KF R) (c a f g d b h i j l):rk c a f g d b h i j l (D5 (gc N F (pz 5574721) [Q0]))=(Z3 N (gd c a f g d b h i Q0) (M9 F) c a f g d b h i j l):=by kernel_rfl
theorem jD (F:KF R) (c a f g d b h i):∀ n,gd c a f g d b h i (Ao (gc N F (pz 5444) []) n)=(Jc N (M9 F) c a f g d b h i n):=Ev fun n e=>(Sq (BT N (M9 F) c a f g d b h i) e (Yo fun j l=>(jW ..).trans ((jC ..).trans (iI (Z3 _ · _ _ _ _ _ _ _ _ _ _ _) e))):_)
def uO:=Jl N 191 (kC N) g_ (fun
 | [(.imm c a 1 f g),(.imm d b 1 h i)],[]=>some fun _ k=>NM N c a f g d b h i (M9 k)
 | _,_=>none) fun _ _=>by split;intro R F;exact(Ee (UT N (M9 F) · _ _ _ _ _ _ _ _) ((lW ..).trans (jD ..)):_).trans (aT ..).symm;trivial
def ge (N:Nat) (c:LA) (b:Nat) (d e:Bool) (a:Int) (r0:Int→O R):O R :=
 (cond (decide ((wrap .i64 (Int.tdiv a 32))≥(b:Int))) (r0 0) (cond (Aj (wrap .i64 (Int.tdiv a 32)) b) (Av .u32 (c.drop (((wrap .i64 (Int.tdiv a 32)).toNat)*1)) fun f=>cond (decide ((wrap .u64 (Int.tmod a 32))<0)) none (r0 (qy .u32 (Int.fdiv f (2 ^ (min ((wrap .u64 (Int.tmod a 32)).toNat) 32))) 1))) none))
def dR:=(At (@ge R)).1
theorem aU:@dR R=@ge R:=(At _).2
def rn (F:KF R):Int→O R:=(fun g=>F (.int .u32 g) [])
def uP:=Jl N 192 [] O7 (fun
 | [(.imm c b 1 d e),(.int .i64 a)],[]=>some fun _ k=>dR N c b d e a (rn k)
 | _,_=>none) fun _ _=>by split;intro R F;dsimp only;rw[aU];kernel_rfl;trivial
def Qi (N:Nat) (r0:Int→O R) (a b:Nat) (c d:LA) (k0:Int→O R) (f:Int):O R :=
 (cond (decide (f≥0)) (cond (Aj f a) (Av .u32 (c.drop (0+((f.toNat)*1))) fun q=>cond (Aj f b) (Av .u32 (d.drop (0+((f.toNat)*1))) fun r=>cond (decide (q<r)) (r0 (-1)) (cond (Aj f a) (Av .u32 (c.drop (0+((f.toNat)*1))) fun s=>cond (Aj f b) (Av .u32 (d.drop (0+((f.toNat)*1))) fun t=>cond (decide (s>t)) (r0 1) (k0 (wrap .i64 (f - 1)))) none) none)) none) none) (r0 0))
def Hs (r0:Int→O R) (a b:Nat) (c d:LA):Nat→Int→O R
 | 0,_=>none
 | n+1,f=>Qi N r0 a b c d (Hs r0 a b c d n) f
def Yf (r0:Int→O R) (q0:Nat→Nat→LA→LA→Int→O R) (g:LA) (h:Nat) (o i:Bool) (j:LA) (l:Nat) (p m:Bool):O R :=
 (Ge N g h false i fun a c=>Ge N j l false m fun b d=>cond ((a:Int) != (b:Int)) (cond (decide ((a:Int)<(b:Int))) (r0 (-1)) (r0 1)) (q0 a b c d (wrap .i64 ((a:Int) - 1))))
def V3:=(At fun N g h o i j l p m r0=>Yf (R:=R) N r0 (fun a b c d=>Hs N r0 a b c d N) g h o i j l p m).1
theorem IS (g h o i j l p m r0):(@V3 R N g h o i j l p m r0)=(Yf N r0 (fun a b c d=>Hs N r0 a b c d N) g h o i j l p m):=by rw[V3,(At _).2]
def L_:Hints:={ H:=(hK 3 (hS (hK 1 (hS (hP [0,1,5] hL) hL)) hL)) }
def PR:EZ:=[Oc N]
def gf (F:KF R):=Tj Tryz.f218 L_ (PR N) [] N F
def gg (a b:Nat) (c d:LA) (K:St→O R):=fun f=>K ⟨[(0,(.own 300000 0 a)),(1,(.own 300001 0 b)),(5,(iv f))],(hq [(bQ 1 c),(bQ 1 d)])⟩
theorem UU (F:KF R) (a b c d):∀ n,gg a b c d (Ao (gf N F (pz 5444) []) n)=(Hs N (D4 F) a b c d n):=Ev fun n e=>(Ee (Qi N (D4 F) a b c d) e:_)
def jE:=Jl N 218 (PR N) L_ (fun
 | [(.imm g h 1 o i),(.imm j l 1 p m)],[]=>some fun _ k=>V3 N g h o i j l p m (D4 k)
 | _,_=>none) fun _ _=>by split;intro R F;exact(Ee (Yf N (D4 F) · _ _ _ _ _ _ _ _) (tk fun a b c d=>(lW ..).trans (UU ..)):_).trans (IS ..).symm;trivial
def Z4 (N:Nat) (k0:Int→Int→LA→O R) (r0:Nat→Bool→LA→O R) (a b:Nat) (c d f:LA) (g t:Int):O R :=
 (cond (Aj g a) (Av .u32 (c.drop (0+((g.toNat)*1))) fun u=>cond (decide ((wrap .u64 u)<t)) (cond (Aj g a) (cond ((beq 1 1)&&((ble ((0+((g.toNat)*1))+1) (f.length))&&(!false))) (k0 1 (wrap .i64 (g+1)) (f.set (0+((g.toNat)*1)) (.int .u32 (wrap .u32 (wrap .u64 ((wrap .u64 ((wrap .u64 u)+4294967296)) - t)))))) none) none) (cond (Aj g a) (cond ((beq 1 1)&&((ble ((0+((g.toNat)*1))+1) (f.length))&&(!false))) (k0 0 (wrap .i64 (g+1)) (f.set (0+((g.toNat)*1)) (.int .u32 (wrap .u32 (wrap .u64 ((wrap .u64 u) - t)))))) none) none)) none)
def BU (r0:Nat→Bool→LA→O R) (a b:Nat) (c d:LA) (k0:Int→Int→LA→O R) (q1:LA→Int→Int→O R) (s h:Int) (f:LA):O R :=
 (cond (decide (h<(a:Int))) (cond (decide (h<(b:Int))) (cond (Aj h b) (Av .u32 (d.drop (0+((h.toNat)*1))) fun v=>q1 f h (wrap .u64 (s+(wrap .u64 v)))) none) (q1 f h s)) (Ge N (f.take (a*1)) a false true fun w x=>r0 w true x))
def Jd (r0:Nat→Bool→LA→O R) (a b:Nat) (c d:LA):Nat→Int→Int→LA→O R
 | 0,_,_,_=>none
 | n+1,s,h,f=>BU N r0 a b c d (Jd r0 a b c d n) (fun f=>Z4 N (Jd r0 a b c d n) r0 a b c d f) s h f
def UV (r0:Nat→Bool→LA→O R) (q0:Nat→Nat→LA→LA→Int→Int→LA→O R) (i:LA) (j:Nat) (q l:Bool) (m:LA) (o:Nat) (r p:Bool):O R :=
 (V3 N i j false l m o false p fun y=>cond (decide (y<0)) (r0 0 false []) (Ge N i j false l fun a c=>Ge N m o false p fun b d=>cond ((decide (0≤(a:Int)))&&((decide ((a:Int)≤(a:Int)))&&((decide ((a:Int)≤140737488355328))&&(decide (((a:Int)*((4:Nat):Int))≤140737488355328))))) (q0 a b c d 0 0 (replicate a (.int .u32 0))) none))
def UW:=(At fun N i j q l m o r p r0=>UV (R:=R) N r0 (fun a b c d=>Jd N r0 a b c d N) i j q l m o r p).1
theorem aV (i j q l m o r p r0):(@UW R N i j q l m o r p r0)=(UV N r0 (fun a b c d=>Jd N r0 a b c d N) i j q l m o r p):=by rw[UW,(At _).2]
def gh:Hints:={ H:=(hK 5 (hS (hK 1 (hS (hP [0,1,6,7,8] (hK 1 (hS (hS (hK 1 (hJ [0,1,6,8,9] hL hL)) hL) hL))) hL)) hL)),nils:=[(4,1)],modes:=[(2,1),(0,0)] }
def kD:EZ:=[jE N,Oc N]
def gi (F:KF R):=Tj Tryz.f193 gh (kD N) [] N F
def Z5 (F:KF R):Nat→Bool→LA→O R:=(fun z aa ab=>F (.tup [(.own 300000 0 z),(.bool aa)]) (hq [(bQ 1 ab)]))
def ro (a b:Nat) (c d f:LA) (K:St→O R):=fun g t=>K ⟨[(0,(.own 300000 0 a)),(1,(.own 300001 0 b)),(6,(.own 300002 0 a)),(8,(iv g)),(9,(.int .u64 t))],(hq [(bQ 1 c),(bQ 1 d),(bQ 1 f)])⟩
def gj (a b:Nat) (c d:LA) (K:St→O R):=fun s h f=>K ⟨[(0,(.own 300000 0 a)),(1,(.own 300001 0 b)),(6,(.own 300002 0 a)),(7,(.int .u64 s)),(8,(iv h))],(hq [(bQ 1 c),(bQ 1 d),(bQ 1 f)])⟩
theorem jF (Q0) (F:KF R) (a b c d f):ro a b c d f (D5 (gi N F (pz 357843205) [Q0]))=(Z4 N (gj a b c d Q0) (Z5 F) a b c d f):=by kernel_rfl
theorem jG (F:KF R) (a b c d):∀ n,gj a b c d (Ao (gi N F (pz 87364) []) n)=(Jd N (Z5 F) a b c d n):=Ev fun n e=>(Sq (BU N (Z5 F) a b c d) e (xw fun f=>(jW ..).trans ((jF ..).trans (iI (Z4 _ · _ _ _ _ _ _) e))):_)
def uQ:=Jl N 193 (kD N) gh (fun
 | [(.imm i j 1 q l),(.imm m o 1 r p)],[]=>some fun _ k=>UW N i j q l m o r p (Z5 k)
 | _,_=>none) fun _ _=>by split;intro R F;exact(Ee (UV N (Z5 F) · _ _ _ _ _ _ _ _) (tk fun a b c d=>(lW ..).trans (jG ..)):_).trans (aV ..).symm;trivial
def Ml (k1:Nat→Int→LA→LA→O R) (r0:Nat→Nat→Bool→LA→LA→O R) (b:LA) (a:Nat) (f c:Bool) (d:Nat) (h:Int) (g i:LA) (r:Nat) (s:LA):O R :=
 (UW N (s.take (r*1)) r false true (g.take (d*1)) d false true fun x y z=>cond y (cond (Aj (wrap .i64 (Int.tdiv h 32)) a) (Av .u32 (i.drop (0+(((wrap .i64 (Int.tdiv h 32)).toNat)*1))) fun aa=>cond (decide ((wrap .u64 (Int.tmod h 32))<0)) none (cond (Aj (wrap .i64 (Int.tdiv h 32)) a) (cond ((beq 1 1)&&((ble ((0+(((wrap .i64 (Int.tdiv h 32)).toNat)*1))+1) (i.length))&&(!false))) (k1 x (wrap .i64 (h - 1)) (i.set (0+(((wrap .i64 (Int.tdiv h 32)).toNat)*1)) (.int .u32 (fB .u32 aa (wrap .u32 ((1:Int)*2 ^ (min ((wrap .u64 (Int.tmod h 32)).toNat) 32)))))) z) none) none)) none) (k1 r (wrap .i64 (h - 1)) i s))
def Sh (r0:Nat→Nat→Bool→LA→LA→O R) (b:LA) (a:Nat) (f c:Bool) (d:Nat) (g:LA) (k1:Nat→Int→LA→LA→O R) (q2:Int→LA→Nat→LA→O R) (j:Nat) (h:Int) (i p:LA):O R :=
 (cond (decide (h≥0)) (NM N (p.take (j*1)) j false true (p.take (j*1)) j false true fun u v=>dR N b a false c h fun ab=>cond (ab==1) (NM N (v.take (u*1)) u false true [(.int .u32 1)] 1 false true fun ac ad=>q2 h i ac ad) (q2 h i u v)) (Ge N (i.take (a*1)) a false true fun ae af=>Ge N (p.take (j*1)) j false true fun ag ah=>r0 ae ag true af ah))
def F8 (r0:Nat→Nat→Bool→LA→LA→O R) (b:LA) (a:Nat) (f c:Bool) (d:Nat) (g:LA):Nat→Nat→Int→LA→LA→O R
 | 0,_,_,_,_=>none
 | n+1,j,h,i,p=>Sh N r0 b a f c d g (F8 r0 b a f c d g n) (fun h i=>Ml N (F8 r0 b a f c d g n) r0 b a f c d h g i) j h i p
def Z6 (r0:Nat→Nat→Bool→LA→LA→O R) (b:LA) (a:Nat) (f c:Bool) (d:Nat) (g:LA) (q1:Nat→Int→LA→LA→O R):O R :=
 (cond ((decide (0≤(a:Int)))&&((decide ((a:Int)≤(a:Int)))&&((decide ((a:Int)≤140737488355328))&&(decide (((a:Int)*((4:Nat):Int))≤140737488355328))))) (LZ N b a false c fun ai=>q1 0 (wrap .i64 (ai - 1)) (replicate a (.int .u32 0)) []) none)
def P0 (r0:Nat→Nat→Bool→LA→LA→O R) (b:LA) (a:Nat) (f c:Bool) (d:Nat) (g:LA):O R:=(Z6 N r0 b a f c d g (F8 N r0 b a f c d g N))
def BV (r0:Nat→Nat→Bool→LA→LA→O R) (q0:Nat→LA→O R) (b:LA) (a:Nat) (f c:Bool) (l:LA) (m:Nat) (q o:Bool):O R :=
 (Ge N l m false o fun d g=>cond ((d:Int)==0) (r0 0 0 false [] []) (Lm N b a false c fun w aj=>Lm N (g.take (d*1)) d false true fun t ak=>cond (aj==true) (cond (cond true ak false) (cond (t==0) none (Hr N (wrap .u64 (Int.tdiv w t)) fun al am=>cond (t==0) none (Hr N (Int.tmod w t) fun an ao=>r0 al an true am ao))) (q0 d g)) (q0 d g)))
def Qt:=(At fun N b a f c l m q o r0=>BV (R:=R) N r0 (fun d g=>P0 N r0 b a f c d g) b a f c l m q o).1
theorem MA (b a f c l m q o r0):(@Qt R N b a f c l m q o r0)=(BV N r0 (fun d g=>P0 N r0 b a f c d g) b a f c l m q o):=by rw[Qt,(At _).2]
def PS:Hints:={ H:=(hK 4 (hJ [0,1,5] hL (hK 1 (hS (hK 1 (hS (hP [0,1,4,5,11] (hK 1 (hS (hS (hK 1 (hJ [0,1,4,5,11] hL hL)) hL) hL))) hL)) hL)))),nils:=[(4,1),(5,1)],modes:=[(2,1),(2,1),(0,0)] }
def UX:EZ:=[Oc N,US N,EV N,rj N,uO N,uP N,uQ N]
def CU (F:KF R):=Tj Tryz.f159 PS (UX N) [] N F
def Je (F:KF R):Nat→Nat→Bool→LA→LA→O R:=(fun ap aq ar au av=>F (.tup [(.own 300000 0 ap),(.own 300001 0 aq),(.bool ar)]) (hq [(bQ 1 au),(bQ 1 av)]))
def jH (b:LA) (a:Nat) (f c:Bool) (d:Nat) (h:Int) (g i:LA) (K:St→O R):=fun r s=>K ⟨[(0,(.imm b a 1 f c)),(1,(.own 300000 0 d)),(4,(.own 300001 0 a)),(5,(.own 300002 0 r)),(11,(iv h))],(hq [(bQ 1 g),(bQ 1 i),(bQ 1 s)])⟩
def PT (b:LA) (a:Nat) (f c:Bool) (d:Nat) (g:LA) (K:St→O R):=fun j h i p=>K ⟨[(0,(.imm b a 1 f c)),(1,(.own 300000 0 d)),(4,(.own 300001 0 a)),(5,(.own 300002 0 j)),(11,(iv h))],(hq [(bQ 1 g),(bQ 1 i),(bQ 1 p)])⟩
def jI (b:LA) (a:Nat) (f c:Bool) (d:Nat) (g:LA) (K:St→O R):=K ⟨[(0,(.imm b a 1 f c)),(1,(.own 300000 0 d)),(5,(.own 300001 0 0))],(hq [(bQ 1 g),(bQ 1 [])])⟩
theorem XS (Q1) (F:KF R) (b a f c d h g i):jH b a f c d h g i (D5 (CU N F (pz 1431585029) [Q1]))=(Ml N (PT b a f c d g Q1) (Je F) b a f c d h g i):=by kernel_rfl
theorem XT (F:KF R) (b a f c d g):∀ n,PT b a f c d g (Ao (CU N F (pz 349508) []) n)=(F8 N (Je F) b a f c d g n):=Ev fun n e=>(Sq (Sh N (Je F) b a f c d g) e (Yo fun h i=>(jW ..).trans ((XS ..).trans (iI (Ml _ · _ _ _ _ _ _ _ _ _) e))):_)
theorem XU (F:KF R) (b a f c d g):jI b a f c d g (D5 (CU N F (pz 1365) []))=(P0 N (Je F) b a f c d g):=(Ee (Z6 N (Je F) b a f c d g) ((lW ..).trans (XT ..)):_)
def m7:=Jl N 159 (UX N) PS (fun
 | [(.imm b a 1 f c),(.imm l m 1 q o)],[]=>some fun _ k=>Qt N b a f c l m q o (Je k)
 | _,_=>none) fun _ _=>by split;intro R F;exact(Ee (BV N (Je F) · _ _ _ _ _ _ _ _) (Yo fun d g=>(jW ..).trans (XU ..)):_).trans (MA ..).symm;trivial
def U2 (k4:Bool→Int→Int→O R) (r0:Bool→O R) (d:LA) (f:Nat) (a:Bool) (g:Int) (i:LA) (p:Nat) (b:LA) (k6:Bool→Int→Int→Int→O R) (al:Bool) (ae af x:Int):O R :=
 (cond (decide (x<af)) (cond (Aj x p) (cond (ble 3 ((i.drop ((x.toNat)*3)).length)) (cond ((!a)||(Ax ((i.drop ((x.toNat)*3)).take 3))) (cond ((beq (((i.drop ((x.toNat)*3)).take 3).length) 3)&&((ble 3 3)&&(!false))) (cond (al==true) (Av .i64 (setCells [(.int .i64 0),(.int .i64 0),(.int .i64 0)] 0 ((i.drop ((x.toNat)*3)).take 3)) fun au=>A6 22 (b.drop 4) fun bn av=>Zx N au (av:Int) fun aw=>k6 (cond true aw false) ae af (wrap .i64 (x+1))) (k6 false ae af (wrap .i64 (x+1)))) none) none) none) none) (k4 al g (wrap .i64 (ae+1))))
def O2 (k4:Bool→Int→Int→O R) (r0:Bool→O R) (d:LA) (f:Nat) (a:Bool) (g:Int) (i:LA) (p:Nat) (b:LA):Nat→Bool→Int→Int→Int→O R
 | 0,_,_,_,_=>none
 | n+1,al,ae,af,x=>U2 N k4 r0 d f a g i p b (O2 k4 r0 d f a g i p b n) al ae af x
def U3 (k4:Bool→Int→Int→O R) (r0:Bool→O R) (d:LA) (f:Nat) (a:Bool) (g:Int) (u:LA) (q:Nat) (b:LA) (k5:Bool→Int→Int→Int→LA→O R) (q6:LA→Nat→Bool→Int→Int→Int→O R) (am:Bool) (ag ah ab:Int) (ai:LA):O R :=
 (cond (decide (ab<ah)) (cond (Aj ab q) (Av .i64 (u.drop ((ab.toNat)*1)) fun ax=>cond (am==true) (A6 12 (b.drop 3) fun bo ay=>Zx N ax (ay:Int) fun az=>k5 (cond true az false) ag ah (wrap .i64 (ab+1)) ai) (k5 false ag ah (wrap .i64 (ab+1)) ai)) none) (A6 3 (ai.drop 3) fun i p=>q6 i p am ag (p:Int) 0))
def Ln (k4:Bool→Int→Int→O R) (r0:Bool→O R) (d:LA) (f:Nat) (a:Bool) (g:Int) (u:LA) (q:Nat) (b:LA):Nat→Bool→Int→Int→Int→LA→O R
 | 0,_,_,_,_,_=>none
 | n+1,am,ag,ah,ab,ai=>U3 N k4 r0 d f a g u q b (Ln k4 r0 d f a g u q b n) (fun i p=>O2 N k4 r0 d f a g i p b N) am ag ah ab ai
def U4 (N:Nat) (r0:Bool→O R) (d:LA) (f:Nat) (a:Bool) (b:LA) (k4:Bool→Int→Int→O R) (q5:Int→LA→Nat→Bool→Int→Int→Int→LA→O R) (an:Bool) (g y:Int):O R :=
 (cond (decide (y<g)) (cond (Aj y f) (cond (ble 4 ((d.drop ((y.toNat)*4)).length)) (cond ((beq 0 0)&&((beq (((d.drop ((y.toNat)*4)).take 4).length) 4)&&(beq 4 4))) (A6 1 (((d.drop ((y.toNat)*4)).take 4).drop 1) fun u q=>q5 g u q an y (q:Int) 0 ((d.drop ((y.toNat)*4)).take 4)) none) none) none) (r0 an))
def G1 (r0:Bool→O R) (d:LA) (f:Nat) (a:Bool) (b:LA):Nat→Bool→Int→Int→O R
 | 0,_,_,_=>none
 | n+1,an,g,y=>U4 N r0 d f a b (G1 r0 d f a b n) (fun g u q=>Ln N (G1 r0 d f a b n) r0 d f a g u q b N) an g y
def U5 (r0:Bool→O R) (c:Int) (m:LA) (r:Nat) (a:Bool) (b:LA) (k3:Bool→Int→Int→O R) (q4:LA→Nat→Bool→Int→Int→O R) (ao:Bool) (aj z:Int):O R :=
 (cond (decide (z<aj)) (cond (Aj z r) (cond (ble 5 ((m.drop ((z.toNat)*5)).length)) (cond ((beq 0 0)&&((beq (((m.drop ((z.toNat)*5)).take 5).length) 5)&&(beq 5 5))) (cond (ao==true) (Av .i64 (((m.drop ((z.toNat)*5)).take 5).drop 1) fun ba=>Zx N ba c fun bb=>k3 (cond true bb false) aj (wrap .i64 (z+1))) (k3 false aj (wrap .i64 (z+1)))) none) none) none) (A6 4 (b.drop 7) fun d f=>q4 d f ao (f:Int) 0))
def Ir (r0:Bool→O R) (c:Int) (m:LA) (r:Nat) (a:Bool) (b:LA):Nat→Bool→Int→Int→O R
 | 0,_,_,_=>none
 | n+1,ao,aj,z=>U5 N r0 c m r a b (Ir r0 c m r a b n) (fun d f=>G1 N r0 d f a b N) ao aj z
def U6 (r0:Bool→O R) (c:Int) (o:LA) (s:Nat) (a:Bool) (b:LA) (k2:Bool→Int→Int→O R) (q3:LA→Nat→Bool→Int→Int→O R) (ap:Bool) (ak aa:Int):O R :=
 (cond (decide (aa<ak)) (cond (Aj aa s) (cond (ble 9 ((o.drop ((aa.toNat)*9)).length)) (cond ((beq 0 0)&&((beq (((o.drop ((aa.toNat)*9)).take 9).length) 9)&&(beq 9 9))) (cond (ap==true) (Av .i64 (((o.drop ((aa.toNat)*9)).take 9).drop 1) fun bc=>Zx N bc c fun bd=>k2 (cond true bd false) ak (wrap .i64 (aa+1))) (k2 false ak (wrap .i64 (aa+1)))) none) none) none) (A6 5 (b.drop 6) fun m r=>q3 m r ap (r:Int) 0))
def Is (r0:Bool→O R) (c:Int) (o:LA) (s:Nat) (a:Bool) (b:LA):Nat→Bool→Int→Int→O R
 | 0,_,_,_=>none
 | n+1,ap,ak,aa=>U6 N r0 c o s a b (Is r0 c o s a b n) (fun m r=>Ir N r0 c m r a b N) ap ak aa
def U7 (r0:Bool→O R) (c:Int) (j:LA) (t:Nat) (a:Bool) (b:LA) (k1:Bool→Int→Int→O R) (q2:LA→Nat→Bool→Int→Int→O R) (aq:Bool) (ac v:Int):O R :=
 (cond (decide (v<ac)) (cond (Aj v t) (cond (ble 22 ((j.drop ((v.toNat)*22)).length)) (cond ((beq 0 0)&&((beq (((j.drop ((v.toNat)*22)).take 22).length) 22)&&(beq 22 22))) (cond (aq==true) (Av .i64 (((j.drop ((v.toNat)*22)).take 22).drop 1) fun be=>Zx N be c fun bf=>cond ((cond true bf false)==true) (Av .i64 (((j.drop ((v.toNat)*22)).take 22).drop 19) fun bg=>Zx N bg 3 fun bh=>k1 (cond true bh false) ac (wrap .i64 (v+1))) (k1 false ac (wrap .i64 (v+1)))) (k1 false ac (wrap .i64 (v+1)))) none) none) none) (A6 9 (b.drop 5) fun o s=>q2 o s aq (s:Int) 0))
def It (r0:Bool→O R) (c:Int) (j:LA) (t:Nat) (a:Bool) (b:LA):Nat→Bool→Int→Int→O R
 | 0,_,_,_=>none
 | n+1,aq,ac,v=>U7 N r0 c j t a b (It r0 c j t a b n) (fun o s=>Is N r0 c o s a b N) aq ac v
def U8 (r0:Bool→O R) (h:LA) (l:Nat) (a:Bool) (b:LA) (k0:Int→Bool→Int→Int→O R) (q1:Int→LA→Nat→Bool→Int→Int→O R) (c:Int) (ar:Bool) (ad w:Int):O R :=
 (cond (decide (w<ad)) (cond (Aj w l) (cond (ble 12 ((h.drop ((w.toNat)*12)).length)) (cond ((beq 0 0)&&((beq (((h.drop ((w.toNat)*12)).take 12).length) 12)&&(beq 12 12))) (cond (ar==true) (Av .i64 (((h.drop ((w.toNat)*12)).take 12).drop 1) fun bi=>Zx N bi c fun bj=>cond ((cond true bj false)==true) (Av .i64 (((h.drop ((w.toNat)*12)).take 12).drop 2) fun bk=>Zx N bk c fun bl=>k0 c (cond true bl false) ad (wrap .i64 (w+1))) (k0 c false ad (wrap .i64 (w+1)))) (k0 c false ad (wrap .i64 (w+1)))) none) none) none) (A6 22 (b.drop 4) fun j t=>q1 c j t ar (t:Int) 0))
def Lo (r0:Bool→O R) (h:LA) (l:Nat) (a:Bool) (b:LA):Nat→Int→Bool→Int→Int→O R
 | 0,_,_,_,_=>none
 | n+1,c,ar,ad,w=>U8 N r0 h l a b (Lo r0 h l a b n) (fun c j t=>It N r0 c j t a b N) c ar ad w
def HI (N:Nat) (r0:Bool→O R) (q0:LA→Nat→Int→Bool→Int→Int→O R) (b:LA) (a:Bool):O R :=
 (A6 3 (b.drop 2) fun bp bm=>A6 12 (b.drop 3) fun h l=>q0 h l (bm:Int) true (l:Int) 0)
def Yq:=(At fun N b a r0=>HI (R:=R) N r0 (fun h l=>Lo N r0 h l a b N) b a).1
theorem PU (b a r0):(@Yq R N b a r0)=(HI N r0 (fun h l=>Lo N r0 h l a b N) b a):=by rw[Yq,(At _).2]
def UY:Hints:={ H:=(hK 2 (hS (hK 1 (hS (hP [1,3,4,23,24,25] hL) hL)) (hS (hK 1 (hS (hP [1,3,4,44,45,46] hL) hL)) (hS (hK 1 (hS (hP [1,3,4,64,65,66] hL) hL)) (hS (hK 1 (hS (hP [1,3,4,79,80,81] hL) hL)) (hS (hK 1 (hS (hP [1,4,94,95,96] (hK 2 (hS (hS (hK 1 (hS (hK 1 (hS (hP [1,4,14,94,95,96,101,102,103] hL) hL)) (hK 1 (hS (hP [1,4,94,95,96,117,118,119] hL) hL)))) hL) hL))) hL)) hL)))))) }
def aW:EZ:=[vj N]
def Lp (F:KF R):=Tj Tryz.f50 UY (aW N) [] N F
def m8 (d:LA) (f:Nat) (a:Bool) (g:Int) (i:LA) (p:Nat) (b:LA) (K:St→O R):=fun al ae af x=>K ⟨[(1,(op 0)),(4,(.bool al)),(94,(.imm d f 4 false a)),(95,(iv g)),(96,(iv ae)),(117,(.imm i p 3 false a)),(118,(iv af)),(119,(iv x))],(hq [(bP a 0 b)])⟩
def m9 (d:LA) (f:Nat) (a:Bool) (g:Int) (u:LA) (q:Nat) (b:LA) (K:St→O R):=fun am ag ah ab ai=>K ⟨[(1,(op 0)),(4,(.bool am)),(14,(op 1)),(94,(.imm d f 4 false a)),(95,(iv g)),(96,(iv ag)),(101,(.imm u q 1 false a)),(102,(iv ah)),(103,(iv ab))],(hq [(bP a 0 b),(bP a 0 ai)])⟩
def Si (d:LA) (f:Nat) (a:Bool) (b:LA) (K:St→O R):=fun an g y=>K ⟨[(1,(op 0)),(4,(.bool an)),(94,(.imm d f 4 false a)),(95,(iv g)),(96,(iv y))],(hq [(bP a 0 b)])⟩
def m_ (c:Int) (m:LA) (r:Nat) (a:Bool) (b:LA) (K:St→O R):=fun ao aj z=>K ⟨[(1,(op 0)),(3,(iv c)),(4,(.bool ao)),(79,(.imm m r 5 false a)),(80,(iv aj)),(81,(iv z))],(hq [(bP a 0 b)])⟩
def md (c:Int) (o:LA) (s:Nat) (a:Bool) (b:LA) (K:St→O R):=fun ap ak aa=>K ⟨[(1,(op 0)),(3,(iv c)),(4,(.bool ap)),(64,(.imm o s 9 false a)),(65,(iv ak)),(66,(iv aa))],(hq [(bP a 0 b)])⟩
def mf (c:Int) (j:LA) (t:Nat) (a:Bool) (b:LA) (K:St→O R):=fun aq ac v=>K ⟨[(1,(op 0)),(3,(iv c)),(4,(.bool aq)),(44,(.imm j t 22 false a)),(45,(iv ac)),(46,(iv v))],(hq [(bP a 0 b)])⟩
def mg (h:LA) (l:Nat) (a:Bool) (b:LA) (K:St→O R):=fun c ar ad w=>K ⟨[(1,(op 0)),(3,(iv c)),(4,(.bool ar)),(23,(.imm h l 12 false a)),(24,(iv ad)),(25,(iv w))],(hq [(bP a 0 b)])⟩
theorem cY (Q4) (F:KF R) (d f a g i p b):∀ n,m8 d f a g i p b (Ao (Lp N F (pz 91621445716) [Q4]) n)=(O2 N (Si d f a b Q4) (B8 F) d f a g i p b n):=Ev fun n e=>(Ee (U2 N (Si d f a b Q4) (B8 F) d f a g i p b) e:_)
theorem cZ (Q4) (F:KF R) (d f a g u q b):∀ n,m9 d f a g u q b (Ao (Lp N F (pz 91621445700) [Q4]) n)=(Ln N (Si d f a b Q4) (B8 F) d f a g u q b n):=Ev fun n e=>(Sq (U3 N (Si d f a b Q4) (B8 F) d f a g u q b) e (Yo fun i p=>(lW ..).trans (cY ..)):_)
theorem c_ (F:KF R) (d f a b):∀ n,Si d f a b (Ao (Lp N F (pz 349508) []) n)=(G1 N (B8 F) d f a b n):=Ev fun n e=>(Sq (U4 N (B8 F) d f a b) e (ym fun g u q=>(lW ..).trans ((cZ ..).trans (iI (Ln _ · _ _ _ _ _ _ _ _ _) e))):_)
theorem dA (F:KF R) (c m r a b):∀ n,m_ c m r a b (Ao (Lp N F (pz 87364) []) n)=(Ir N (B8 F) c m r a b n):=Ev fun n e=>(Sq (U5 N (B8 F) c m r a b) e (Yo fun d f=>(lW ..).trans (c_ ..)):_)
theorem dB (F:KF R) (c o s a b):∀ n,md c o s a b (Ao (Lp N F (pz 21828) []) n)=(Is N (B8 F) c o s a b n):=Ev fun n e=>(Sq (U6 N (B8 F) c o s a b) e (Yo fun m r=>(lW ..).trans (dA ..)):_)
theorem dC (F:KF R) (c j t a b):∀ n,mf c j t a b (Ao (Lp N F (pz 5444) []) n)=(It N (B8 F) c j t a b n):=Ev fun n e=>(Sq (U7 N (B8 F) c j t a b) e (Yo fun o s=>(lW ..).trans (dB ..)):_)
theorem dD (F:KF R) (h l a b):∀ n,mg h l a b (Ao (Lp N F (pz 1348) []) n)=(Lo N (B8 F) h l a b n):=Ev fun n e=>(Sq (U8 N (B8 F) h l a b) e (ym fun c j t=>(lW ..).trans (dC ..)):_)
def pn:=Jl N 50 (aW N) UY (fun
 | [(.pagg b a)],[]=>some fun _ k=>Yq N b a (B8 k)
 | _,_=>none) fun _ _=>by split;intro R F;exact(Ee (HI N (B8 F) · _ _) (Yo fun h l=>(lW ..).trans (dD ..)):_).trans (PU ..).symm;trivial
def Z7 (r0:Lu→O R) (a:LA) (b:Nat) (d c:Bool) (k1:Nat→Lu→LA→O R) (i:Nat) (h:Lu) (j:LA):O R :=
 (Qt N (j.take (i*1)) i false true [(.int .u32 10)] 1 false true fun l m u q r=>Lm N (r.take (m*1)) m false true fun f v=>cond ((decide (0≤f))&&((decide (f≤(wrap .u64 (f+1))))&&((decide ((wrap .u64 (f+1))≤10))&&(decide ((10:Int)≤(10:Int)))))) (cond (ble ((List.length (take (((wrap .u64 (f+1)).toNat) - (f.toNat)) (drop (f.toNat) ([48,49,50,51,52,53,54,55,56,57]:Lu))))+(h.length)) 140737488355328) (cond ((l:Int)==0) (r0 ((take (((wrap .u64 (f+1)).toNat) - (f.toNat)) (drop (f.toNat) ([48,49,50,51,52,53,54,55,56,57]:Lu)))++h)) (k1 l ((take (((wrap .u64 (f+1)).toNat) - (f.toNat)) (drop (f.toNat) ([48,49,50,51,52,53,54,55,56,57]:Lu)))++h) q)) none) none)
def P1 (r0:Lu→O R) (a:LA) (b:Nat) (d c:Bool):Nat→Nat→Lu→LA→O R
 | 0,_,_,_=>none
 | n+1,i,h,j=>Z7 N r0 a b d c (P1 r0 a b d c n) i h j
def Z8 (r0:Lu→O R) (a:LA) (b:Nat) (d c:Bool) (k0:O R) (k1:Nat→Lu→LA→O R):O R :=
 (Qt N a b false c [(.int .u32 10)] 1 false true fun o p w s t=>Lm N (t.take (p*1)) p false true fun g x=>cond ((decide (0≤g))&&((decide (g≤(wrap .u64 (g+1))))&&((decide ((wrap .u64 (g+1))≤10))&&(decide ((10:Int)≤(10:Int)))))) (cond (ble (List.length (take (((wrap .u64 (g+1)).toNat) - (g.toNat)) (drop (g.toNat) ([48,49,50,51,52,53,54,55,56,57]:Lu)))) 140737488355328) (cond ((o:Int)==0) (r0 ((take (((wrap .u64 (g+1)).toNat) - (g.toNat)) (drop (g.toNat) ([48,49,50,51,52,53,54,55,56,57]:Lu)))++([]:Lu))) (k1 o ((take (((wrap .u64 (g+1)).toNat) - (g.toNat)) (drop (g.toNat) ([48,49,50,51,52,53,54,55,56,57]:Lu)))++([]:Lu)) s)) none) none)
def P2 (r0:Lu→O R) (a:LA) (b:Nat) (d c:Bool):Nat→O R
 | 0=>none
 | n+1=>Z8 N r0 a b d c (P2 r0 a b d c n) (P1 N r0 a b d c n)
def BW (N:Nat) (r0:Lu→O R) (q0:O R) (a:LA) (b:Nat) (d c:Bool):O R :=
 q0
def T3:=(At fun N a b d c r0=>BW (R:=R) N r0 (P2 N r0 a b d c N) a b d c).1
theorem MB (a b d c r0):(@T3 R N a b d c r0)=(BW N r0 (P2 N r0 a b d c N) a b d c):=by rw[T3,(At _).2]
def PV:Hints:={ H:=(hK 2 (hS (hP [0,3] hL) hL)) }
def UZ:EZ:=[m7 N,US N]
def PW (F:KF R):=Tj Tryz.f143 PV (UZ N) [] N F
def jJ (a:LA) (b:Nat) (d c:Bool) (K:St→O R):=fun i h j=>K ⟨[(0,(.own 300000 0 i)),(3,(.str h))],(hq [(bQ 1 j)])⟩
def jK (a:LA) (b:Nat) (d c:Bool) (K:St→O R):=K ⟨[(0,(.imm a b 1 d c)),(3,(.str ([]:Lu)))],[]⟩
theorem XV (F:KF R) (a b d c):∀ n,jJ a b d c (Ao (PW N F (pz 84) []) n)=(P1 N (oT F) a b d c n):=Ev fun n e=>(Ee (Z7 N (oT F) a b d c) e:_)
theorem XW (F:KF R) (a b d c):∀ n,jK a b d c (Ao (PW N F (pz 84) []) n)=(P2 N (oT F) a b d c n):=Ev fun n e=>(Sq (Z8 N (oT F) a b d c) e (XV ..):_)
def mh:=Jl N 143 (UZ N) PV (fun
 | [(.imm a b 1 d c)],[]=>some fun _ k=>T3 N a b d c (oT k)
 | _,_=>none) fun _ _=>by split;intro R F;exact(Ee (BW N (oT F) · _ _ _ _) ((lW ..).trans (XW ..)):_).trans (MB ..).symm;trivial
def Z9 (a:LA) (b:Bool) (r0:Lu→O R):O R :=
 (cond (ble 2 (a.length)) (UP N (a.take 2) b fun c=>cond ((beq (c.length) 2)&&((ble 2 (a.length))&&(!false))) (qS (setCells a 0 c) fun e=>cond e (A6 1 ((setCells a 0 c).drop 1) fun f g=>T3 N f g false (b||false) fun d=>cond (ble (1+(d.length)) 140737488355328) (r0 (([45]:Lu)++d)) none) (A6 1 ((setCells a 0 c).drop 1) fun h i=>T3 N h i false (b||false) fun j=>r0 j)) none) none)
def P3:=(At (@Z9 R)).1
theorem BX:@P3 R=@Z9 R:=(At _).2
def dE:=Jl N 130 [ri N,mh N] O7 (fun
 | [(.pagg a b)],[]=>some fun _ k=>P3 N a b (oT k)
 | _,_=>none) fun _ _=>by split;intro R F;dsimp only;rw[BX];kernel_rfl;trivial
def Ht (k0:Int→Lu→Bool→O R) (r0:Lu→Bool→O R) (b:LA) (a:Nat) (c d:Bool) (f:Lu) (g:Bool) (l:Int) (m:Lu) (o:Bool):O R :=
 (cond (Aj l a) (Av .i64 (b.drop ((l.toNat)*1)) fun q=>V2 N q fun r=>P3 N r false fun p=>cond (ble (1+(p.length)) 140737488355328) (cond (ble ((m.length)+(List.length (([32]:Lu)++p))) 140737488355328) (k0 (wrap .i64 (l+1)) (m++(([32]:Lu)++p)) o) none) none) none)
def Jz (N:Nat) (r0:Lu→Bool→O R) (b:LA) (a:Nat) (c d:Bool) (f:Lu) (g:Bool) (k0:Int→Lu→Bool→O R) (q1:Int→Lu→Bool→O R) (h:Int) (i:Lu) (j:Bool):O R :=
 (cond (decide (h<(a:Int))) (cond (j==false) (cond (Aj h a) (Av .i64 (b.drop ((h.toNat)*1)) fun s=>cond ((cond false true (decide (s<(-1073741824))))==false) (cond (Aj h a) (Av .i64 (b.drop ((h.toNat)*1)) fun t=>q1 h i (cond false true (decide (t>1073741824)))) none) (q1 h i true)) none) (q1 h i true)) (r0 i j))
def Cj (r0:Lu→Bool→O R) (b:LA) (a:Nat) (c d:Bool) (f:Lu) (g:Bool):Nat→Int→Lu→Bool→O R
 | 0,_,_,_=>none
 | n+1,h,i,j=>Jz N r0 b a c d f g (Cj r0 b a c d f g n) (Ht N (Cj r0 b a c d f g n) r0 b a c d f g) h i j
def O3 (N:Nat) (r0:Lu→Bool→O R) (q0:Int→Lu→Bool→O R) (b:LA) (a:Nat) (c d:Bool) (f:Lu) (g:Bool):O R :=
 (q0 0 f g)
def Ai:=(At fun N b a c d f g r0=>O3 (R:=R) N r0 (Cj N r0 b a c d f g N) b a c d f g).1
theorem W3 (b a c d f g r0):(@Ai R N b a c d f g r0)=(O3 N r0 (Cj N r0 b a c d f g N) b a c d f g):=by rw[Ai,(At _).2]
def AA:Hints:={ H:=(hK 1 (hS (hP [0,1,4] (hK 1 (hS (hS (hJ [0,1,4] hL hL) hL) hL))) hL)) }
def BY:EZ:=[iz N,dE N]
def AB (F:KF R):=Tj Tryz.f98 AA (BY N) [100000] N F
def RO (b:LA) (a:Nat) (c d:Bool) (f:Lu) (g:Bool) (K:St→O R):=fun l m o=>K ⟨[(0,(.optr 100000 0)),(1,(.imm b a 1 c d)),(4,(iv l))],[(100000,(bN 0 [(.str m),(.bool o)]))]⟩
def AC (b:LA) (a:Nat) (c d:Bool) (f:Lu) (g:Bool) (K:St→O R):=fun h i j=>K ⟨[(0,(.optr 100000 0)),(1,(.imm b a 1 c d)),(4,(iv h))],[(100000,(bN 0 [(.str i),(.bool j)]))]⟩
theorem JF (Q0) (F:KF R) (b a c d f g):RO b a c d f g (D5 (AB N F (pz 20545) [Q0]))=(Ht N (AC b a c d f g Q0) (Nf F) b a c d f g):=by kernel_rfl
theorem JG (F:KF R) (b a c d f g):∀ n,AC b a c d f g (Ao (AB N F (pz 20) []) n)=(Cj N (Nf F) b a c d f g n):=Ev fun n e=>(Sq (Jz N (Nf F) b a c d f g) e ((jW ..).trans ((JF ..).trans (iI (Ht _ · _ _ _ _ _ _ _) e))):_)
def Iu:=Jl N 98 (BY N) AA (fun
 | [(.optr 100000 0),(.imm b a 1 c d)],[(100000,⟨false,false,false,false,0,[(.str f),(.bool g)],false,none⟩)]=>some fun _ k=>Ai N b a c d f g (Nf k)
 | _,_=>none) fun _ _=>by split;intro R F;exact(Ee (O3 N (Nf F) · _ _ _ _ _ _) ((lW ..).trans (JG ..)):_).trans (W3 ..).symm;trivial
def J3 (N:Nat) (r0:Lu→O R) (c:LA) (b:Nat) (d f a:Bool) (k0:Int→Lu→O R) (h:Int) (i:Lu):O R :=
 (cond (decide (h<(b:Int))) (cond (Aj h b) (Hz (c.drop ((h.toNat)*1)) fun j=>cond (ble (1+(j.length)) 140737488355328) (cond (ble ((i.length)+(List.length (([32]:Lu)++j))) 140737488355328) (k0 (wrap .i64 (h+1)) (i++(([32]:Lu)++j))) none) none) none) (r0 i))
def D8 (r0:Lu→O R) (c:LA) (b:Nat) (d f a:Bool):Nat→Int→Lu→O R
 | 0,_,_=>none
 | n+1,h,i=>J3 N r0 c b d f a (D8 r0 c b d f a n) h i
def O4 (N:Nat) (r0:Lu→O R) (q0:Int→Lu→O R) (c:LA) (b:Nat) (d f:Bool) (g:Lu) (a:Bool):O R :=
 (q0 0 g)
def Am:=(At fun N c b d f g a r0=>O4 (R:=R) N r0 (D8 N r0 c b d f a N) c b d f g a).1
theorem W4 (c b d f g a r0):(@Am R N c b d f g a r0)=(O4 N r0 (D8 N r0 c b d f a N) c b d f g a):=by rw[Am,(At _).2]
def AD:Hints:={ H:=(hK 1 (hS (hP [0,1,4] hL) hL)) }
def RP (F:KF R):=Tj Tryz.f99 AD [] [100000] N F
def Lq (a:Bool) (F:KF R):Lu→O R:=(fun l=>F (.tup []) [(100000,(bN 0 [(.str l),(.bool a)]))])
def RQ (c:LA) (b:Nat) (d f a:Bool) (K:St→O R):=fun h i=>K ⟨[(0,(.optr 100000 0)),(1,(.imm c b 1 d f)),(4,(iv h))],[(100000,(bN 0 [(.str i),(.bool a)]))]⟩
theorem JH (F:KF R) (c b d f a):∀ n,RQ c b d f a (Ao (RP N F (pz 20) []) n)=(D8 N (Lq a F) c b d f a n):=Ev fun n e=>(Ee (J3 N (Lq a F) c b d f a) e:_)
def M5:=Jl N 99 [] AD (fun
 | [(.optr 100000 0),(.imm c b 1 d f)],[(100000,⟨false,false,false,false,0,[(.str g),(.bool a)],false,none⟩)]=>some fun _ k=>Am N c b d f g a (Lq a k)
 | _,_=>none) fun _ _=>by split;rename_i c b d f g a;intro R F;exact(Ee (O4 N (Lq a F) · c b d f g a) ((lW ..).trans (JH ..)):_).trans (W4 ..).symm;trivial
def Gs (k0:Int→Lu→Bool→O R) (r0:Lu→Bool→O R) (b:LA) (a:Nat) (c d:Bool) (f:Lu) (g:Bool) (l:Int) (p:Lu) (q:Bool):O R :=
 (cond (Aj l a) (Av .i64 (b.drop ((l.toNat)*2)) fun r=>Ai N [(.int .i64 r)] 1 false true p q fun h s=>cond (Aj l a) (Av .i64 ((b.drop ((l.toNat)*2)).drop 1) fun t=>Ai N [(.int .i64 t)] 1 false true h s fun i u=>cond (ble ((h.length)+1) 140737488355328) (cond ((decide (0≤(wrap .i64 ((((h.length):Nat):Int)+1))))&&((decide ((wrap .i64 ((((h.length):Nat):Int)+1))≤(((i.length):Nat):Int)))&&((decide ((((i.length):Nat):Int)≤(((i.length):Nat):Int)))&&(decide ((((i.length):Nat):Int)≤(((i.length):Nat):Int)))))) (cond (ble ((List.length (h++([47]:Lu)))+(List.length (take ((i.length) - ((wrap .i64 ((((h.length):Nat):Int)+1)).toNat)) (drop ((wrap .i64 ((((h.length):Nat):Int)+1)).toNat) i)))) 140737488355328) (k0 (wrap .i64 (l+1)) ((h++([47]:Lu))++(take ((i.length) - ((wrap .i64 ((((h.length):Nat):Int)+1)).toNat)) (drop ((wrap .i64 ((((h.length):Nat):Int)+1)).toNat) i))) u) none) none) none) none) none)
def Iv (N:Nat) (r0:Lu→Bool→O R) (b:LA) (a:Nat) (c d:Bool) (f:Lu) (g:Bool) (k0:Int→Lu→Bool→O R) (q1:Int→Lu→Bool→O R) (j:Int) (m:Lu) (o:Bool):O R :=
 (cond (decide (j<(a:Int))) (cond (o==false) (cond (Aj j a) (Av .i64 ((b.drop ((j.toNat)*2)).drop 1) fun v=>q1 j m (cond false true (decide (v<1)))) none) (q1 j m true)) (r0 m o))
def Ca (r0:Lu→Bool→O R) (b:LA) (a:Nat) (c d:Bool) (f:Lu) (g:Bool):Nat→Int→Lu→Bool→O R
 | 0,_,_,_=>none
 | n+1,j,m,o=>Iv N r0 b a c d f g (Ca r0 b a c d f g n) (Gs N (Ca r0 b a c d f g n) r0 b a c d f g) j m o
def M6 (N:Nat) (r0:Lu→Bool→O R) (q0:Int→Lu→Bool→O R) (b:LA) (a:Nat) (c d:Bool) (f:Lu) (g:Bool):O R :=
 (q0 0 f g)
def Cv:=(At fun N b a c d f g r0=>M6 (R:=R) N r0 (Ca N r0 b a c d f g N) b a c d f g).1
theorem V4 (b a c d f g r0):(@Cv R N b a c d f g r0)=(M6 N r0 (Ca N r0 b a c d f g N) b a c d f g):=by rw[Cv,(At _).2]
def W5:Hints:={ H:=(hK 1 (hS (hP [0,1,4] (hK 1 (hS (hS (hJ [0,1,4] hL hL) hL) hL))) hL)) }
def AE:EZ:=[Iu N]
def W6 (F:KF R):=Tj Tryz.f102 W5 (AE N) [100000] N F
def OJ (b:LA) (a:Nat) (c d:Bool) (f:Lu) (g:Bool) (K:St→O R):=fun l p q=>K ⟨[(0,(.optr 100000 0)),(1,(.imm b a 2 c d)),(4,(iv l))],[(100000,(bN 0 [(.str p),(.bool q)]))]⟩
def W7 (b:LA) (a:Nat) (c d:Bool) (f:Lu) (g:Bool) (K:St→O R):=fun j m o=>K ⟨[(0,(.optr 100000 0)),(1,(.imm b a 2 c d)),(4,(iv j))],[(100000,(bN 0 [(.str m),(.bool o)]))]⟩
theorem HJ (Q0) (F:KF R) (b a c d f g):OJ b a c d f g (D5 (W6 N F (pz 20545) [Q0]))=(Gs N (W7 b a c d f g Q0) (Nf F) b a c d f g):=by kernel_rfl
theorem HK (F:KF R) (b a c d f g):∀ n,W7 b a c d f g (Ao (W6 N F (pz 20) []) n)=(Ca N (Nf F) b a c d f g n):=Ev fun n e=>(Sq (Iv N (Nf F) b a c d f g) e ((jW ..).trans ((HJ ..).trans (iI (Gs _ · _ _ _ _ _ _ _) e))):_)
def AF:=Jl N 102 (AE N) W5 (fun
 | [(.optr 100000 0),(.imm b a 2 c d)],[(100000,⟨false,false,false,false,0,[(.str f),(.bool g)],false,none⟩)]=>some fun _ k=>Cv N b a c d f g (Nf k)
 | _,_=>none) fun _ _=>by split;intro R F;exact(Ee (M6 N (Nf F) · _ _ _ _ _ _) ((lW ..).trans (HK ..)):_).trans (V4 ..).symm;trivial
def Sj (c:LA) (f:Bool) (a:LA) (b:Bool) (d:Lu) (e:Bool) (r0:Lu→Bool→O R):O R :=
 (cond (ble ((d.length)+4) 140737488355328) (Hz a fun n=>A6 3 (c.drop 2) fun o p=>Av .i64 (a.drop 1) fun g=>cond (Aj g p) (Hz (o.drop ((g.toNat)*3)) fun q=>A6 3 (c.drop 2) fun r s=>Av .i64 (a.drop 2) fun h=>cond (Aj h s) (Hz (r.drop ((h.toNat)*3)) fun t=>Am N [(.str n),(.str q),(.str t),(.str ([120]:Lu))] 4 false true (d++([108,105,110,101]:Lu)) e fun u=>cond (ble 2 ((a.drop 3).length)) (cond ((!b)||(Ax ((a.drop 3).take 2))) (cond ((beq (((a.drop 3).take 2).length) 2)&&(ble 2 2)) (Cv N ((setCells [(.int .i64 0),(.int .i64 0)] 0 ((a.drop 3).take 2)).take 2) 1 false true u e fun v i=>Am N [(.str ([115,104,105,102,116]:Lu))] 1 false true v i fun w=>cond (ble 2 ((a.drop 5).length)) (cond ((!b)||(Ax ((a.drop 5).take 2))) (cond (ble 2 ((a.drop 7).length)) (cond ((!b)||(Ax ((a.drop 7).take 2))) (cond ((beq (((a.drop 5).take 2).length) 2)&&(ble 2 4)) (cond ((beq (((a.drop 7).take 2).length) 2)&&(ble 4 ((setCells [(.int .i64 0),(.int .i64 0),(.int .i64 0),(.int .i64 0)] 0 ((a.drop 5).take 2)).length))) (Cv N ((setCells (setCells [(.int .i64 0),(.int .i64 0),(.int .i64 0),(.int .i64 0)] 0 ((a.drop 5).take 2)) 2 ((a.drop 7).take 2)).take 4) 2 false true w i fun x j=>Am N [(.str ([108,105,109,105,116]:Lu))] 1 false true x j fun y=>Av .i64 (a.drop 9) fun z=>Av .i64 (a.drop 10) fun aa=>Ai N [(.int .i64 z),(.int .i64 aa)] 2 false true y j fun ab l=>Am N [(.str ([97,119,97,121]:Lu))] 1 false true ab l fun ac=>A6 1 (a.drop 11) fun ad ae=>Ai N ad ae false b ac l fun m af=>cond (ble ((m.length)+1) 140737488355328) (r0 (m++([10]:Lu)) af) none) none) none) none) none) none) none) none) none) none) none) none) none)
def O5:=(At (@Sj R)).1
theorem V5:@O5 R=@Sj R:=(At _).2
def RR:=Jl N 100 [M5 N,AF N,Iu N] O7 (fun
 | [(.optr 100000 0),(.pagg c f),(.pagg a b)],[(100000,⟨false,false,false,false,0,[(.str d),(.bool e)],false,none⟩)]=>some fun _ k=>O5 N c f a b d e (Nf k)
 | _,_=>none) fun _ _=>by split;intro R F;dsimp only;rw[V5];kernel_rfl;trivial
def Iw (r0:Lu→Bool→O R) (b:Bool) (a:LA) (k0:Int→Lu→Bool→O R) (c:Int) (j:Lu) (h:Bool):O R :=
 (A6 2 (a.drop 4) fun cg z=>cond (decide (c<(z:Int))) (A6 2 (a.drop 4) fun aa ab=>cond (Aj c ab) (Av .i64 (aa.drop ((c.toNat)*2)) fun ac=>A6 2 (a.drop 4) fun ad ae=>cond (Aj c ae) (Av .i64 ((ad.drop ((c.toNat)*2)).drop 1) fun af=>Ai N [(.int .i64 ac),(.int .i64 af)] 2 false true j h fun ag ah=>k0 (wrap .i64 (c+1)) ag ah) none) none) (Am N [(.str ([110,111,108,111,97,100]:Lu))] 1 false true j h fun ai=>Av .i64 (a.drop 5) fun aj=>Ai N [(.int .i64 aj)] 1 false true ai h fun ak l=>Am N [(.str ([114,97,109,112]:Lu))] 1 false true ak l fun al=>Av .i64 (a.drop 6) fun am=>Av .i64 (a.drop 7) fun an=>Ai N [(.int .i64 am),(.int .i64 an)] 2 false true al l fun ao m=>Am N [(.str ([115,116,97,114,116]:Lu))] 1 false true ao m fun ap=>Av .i64 (a.drop 8) fun aq=>Ai N [(.int .i64 aq)] 1 false true ap m fun ar o=>Am N [(.str ([115,116,111,112]:Lu))] 1 false true ar o fun au=>Av .i64 (a.drop 9) fun av=>Ai N [(.int .i64 av)] 1 false true au o fun aw p=>Am N [(.str ([116,105,109,101,115]:Lu))] 1 false true aw p fun ax=>Av .i64 (a.drop 10) fun ay=>Av .i64 (a.drop 11) fun az=>Av .i64 (a.drop 12) fun ba=>Ai N [(.int .i64 ay),(.int .i64 az),(.int .i64 ba)] 3 false true ax p fun bb q=>Am N [(.str ([99,111,115,116]:Lu))] 1 false true bb q fun bc=>Av .i64 (a.drop 13) fun bd=>Av .i64 (a.drop 14) fun be=>Av .i64 (a.drop 15) fun bf=>Ai N [(.int .i64 bd),(.int .i64 be),(.int .i64 bf)] 3 false true bc q fun bg r=>Am N [(.str ([114,101,115,101,114,118,101]:Lu))] 1 false true bg r fun bh=>Av .i64 (a.drop 16) fun bi=>Av .i64 (a.drop 17) fun bj=>Ai N [(.int .i64 bi),(.int .i64 bj)] 2 false true bh r fun bk s=>Am N [(.str ([97,119,97,121]:Lu))] 1 false true bk s fun bl=>A6 1 (a.drop 18) fun bm bn=>Ai N bm bn false b bl s fun bo t=>Av .i64 (a.drop 19) fun u=>cond (Aj u 3) (Hz (drop (0+((u.toNat)*1)) [(.str ([111,102,102]:Lu)),(.str ([115,116,97,114,116,105,110,103]:Lu)),(.str ([111,110]:Lu))]) fun bp=>Am N [(.str ([115,116,97,116,101]:Lu)),(.str bp)] 2 false true bo t fun bq=>Av .i64 (a.drop 20) fun br=>Av .i64 (a.drop 21) fun bs=>Ai N [(.int .i64 br),(.int .i64 bs)] 2 false true bq t fun v bt=>cond (ble ((v.length)+1) 140737488355328) (r0 (v++([10]:Lu)) bt) none) none))
def Cy (r0:Lu→Bool→O R) (b:Bool) (a:LA):Nat→Int→Lu→Bool→O R
 | 0,_,_,_=>none
 | n+1,c,j,h=>Iw N r0 b a (Cy r0 b a n) c j h
def M7 (r0:Lu→Bool→O R) (q0:Int→Lu→Bool→O R) (g:LA) (i:Bool) (a:LA) (b:Bool) (d:Lu) (f:Bool):O R :=
 (cond (ble ((d.length)+4) 140737488355328) (Hz a fun bu=>A6 3 (g.drop 2) fun bv bw=>Av .i64 (a.drop 1) fun w=>cond (Aj w bw) (Hz (bv.drop ((w.toNat)*3)) fun bx=>Am N [(.str bu),(.str bx),(.str ([109,105,110]:Lu))] 3 false true (d++([117,110,105,116]:Lu)) f fun bz=>Av .i64 (a.drop 2) fun ca=>Ai N [(.int .i64 ca)] 1 false true bz f fun cb x=>Am N [(.str ([109,97,120]:Lu))] 1 false true cb x fun cc=>Av .i64 (a.drop 3) fun cd=>Ai N [(.int .i64 cd)] 1 false true cc x fun ce y=>Am N [(.str ([115,101,103,109,101,110,116,115]:Lu))] 1 false true ce y fun cf=>q0 0 cf y) none) none)
def Ke:=(At fun N g i a b d f r0=>M7 (R:=R) N r0 (Cy N r0 b a N) g i a b d f).1
theorem V6 (g i a b d f r0):(@Ke R N g i a b d f r0)=(M7 N r0 (Cy N r0 b a N) g i a b d f):=by rw[Ke,(At _).2]
def W8:Hints:={ H:=(hK 7 (hS (hK 1 (hS (hP [0,5,6] hL) hL)) hL)) }
def AG:EZ:=[M5 N,Iu N]
def OK (F:KF R):=Tj Tryz.f101 W8 (AG N) [100000] N F
def OL (b:Bool) (a:LA) (K:St→O R):=fun c j h=>K ⟨[(0,(.optr 100000 0)),(5,(op 0)),(6,(iv c))],[(100000,(bN 0 [(.str j),(.bool h)])),(300000,(bP b 0 a))]⟩
theorem HL (F:KF R) (b a):∀ n,OL b a (Ao (OK N F (pz 1398084) []) n)=(Cy N (Nf F) b a n):=Ev fun n e=>(Ee (Iw N (Nf F) b a) e:_)
def RS:=Jl N 101 (AG N) W8 (fun
 | [(.optr 100000 0),(.pagg g i),(.pagg a b)],[(100000,⟨false,false,false,false,0,[(.str d),(.bool f)],false,none⟩)]=>some fun _ k=>Ke N g i a b d f (Nf k)
 | _,_=>none) fun _ _=>by split;intro R F;exact(Ee (M7 N (Nf F) · _ _ _ _ _ _) ((lW ..).trans (HL ..)):_).trans (V6 ..).symm;trivial
end
end Gx
namespace Gx.Ct
open Go Go.Proofs Gx.Cf
section
variable {R:Type} {N:Nat} {c:CaseD} {b:Bool} {K:Bool→O R}
theorem U_ {o:OutD} {k4:Bool→Int→Int→O R} {C:LA} {D:Nat} {f ac:Int} (k:o.moves.l.length≤1000000000):∀ (m j fuel:Nat) (ok:Bool),j+m=o.moves.l.length→m<fuel →
  O2 N k4 K C D b f (o.moves.l.flatMap MoveD.av) o.moves.l.length c.av fuel ok ac (o.moves.l.length:Int) (j:Int)=k4 (ok&&(o.moves.l.drop j).all fun m=>Dg m.unit c.units.l.length) f (wrap .i64 (ac+1))
 | 0,j,fuel+1,ok,n,_=>by
  rw[O2];unfold U2
  rw[F9 (by omega),cf,A5 (by omega),Aeu,Afd]
 | m+1,j,fuel+1,ok,n,q=>by
  rw[O2];unfold U2
  have h:j<o.moves.l.length:=by omega
  have e:take 3 (drop (Int.toNat (j:Int)*3) (o.moves.l.flatMap MoveD.av))=[.int .i64 (o.moves.l[j]).unit,.int .i64 (o.moves.l[j]).up,.int .i64 (o.moves.l[j]).down]:=Br (e:=MoveD.av) (sz:=3) (fun _=>rfl) h
  rw[Fn h,ct,Ab h,ct,Cq (e:=MoveD.av) (sz:=3) (fun _=>rfl) h,ct,e,show(!b||Ax [AV.int .i64 (o.moves.l[j]).unit,.int .i64 (o.moves.l[j]).up,.int .i64 (o.moves.l[j]).down])=true by cases b<;>rfl,ct,Oy (by omega),A3 h,
   show((beq ([AV.int .i64 (o.moves.l[j]).unit,.int .i64 (o.moves.l[j]).up,.int .i64 (o.moves.l[j]).down].length) 3)&&((ble 3 3)&&(!false)))=true from rfl,ct,Aek]
  have d:=fun ok=>U_ (k4:=k4) (C:=C) (D:=D) (f:=f) (ac:=ac) k m (j+1) fuel ok (by omega) (by omega)
  cases ok with
  | false=>exact(d false).trans rfl
  | true =>
   rw[show((true:Bool)==true)=true from rfl,ct,show ∀ F:Int→O R,Av .i64 (setCells [(.int .i64 0),(.int .i64 0),(.int .i64 0)] 0 [AV.int .i64 (o.moves.l[j]).unit,.int .i64 (o.moves.l[j]).up,.int .i64 (o.moves.l[j]).down]) F=F (o.moves.l[j]).unit from fun _=>rfl,Dd,V1]
   exact d (Dg (o.moves.l[j]).unit c.units.l.length)
theorem gk {o:OutD} {k4:Bool→Int→Int→O R} {C:LA} {D:Nat} {f ac:Int} (hN:1000000000<N) (d:o.moves.l.length≤1000000000) (k:o.lines.l.length≤1000000000):∀ (m j fuel:Nat) (ok:Bool),j+m=o.lines.l.length→m<fuel →
  Ln N k4 K C D b f (Az o.lines.l) o.lines.l.length c.av fuel ok ac (o.lines.l.length:Int) (j:Int) o.av=k4 (ok&&((o.lines.l.drop j).all (fun l=>Dg l c.lines.l.length)&&o.moves.l.all fun m=>Dg m.unit c.units.l.length)) f (wrap .i64 (ac+1))
 | 0,j,fuel+1,ok,n,_=>by
  rw[Ln];unfold U3
  rw[F9 (by omega),cf,show o.lines.l.drop j=[] from A5 (by omega),Aeu]
  show A6 3 (o.moves.av 3 MoveD.av::_) _=_
  rw[Bn]
  refine(U_ d o.moves.l.length 0 N ok (by omega) (by omega)).trans ?_
  rw[Aeg,Aex]
 | m+1,j,fuel+1,ok,n,q=>by
  rw[Ln];unfold U3
  have h:j<o.lines.l.length:=by omega
  have e:=fun ok=>gk (k4:=k4) (C:=C) (D:=D) (f:=f) (ac:=ac) hN d k m (j+1) fuel ok (by omega) (by omega)
  rw[Fn h,ct,Ab h,ct,Zg h,Oy (by omega),A3 h,Aek]
  cases ok with
  | false=>exact(e false).trans rfl
  | true =>
   rw[show((true:Bool)==true)=true from rfl,ct,C1,V1]
   refine(e (Dg o.lines.l[j] c.lines.l.length)).trans ?_
   rw[Aex,Aey]
theorem aX (hN:1000000000<N) (f:c.outs.l.length≤1000) (hI:∀ o ∈ c.outs.l,OutI o):∀ (m j fuel:Nat) (ok:Bool),j+m=c.outs.l.length→m<fuel →
  G1 N K (c.outs.l.flatMap OutD.av) c.outs.l.length b c.av fuel ok (c.outs.l.length:Int) (j:Int)=K (ok&&(c.outs.l.drop j).all (Re c))
 | 0,j,fuel+1,ok,k,_=>by
  rw[G1];unfold U4
  rw[F9 (by omega),cf,A5 (by omega),Aeu,Afd]
 | m+1,j,fuel+1,ok,k,n=>by
  rw[G1];unfold U4
  have h:j<c.outs.l.length:=by omega
  have d:=hI _ (Ad9 h)
  rw[Fn h,ct,Ab h,ct,Cq (e:=OutD.av) (sz:=4) (fun _=>rfl) h,ct,Br (e:=OutD.av) (sz:=4) (fun _=>rfl) h,show((beq 0 0)&&((beq ((OutD.av c.outs.l[j]).length) 4)&&(beq 4 4)))=true from rfl,ct]
  show A6 1 ((c.outs.l[j]).lines.av 1 Fh::_) _=_
  rw[Bn,A4]
  refine(gk hN d.m.2 d.l (c.outs.l[j]).lines.l.length 0 N ok (by omega) (by have:=d.l;omega)).trans ?_
  rw[Oy (by omega),Aeg]
  refine(aX hN f hI m (j+1) fuel _ (by omega) (by omega)).trans ?_
  rw[A3 h,Aek]
  unfold Re
  simp only[Aey]
theorem aY (hN:1000000000<N) (f:c.ties.l.length≤1000) (hr:∀ (ok:Bool) (fuel:Nat),1000<fuel→G1 N K (c.outs.l.flatMap OutD.av) c.outs.l.length b c.av fuel ok (c.outs.l.length:Int) 0=K (ok&&c.outs.l.all (Re c))):∀ (m j fuel:Nat) (ok:Bool),j+m=c.ties.l.length→m<fuel →
  Ir N K (c.buses.l.length:Int) (c.ties.l.flatMap TieD.av) c.ties.l.length b c.av fuel ok (c.ties.l.length:Int) (j:Int)=K (ok&&((c.ties.l.drop j).all (fun t=>Dg t.bus c.buses.l.length)&&c.outs.l.all (Re c)))
 | 0,j,fuel+1,ok,k,_=>by
  rw[Ir];unfold U5
  rw[F9 (by omega),cf,show c.ties.l.drop j=[] from A5 (by omega),Aeu,Fb,Aex]
  exact hr ok N (by omega)
 | m+1,j,fuel+1,ok,k,n=>by
  rw[Ir];unfold U5
  have h:j<c.ties.l.length:=by omega
  have d:=fun ok=>aY hN f hr m (j+1) fuel ok (by omega) (by omega)
  rw[Fn h,ct,Ab h,ct,Cq (e:=TieD.av) (sz:=5) (fun _=>rfl) h,ct,Br (e:=TieD.av) (sz:=5) (fun _=>rfl) h,show((beq 0 0)&&((beq ((TieD.av c.ties.l[j]).length) 5)&&(beq 5 5)))=true from rfl,ct,Oy (by omega),A3 h,Aek]
  cases ok with
  | false=>exact(d false).trans rfl
  | true =>
   rw[show((true:Bool)==true)=true from rfl,ct]
   rw[show ∀ F:Int→O R,Av .i64 (drop 1 (c.ties.l[j]).av) F=F (c.ties.l[j]).bus from fun _=>rfl,V1]
   refine(d (Dg (c.ties.l[j]).bus c.buses.l.length)).trans ?_
   rw[Aex,Aey]
theorem PX (hN:1000000000<N) (f:c.stores.l.length≤1000) (hr:∀ (ok:Bool) (fuel:Nat),1000<fuel→Ir N K (c.buses.l.length:Int) (c.ties.l.flatMap TieD.av) c.ties.l.length b c.av fuel ok (c.ties.l.length:Int) 0=K (ok&&(c.ties.l.all (fun t=>Dg t.bus c.buses.l.length)&&c.outs.l.all (Re c)))):∀ (m j fuel:Nat) (ok:Bool),j+m=c.stores.l.length→m<fuel →
  Is N K (c.buses.l.length:Int) (c.stores.l.flatMap StoreD.av) c.stores.l.length b c.av fuel ok (c.stores.l.length:Int) (j:Int)=K (ok&&((c.stores.l.drop j).all (fun s=>Dg s.bus c.buses.l.length)&&(c.ties.l.all (fun t=>Dg t.bus c.buses.l.length)&&c.outs.l.all (Re c))))
 | 0,j,fuel+1,ok,k,_=>by
  rw[Is];unfold U6
  rw[F9 (by omega),cf,show c.stores.l.drop j=[] from A5 (by omega),Aeu,Gy,Aex]
  exact hr ok N (by omega)
 | m+1,j,fuel+1,ok,k,n=>by
  rw[Is];unfold U6
  have h:j<c.stores.l.length:=by omega
  have d:=fun ok=>PX hN f hr m (j+1) fuel ok (by omega) (by omega)
  rw[Fn h,ct,Ab h,ct,Cq (e:=StoreD.av) (sz:=9) (fun _=>rfl) h,ct,Br (e:=StoreD.av) (sz:=9) (fun _=>rfl) h,show((beq 0 0)&&((beq ((StoreD.av c.stores.l[j]).length) 9)&&(beq 9 9)))=true from rfl,ct,Oy (by omega),A3 h,Aek]
  cases ok with
  | false=>exact(d false).trans rfl
  | true =>
   rw[show((true:Bool)==true)=true from rfl,ct]
   rw[show ∀ F:Int→O R,Av .i64 (drop 1 (c.stores.l[j]).av) F=F (c.stores.l[j]).bus from fun _=>rfl,V1]
   refine(d (Dg (c.stores.l[j]).bus c.buses.l.length)).trans ?_
   rw[Aex,Aey]
theorem U' (hN:1000000000<N) (f:c.units.l.length≤1000) (hr:∀ (ok:Bool) (fuel:Nat),1000<fuel→Is N K (c.buses.l.length:Int) (c.stores.l.flatMap StoreD.av) c.stores.l.length b c.av fuel ok (c.stores.l.length:Int) 0=K (ok&&(c.stores.l.all (fun s=>Dg s.bus c.buses.l.length)&&(c.ties.l.all (fun t=>Dg t.bus c.buses.l.length)&&c.outs.l.all (Re c))))):∀ (m j fuel:Nat) (ok:Bool),j+m=c.units.l.length→m<fuel →
  It N K (c.buses.l.length:Int) (c.units.l.flatMap UnitD.av) c.units.l.length b c.av fuel ok (c.units.l.length:Int) (j:Int)=K (ok&&((c.units.l.drop j).all (fun u=>Dg u.bus c.buses.l.length&&Dg u.state 3)&&(c.stores.l.all (fun s=>Dg s.bus c.buses.l.length)&&(c.ties.l.all (fun t=>Dg t.bus c.buses.l.length)&&c.outs.l.all (Re c)))))
 | 0,j,fuel+1,ok,k,_=>by
  rw[It];unfold U7
  rw[F9 (by omega),cf,show c.units.l.drop j=[] from A5 (by omega),Aeu,Eb,Aex]
  exact hr ok N (by omega)
 | m+1,j,fuel+1,ok,k,n=>by
  rw[It];unfold U7
  have h:j<c.units.l.length:=by omega
  have d:=fun ok=>U' hN f hr m (j+1) fuel ok (by omega) (by omega)
  rw[Fn h,ct,Ab h,ct,Cq (e:=UnitD.av) (sz:=22) (fun _=>rfl) h,ct,Br (e:=UnitD.av) (sz:=22) (fun _=>rfl) h,show((beq 0 0)&&((beq ((UnitD.av c.units.l[j]).length) 22)&&(beq 22 22)))=true from rfl,ct,Oy (by omega),A3 h,Aek]
  cases ok with
  | false=>exact(d false).trans rfl
  | true =>
   rw[show((true:Bool)==true)=true from rfl,ct]
   rw[show ∀ F:Int→O R,Av .i64 (drop 1 (c.units.l[j]).av) F=F (c.units.l[j]).bus from fun _=>rfl,V1]
   show cond (Dg (c.units.l[j]).bus c.buses.l.length==true) _ _=_
   cases Dg (c.units.l[j]).bus c.buses.l.length with
   | false=>exact(d false).trans rfl
   | true =>
    rw[show((true:Bool)==true)=true from rfl,ct,show ∀ F:Int→O R,Av .i64 (drop 19 (c.units.l[j]).av) F=F (c.units.l[j]).state from fun _=>rfl,show(3:Int)=((3:Nat):Int) from rfl,V1]
    refine(d (Dg (c.units.l[j]).state 3)).trans ?_
    rw[Aex,Aex,Aey]
theorem VA (hN:1000000000<N) (f:c.lines.l.length≤1000) (hr:∀ (ok:Bool) (fuel:Nat),1000<fuel→It N K (c.buses.l.length:Int) (c.units.l.flatMap UnitD.av) c.units.l.length b c.av fuel ok (c.units.l.length:Int) 0=K (ok&&(c.units.l.all (fun u=>Dg u.bus c.buses.l.length&&Dg u.state 3)&&(c.stores.l.all (fun s=>Dg s.bus c.buses.l.length)&&(c.ties.l.all (fun t=>Dg t.bus c.buses.l.length)&&c.outs.l.all (Re c)))))):∀ (m j fuel:Nat) (ok:Bool),j+m=c.lines.l.length→m<fuel →
  Lo N K (c.lines.l.flatMap LineD.av) c.lines.l.length b c.av fuel (c.buses.l.length:Int) ok (c.lines.l.length:Int) (j:Int)=K (ok&&((c.lines.l.drop j).all (fun l=>Dg l.fr c.buses.l.length&&Dg l.tl c.buses.l.length)&&(c.units.l.all (fun u=>Dg u.bus c.buses.l.length&&Dg u.state 3)&&(c.stores.l.all (fun s=>Dg s.bus c.buses.l.length)&&(c.ties.l.all (fun t=>Dg t.bus c.buses.l.length)&&c.outs.l.all (Re c))))))
 | 0,j,fuel+1,ok,k,_=>by
  rw[Lo];unfold U8
  rw[F9 (by omega),cf,show c.lines.l.drop j=[] from A5 (by omega),Aeu,Dd,Aex]
  exact hr ok N (by omega)
 | m+1,j,fuel+1,ok,k,n=>by
  rw[Lo];unfold U8
  have h:j<c.lines.l.length:=by omega
  have d:=fun ok=>VA hN f hr m (j+1) fuel ok (by omega) (by omega)
  rw[Fn h,ct,Ab h,ct,Cq (e:=LineD.av) (sz:=12) (fun _=>rfl) h,ct,Br (e:=LineD.av) (sz:=12) (fun _=>rfl) h,show((beq 0 0)&&((beq ((LineD.av c.lines.l[j]).length) 12)&&(beq 12 12)))=true from rfl,ct,Oy (by omega),A3 h,Aek]
  cases ok with
  | false=>exact(d false).trans rfl
  | true =>
   rw[show((true:Bool)==true)=true from rfl,ct]
   rw[show ∀ F:Int→O R,Av .i64 (drop 1 (c.lines.l[j]).av) F=F (c.lines.l[j]).fr from fun _=>rfl,V1]
   show cond (Dg (c.lines.l[j]).fr c.buses.l.length==true) _ _=_
   cases Dg (c.lines.l[j]).fr c.buses.l.length with
   | false=>exact(d false).trans rfl
   | true =>
    rw[show((true:Bool)==true)=true from rfl,ct,show ∀ F:Int→O R,Av .i64 (drop 2 (c.lines.l[j]).av) F=F (c.lines.l[j]).tl from fun _=>rfl,V1]
    refine(d (Dg (c.lines.l[j]).tl c.buses.l.length)).trans ?_
    rw[Aex,Aex,Aey]
theorem po (hN:1000000000<N) (d:Ff c=true) (hI:∀ o ∈ c.outs.l,OutI o):Yq N c.av b K=K (Mn c):=by
 unfold Ff at d
 simp only[Ad3,decide_eq_true_eq] at d
 obtain⟨c1,n,q,v,x,y⟩:=d
 rw[PU];unfold HI
 rw[Bi,C1]
 have f:∀ (ok:Bool) (fuel:Nat),1000<fuel→G1 N K (c.outs.l.flatMap OutD.av) c.outs.l.length b c.av fuel ok (c.outs.l.length:Int) 0=K (ok&&c.outs.l.all (Re c)):=fun ok fuel e=>aX hN (by omega) hI c.outs.l.length 0 fuel ok (by omega) (by omega)
 have j:∀ (ok:Bool) (fuel:Nat),1000<fuel→Ir N K (c.buses.l.length:Int) (c.ties.l.flatMap TieD.av) c.ties.l.length b c.av fuel ok (c.ties.l.length:Int) 0=K (ok&&(c.ties.l.all (fun t=>Dg t.bus c.buses.l.length)&&c.outs.l.all (Re c))):=fun ok fuel e=>aY hN (by omega) f c.ties.l.length 0 fuel ok (by omega) (by omega)
 have k:∀ (ok:Bool) (fuel:Nat),1000<fuel→Is N K (c.buses.l.length:Int) (c.stores.l.flatMap StoreD.av) c.stores.l.length b c.av fuel ok (c.stores.l.length:Int) 0=K (ok&&(c.stores.l.all (fun s=>Dg s.bus c.buses.l.length)&&(c.ties.l.all (fun t=>Dg t.bus c.buses.l.length)&&c.outs.l.all (Re c)))):=fun ok fuel e=>PX hN (by omega) j c.stores.l.length 0 fuel ok (by omega) (by omega)
 have m:∀ (ok:Bool) (fuel:Nat),1000<fuel→It N K (c.buses.l.length:Int) (c.units.l.flatMap UnitD.av) c.units.l.length b c.av fuel ok (c.units.l.length:Int) 0=K (ok&&(c.units.l.all (fun u=>Dg u.bus c.buses.l.length&&Dg u.state 3)&&(c.stores.l.all (fun s=>Dg s.bus c.buses.l.length)&&(c.ties.l.all (fun t=>Dg t.bus c.buses.l.length)&&c.outs.l.all (Re c))))):=fun ok fuel e=>U' hN (by omega) k c.units.l.length 0 fuel ok (by omega) (by omega)
 exact VA hN (by omega) m c.lines.l.length 0 N true (by omega) (by omega)
end
end Gx.Ct
namespace Gx.Ct
open Go Go.Proofs Gx.Cf
section
variable {R:Type} {N:Nat} {c:CaseD} {b:Bool} {K:Nat→LA→O R}
theorem BD (f:c.buses.l.length≤1000000000):∀ (m j fuel:Nat) (A:List A0),j+m=c.buses.l.length→m<fuel→A.length=j →
  Fz N K b c.av fuel A.length (j:Int) (Au A)=K (A++(c.buses.l.drop j).map BusD.name).length (Au (A++(c.buses.l.drop j).map BusD.name))
 | 0,j,fuel+1,A,k,_,hA=>by
  rw[Fz];unfold Mb
  rw[Bi,F9 (by omega),cf,show c.buses.l.drop j=[] from A5 (by omega),Aem,Aej]
 | m+1,j,fuel+1,A,k,n,hA=>by
  rw[Fz];unfold Mb
  have h:j<c.buses.l.length:=by omega
  rw[Bi,Fn h,ct,Bi,Ab h,ct,Ad2,Be (e:=BusD.av) (sz:=3) (fun _=>rfl) _ _ h,show ∀ F:A0→O R,Hz (BusD.av c.buses.l[j]++(c.buses.l.drop (j+1)).flatMap BusD.av) F=F (c.buses.l[j]).name from fun _=>rfl,Wl (by omega),ct,Oy (by omega),Ds,Ia,A3 h,Ad5]
  have d:=BD f m (j+1) fuel (A++[(c.buses.l[j]).name]) (by omega) (by omega) (by simp[hA])
  rw[Adw,Aer] at d
  refine d.trans ?_
  rw[Aea];rfl
theorem Vn (f:c.lines.l.length≤1000000000):∀ (m j fuel:Nat) (A:List A0),j+m=c.lines.l.length→m<fuel→A.length=j →
  F0 N K b c.av fuel A.length (j:Int) (Au A)=K (A++(c.lines.l.drop j).map LineD.name).length (Au (A++(c.lines.l.drop j).map LineD.name))
 | 0,j,fuel+1,A,k,_,hA=>by
  rw[F0];unfold Mc
  rw[C1,F9 (by omega),cf,show c.lines.l.drop j=[] from A5 (by omega),Aem,Aej]
 | m+1,j,fuel+1,A,k,n,hA=>by
  rw[F0];unfold Mc
  have h:j<c.lines.l.length:=by omega
  rw[C1,Fn h,ct,C1,Ab h,ct,Ad2,Be (e:=LineD.av) (sz:=12) (fun _=>rfl) _ _ h,show ∀ F:A0→O R,Hz (LineD.av c.lines.l[j]++(c.lines.l.drop (j+1)).flatMap LineD.av) F=F (c.lines.l[j]).name from fun _=>rfl,Wl (by omega),ct,Oy (by omega),Ds,Ia,A3 h,Ad5]
  have d:=Vn f m (j+1) fuel (A++[(c.lines.l[j]).name]) (by omega) (by omega) (by simp[hA])
  rw[Adw,Aer] at d
  refine d.trans ?_
  rw[Aea];rfl
theorem Vo (f:c.units.l.length≤1000000000):∀ (m j fuel:Nat) (A:List A0),j+m=c.units.l.length→m<fuel→A.length=j →
  F1 N K b c.av fuel A.length (j:Int) (Au A)=K (A++(c.units.l.drop j).map UnitD.name).length (Au (A++(c.units.l.drop j).map UnitD.name))
 | 0,j,fuel+1,A,k,_,hA=>by
  rw[F1];unfold Md
  rw[Dd,F9 (by omega),cf,show c.units.l.drop j=[] from A5 (by omega),Aem,Aej]
 | m+1,j,fuel+1,A,k,n,hA=>by
  rw[F1];unfold Md
  have h:j<c.units.l.length:=by omega
  rw[Dd,Fn h,ct,Dd,Ab h,ct,Ad2,Be (e:=UnitD.av) (sz:=22) (fun _=>rfl) _ _ h,show ∀ F:A0→O R,Hz (UnitD.av c.units.l[j]++(c.units.l.drop (j+1)).flatMap UnitD.av) F=F (c.units.l[j]).name from fun _=>rfl,Wl (by omega),ct,Oy (by omega),Ds,Ia,A3 h,Ad5]
  have d:=Vo f m (j+1) fuel (A++[(c.units.l[j]).name]) (by omega) (by omega) (by simp[hA])
  rw[Adw,Aer] at d
  refine d.trans ?_
  rw[Aea];rfl
theorem R3 (f:c.stores.l.length≤1000000000):∀ (m j fuel:Nat) (A:List A0),j+m=c.stores.l.length→m<fuel→A.length=j →
  F2 N K b c.av fuel A.length (j:Int) (Au A)=K (A++(c.stores.l.drop j).map StoreD.name).length (Au (A++(c.stores.l.drop j).map StoreD.name))
 | 0,j,fuel+1,A,k,_,hA=>by
  rw[F2];unfold Me
  rw[Eb,F9 (by omega),cf,show c.stores.l.drop j=[] from A5 (by omega),Aem,Aej]
 | m+1,j,fuel+1,A,k,n,hA=>by
  rw[F2];unfold Me
  have h:j<c.stores.l.length:=by omega
  rw[Eb,Fn h,ct,Eb,Ab h,ct,Ad2,Be (e:=StoreD.av) (sz:=9) (fun _=>rfl) _ _ h,show ∀ F:A0→O R,Hz (StoreD.av c.stores.l[j]++(c.stores.l.drop (j+1)).flatMap StoreD.av) F=F (c.stores.l[j]).name from fun _=>rfl,Wl (by omega),ct,Oy (by omega),Ds,Ia,A3 h,Ad5]
  have d:=R3 f m (j+1) fuel (A++[(c.stores.l[j]).name]) (by omega) (by omega) (by simp[hA])
  rw[Adw,Aer] at d
  refine d.trans ?_
  rw[Aea];rfl
theorem Zk (f:c.ties.l.length≤1000000000):∀ (m j fuel:Nat) (A:List A0),j+m=c.ties.l.length→m<fuel→A.length=j →
  F3 N K b c.av fuel A.length (j:Int) (Au A)=K (A++(c.ties.l.drop j).map TieD.name).length (Au (A++(c.ties.l.drop j).map TieD.name))
 | 0,j,fuel+1,A,k,_,hA=>by
  rw[F3];unfold Mf
  rw[Gy,F9 (by omega),cf,show c.ties.l.drop j=[] from A5 (by omega),Aem,Aej]
 | m+1,j,fuel+1,A,k,n,hA=>by
  rw[F3];unfold Mf
  have h:j<c.ties.l.length:=by omega
  rw[Gy,Fn h,ct,Gy,Ab h,ct,Ad2,Be (e:=TieD.av) (sz:=5) (fun _=>rfl) _ _ h,show ∀ F:A0→O R,Hz (TieD.av c.ties.l[j]++(c.ties.l.drop (j+1)).flatMap TieD.av) F=F (c.ties.l[j]).name from fun _=>rfl,Wl (by omega),ct,Oy (by omega),Ds,Ia,A3 h,Ad5]
  have d:=Zk f m (j+1) fuel (A++[(c.ties.l[j]).name]) (by omega) (by omega) (by simp[hA])
  rw[Adw,Aer] at d
  refine d.trans ?_
  rw[Aea];rfl
theorem Zl (f:c.outs.l.length≤1000000000):∀ (m j fuel:Nat) (A:List A0),j+m=c.outs.l.length→m<fuel→A.length=j →
  F4 N K b c.av fuel A.length (j:Int) (Au A)=K (A++(c.outs.l.drop j).map OutD.name).length (Au (A++(c.outs.l.drop j).map OutD.name))
 | 0,j,fuel+1,A,k,_,hA=>by
  rw[F4];unfold Mg
  rw[Fb,F9 (by omega),cf,show c.outs.l.drop j=[] from A5 (by omega),Aem,Aej]
 | m+1,j,fuel+1,A,k,n,hA=>by
  rw[F4];unfold Mg
  have h:j<c.outs.l.length:=by omega
  rw[Fb,Fn h,ct,Fb,Ab h,ct,Ad2,Be (e:=OutD.av) (sz:=4) (fun _=>rfl) _ _ h,show ∀ F:A0→O R,Hz (OutD.av c.outs.l[j]++(c.outs.l.drop (j+1)).flatMap OutD.av) F=F (c.outs.l[j]).name from fun _=>rfl,Wl (by omega),ct,Oy (by omega),Ds,Ia,A3 h,Ad5]
  have d:=Zl f m (j+1) fuel (A++[(c.outs.l[j]).name]) (by omega) (by omega) (by simp[hA])
  rw[Adw,Aer] at d
  refine d.trans ?_
  rw[Aea];rfl
def Mq (c:CaseD) (k:Nat):List A0:=(B5 c).getD (k - 1) []
structure ListsOk (c:CaseD):Prop where
 b:c.buses.l.length≤1000000000
 l:c.lines.l.length≤1000000000
 u:c.units.l.length≤1000000000
 s:c.stores.l.length≤1000000000
 t:c.ties.l.length≤1000000000
 o:c.outs.l.length≤1000000000
theorem gn (hN:1000000000<N) (d:ListsOk c) {k:Nat} (e:1≤k) (f:k≤6):Fj N c.av b (k:Int) K=K (Mq c k).length (Au (Mq c k)):=by
 have c1:=d.b;have j:=d.l;have m:=d.u;have n:=d.s;have q:=d.t;have v:=d.o
 rw[G6];unfold I7
 have:k=1∨k=2∨k=3∨k=4∨k=5∨k=6:=by omega
 rcases this with rfl | rfl | rfl | rfl | rfl | rfl
 ·exact BD (by omega) c.buses.l.length 0 N [] (by omega) (by omega) rfl
 ·exact Vn (by omega) c.lines.l.length 0 N [] (by omega) (by omega) rfl
 ·exact Vo (by omega) c.units.l.length 0 N [] (by omega) (by omega) rfl
 ·exact R3 (by omega) c.stores.l.length 0 N [] (by omega) (by omega) rfl
 ·exact Zk (by omega) c.ties.l.length 0 N [] (by omega) (by omega) rfl
 ·exact Zl (by omega) c.outs.l.length 0 N [] (by omega) (by omega) rfl
def kE (k:Nat):Nat:=[32,64,16,8,8,64].getD (k - 1) 0
theorem uR {k:Nat} (d:1≤k) (e:k≤6) {F:Int→O R}:Ni N (k:Int) F=F (kE k):=by
 rw[FV];unfold NB
 have:k=1∨k=2∨k=3∨k=4∨k=5∨k=6:=by omega
 rcases this with rfl | rfl | rfl | rfl | rfl | rfl<;>rfl
def jL (c:CaseD) (k:Nat):Bool:=decide ((Mq c k).length≤kE k)
theorem uS (c:CaseD):Ff c=(jL c 1&&(jL c 2&&(jL c 3&&(jL c 4&&(jL c 5&&jL c 6))))):=by
 unfold Ff jL
 simp[Mq,B5,kE,Bh,Cl,Bt,Tr,WS,WT]
end
end Gx.Ct
namespace Gx
open Go
mutual
def Aap:AV→AV→Bool
 | .int k n,.int k' n'=>Na k k'&&decide (n=n')
 | .bool b,.bool b'=>b==b'
 | .str s,.str s'=>s==s'
 | .nsl,.nsl=>true
 | .imm c n s t o,.imm c' n' s' t' o'=>beq n n'&&(beq s s'&&(t==t'&&(o==o'&&dF c c')))
 | .iptr c o,.iptr c' o'=>o==o'&&dF c c'
 | .pagg c o,.pagg c' o'=>o==o'&&dF c c'
 | .own b f n,.own b' f' n'=>beq b b'&&(beq f f'&&beq n n')
 | .optr b f,.optr b' f'=>beq b b'&&beq f f'
 | .agg c,.agg c'=>dF c c'
 | .tup c,.tup c'=>dF c c'
 | .fn f c,.fn f' c'=>beq f f'&&dF c c'
 | .nilptr,.nilptr=>true
 | .nilfn,.nilfn=>true
 | .undef,.undef=>true
 | .omap b,.omap b'=>beq b b'
 | _,_=>false
def dF:List AV→List AV→Bool
 | [],[]=>true
 | x::r,y::q=>Aap x y&&dF r q
 | _,_=>false
end
mutual
theorem rp:∀ a b,Aap a b=true→a=b:=by
 intro a b h
 cases a<;>cases b<;>simp only[Aap,Ad3,Ahn,beq_iff_eq,Na,decide_eq_true_eq,reduceCtorEq,Agc] at h
 case int.int=>rw[h.1,h.2]
 case bool.bool=>rw[h]
 case str.str=>rw[h]
 case nsl.nsl=>rfl
 case imm.imm=>rw[h.1,h.2.1,h.2.2.1,h.2.2.2.1,Yg _ _ h.2.2.2.2]
 case iptr.iptr=>rw[h.1,Yg _ _ h.2]
 case pagg.pagg=>rw[h.1,Yg _ _ h.2]
 case own.own=>rw[h.1,h.2.1,h.2.2]
 case optr.optr=>rw[h.1,h.2]
 case agg.agg=>rw[Yg _ _ h]
 case tup.tup=>rw[Yg _ _ h]
 case fn.fn=>rw[h.1,Yg _ _ h.2]
 case nilptr.nilptr=>rfl
 case nilfn.nilfn=>rfl
 case undef.undef=>rfl
 case omap.omap=>rw[h]
theorem Yg:∀ a b,dF a b=true→a=b:=by
 intro a b h
 cases a<;>cases b<;>simp only[dF,Ad3,Agc] at h
 ·rfl
 ·rw[rp _ _ h.1,Yg _ _ h.2]
end
def Aaq:Option (Nat×Nat)→Option (Nat×Nat)→Bool
 | none,none=>true
 | some (a,b),some (c,d)=>beq a c&&beq b d
 | _,_=>false
def Aa6 (x y:Blk):Bool:=x.dead==y.dead&&(x.sealed==y.sealed&&(x.pure==y.pure&&(x.taint==y.taint&&(beq x.sz y.sz&&(x.mp==y.mp&&(Aaq x.ty y.ty&&dF x.cells y.cells))))))
def xe:Aw→Aw→Bool
 | [],[]=>true
 | (i,x)::r,(j,y)::q=>beq i j&&(Aa6 x y&&xe r q)
 | _,_=>false
theorem yL:∀ a b,Aaq a b=true→a=b:=by
 intro a b h
 match a,b,h with
 | none,none,_=>rfl
 | some (a,b),some (c,d),h=>simp only[Aaq,Ad3,Ahn] at h;rw[h.1,h.2]
 | none,some _,h=>cases h
 | some _,none,h=>simp[Aaq] at h
theorem yM (x y:Blk) (h:Aa6 x y=true):x=y:=by
 unfold Aa6 at h
 simp only[Ad3,Ahn,beq_iff_eq] at h
 obtain⟨f,j,k,l,m,n,d,e⟩:=h
 have:=yL _ _ d;have:=Yg _ _ e
 cases x;cases y;simp_all
theorem rq:∀ a b,xe a b=true→a=b:=by
 intro a
 induction a with
 | nil=>intro b h;cases b<;>simp[xe] at h ⊢
 | cons p r d =>
  intro b h
  cases b with
  | nil=>simp[xe] at h
  | cons q s =>
   obtain⟨i,x⟩:=p;obtain⟨j,y⟩:=q
   simp only[xe,Ad3,Ahn] at h
   rw[h.1,yM _ _ h.2.1,d _ h.2.2]
structure Pt where
 f:Nat
 args:List AV
 h:Aw
 res:AV
 h':Aw
def D9 (P:Program) (p:Pt):Prop:=th P p.f p.args p.h p.res p.h'
def pp (P:Program):List Pt→Prop
 | []=>True
 | p::r=>D9 P p∧pp P r
def MC (f:Nat) (a:LA) (h:Aw):List Pt→Option Pt
 | []=>none
 | p::r=>cond (beq p.f f&&(dF p.args a&&xe p.h h)) (some p) (MC f a h r)
def wC {R:Type} (k:AV→Aw→O R) (alt:O R):Option Pt→O R
 | some p=>k p.res p.h'
 | none=>alt
def yN (l:List Pt) (f:Nat) (t:Tw):Tw:=⟨fun {R} a h k=>wC k (t.runK a h k) (MC f a h l),fun {R} a h k=>by
 cases MC f a h l with
 | none=>exact t.eq a h k
 | some p=>rfl⟩
theorem kF {P:Program} {f:Nat} {a:LA} {h:Aw}:∀ {l:List Pt},pp P l→∀ {p},MC f a h l=some p→th P f a h p.res p.h'
 | [],_,p,e=>by simp[MC] at e
 | q::r,H,p,e=>by
  unfold MC at e
  cases d:beq q.f f&&(dF q.args a&&xe q.h h) with
  | false=>rw[d] at e;exact kF H.2 e
  | true =>
   rw[d] at e
   simp only[cond_true,Af2] at e
   subst e
   simp only[Ad3,Ahn] at d
   have:=Yg _ _ d.2.1;have:=rq _ _ d.2.2
   obtain⟨rfl,_,_⟩:=d
   subst_vars;exact H.1
theorem xD {P:Program} {l:List Pt} (H:pp P l) {f:Nat} {t:Tw} (d:WG P f t):WG P f (yN l f t):=by
 intro a h res h' e
 have e:wC (fun v h'=>some (v,h')) (t.runK a h fun v h'=>some (v,h')) (MC f a h l)=some (res,h'):=e
 cases hq:MC f a h l with
 | none=>rw[hq] at e;exact d a h res h' e
 | some p =>
  rw[hq] at e
  simp only[wC,Af2,Prod.mk.injEq] at e
  obtain⟨rfl,rfl⟩:=e
  exact kF H hq
def yg (P:Program) (muts:Nat→List Bool) (N:Nat) (l:List Pt) (fs:List (Nat×Hints)):Nat→List (Nat×Tw)
 | 0=>[]
 | d+1=>fs.map fun p=>(p.1,yN l p.1 ⟨fun args h k=>jd P muts (yg P muts N l fs d) p.2 N p.1 args h k,fun args h k=>by rw[DN,DN];exact QQ ..⟩)
theorem wD {P:Program} (f:P.follows .mixedOrders=true) (muts:Nat→List Bool) (N:Nat) {l:List Pt} (H:pp P l) (fs:List (Nat×Hints)):∀ d,eZ P (yg P muts N l fs d)
 | 0=>trivial
 | d+1=>by
  rw[yg]
  have key:∀ (q:List (Nat×Hints)),eZ P (q.map fun p=>((p.1,yN l p.1 ⟨fun e h k=>jd P muts (yg P muts N l fs d) p.2 N p.1 e h k,fun e h k=>by rw[DN,DN];exact QQ ..⟩):Nat×Tw)):=by
   intro q
   induction q with
   | nil=>trivial
   | cons p r j =>
    refine⟨xD H ?_,j⟩
    intro e h res h' m
    exact KH (wD f muts N H fs d) f ((DN ..).symm.trans m)
  exact key fs
def yO (f:Nat):List (Nat×Hints)→Hints
 | []=>⟨.leaf,[],[],[],[]⟩
 | p::r=>cond (beq p.1 f) p.2 (yO f r)
def aZ (p:Pt):Option (AV×Aw)→Bool
 | some (v,h)=>Aap p.res v&&xe p.h' h
 | none=>false
theorem Gl {P:Program} (j:P.follows .mixedOrders=true) {muts:Nat→List Bool} {N:Nat} {l:List Pt} (H:pp P l) {fs:List (Nat×Hints)} (d:Nat) {p:Pt}
  (e:aZ p (jd P muts (yg P muts N l fs d) (yO p.f fs) N p.f p.args p.h fun v h=>some (v,h))=true):D9 P p:=by
 cases hq:jd P muts (yg P muts N l fs d) (yO p.f fs) N p.f p.args p.h fun v h=>some (v,h) with
 | none=>rw[hq] at e;cases e
 | some q =>
  rw[hq] at e
  obtain⟨v,h⟩:=q
  simp only[aZ,Ad3] at e
  have:=rp _ _ e.1;have:=rq _ _ e.2
  subst_vars
  exact KH (wD j muts N H fs d) j ((DN ..).symm.trans hq)
end Gx
namespace Gx
open Go Go.Proofs Go.RowKit
noncomputable section
variable {R:Type} (N:Nat)
def C5 (_N:Nat) (s:Lu) (c:Int) (r0:Int→O R):O R:=r0 (Lib.indexByte s c.toNat.toUInt8)
def Kf:=(At (@C5 R)).1
theorem Ck:@Kf R=@C5 R:=(At _).2
def Bk (a:LA) (h:Aw) (k:KF R):O R :=
 match a,h with
 | [.str s,.int .u8 c],[]=>Kf N s c fun x=>k (.int .i64 x) []
 | _,_=>none
def Rf:Tw:=⟨fun {R} a h k=>@Bk R N a h k,fun {R} a h k=>by
 unfold Bk
 split
 ·rw[Ck,Ck];rfl
 ·rfl⟩
end
theorem Rg (N:Nat):WG Tryz.prog 105 (Rf N):=by
 intro f h res h' j
 have d:Bk N f h (fun v h'=>some (v,h'))=some (res,h'):=j
 unfold Bk at d
 split at d
 ·rename_i s c
  rw[Ck,C5] at d
  simp at d
  obtain⟨rfl,rfl⟩:=d
  refine DM fun J β w vs G hr=>?_
  obtain⟨u,v,rfl,e1,k⟩:=fD hr
  simp only[Rep] at e1 k;subst e1 k
  refine(Any.stringslite_IndexByte { Tryz.lays145 with } ⟨⟨s⟩⟩ c w).mono ?_
  rintro e w' ⟨rfl,rfl⟩
  exact⟨_,rfl,Below.refl _ _,fun J β w=>by rw[Rep]⟩
 ·cases d
end Gx
namespace Gx
open Go Go.Proofs
theorem mj {P:Program} {p:Pt} {o:Option (AV×Aw)} (h:∀ v h',o=some (v,h')→th P p.f p.args p.h v h') (e:aZ p o=true):D9 P p:=by
 cases hq:o with
 | none=>rw[hq] at e;cases e
 | some q =>
  rw[hq] at e
  obtain⟨v,h'⟩:=q
  simp only[aZ,Ad3] at e
  have d:=rp _ _ e.1;have j:=rq _ _ e.2
  unfold D9;rw[d,j]
  exact h _ _ hq
def yP (a:LA) (h:Aw):Option (AV×Aw):=match a,h with
 | [.str s,.str t],[]=>R4 0 s t fun x y b=>some (.tup [.str x,.str y,.bool b],[])
 | _,_=>none
theorem xE (a:LA) (h:Aw) (v:AV) (h':Aw) (d:yP a h=some (v,h')):th Tryz.prog 21 a h v h':=by
 refine fb 0 _ _ _ _ (show H8 0 a h (fun v h'=>some (v,h'))=some (v,h') from ?_)
 unfold yP at d;unfold H8
 split at d
 ·rw[Qe];exact d
 ·cases d
theorem MD {p:Pt} (d:p.f=21) (e:aZ p (yP p.args p.h)=true):D9 Tryz.prog p:=mj (fun v h' j=>by rw[d];exact xE _ _ _ _ j) e
def wE (a:LA) (h:Aw):Option (AV×Aw):=match a,h with
 | [.str s],[]=>Pw 0 s fun x=>some (.tup [.int .i64 x,.undef],[])
 | _,_=>none
theorem wF (a:LA) (h:Aw) (v:AV) (h':Aw) (d:wE a h=some (v,h')):th Tryz.prog 166 a h v h':=by
 refine strconv_Atoi_ok 0 _ _ _ _ (show Hc 0 a h (fun v h'=>some (v,h'))=some (v,h') from ?_)
 unfold wE at d;unfold Hc
 split at d
 ·rw[Ot];exact d
 ·cases d
theorem NN {p:Pt} (d:p.f=166) (e:aZ p (wE p.args p.h)=true):D9 Tryz.prog p:=mj (fun v h' j=>by rw[d];exact wF _ _ _ _ j) e
def mm (a:LA) (h:Aw):Option (AV×Aw):=match a,h with
 | [.str s,.int .i64 c],[]=>L0 0 s c fun x=>some (.str x,[])
 | _,_=>none
theorem rt (a:LA) (h:Aw) (v:AV) (h':Aw) (d:mm a h=some (v,h')):th Tryz.prog 211 a h v h':=by
 refine TM 0 _ _ _ _ (show Fo 0 a h (fun v h'=>some (v,h'))=some (v,h') from ?_)
 unfold mm at d;unfold Fo
 split at d
 ·rw[Ky];exact d
 ·cases d
theorem uT {p:Pt} (d:p.f=211) (e:aZ p (mm p.args p.h)=true):D9 Tryz.prog p:=mj (fun v h' j=>by rw[d];exact rt _ _ _ _ j) e
def rx (a:LA) (h:Aw):Option (AV×Aw):=match a,h with
 | [.str s,.int .u8 c],[]=>C5 0 s c fun x=>some (.int .i64 x,[])
 | _,_=>none
theorem uU (a:LA) (h:Aw) (v:AV) (h':Aw) (d:rx a h=some (v,h')):th Tryz.prog 105 a h v h':=by
 refine Rg 0 _ _ _ _ (show Bk 0 a h (fun v h'=>some (v,h'))=some (v,h') from ?_)
 unfold rx at d;unfold Bk
 split at d
 ·rw[Ck];exact d
 ·cases d
theorem EY {p:Pt} (d:p.f=105) (e:aZ p (rx p.args p.h)=true):D9 Tryz.prog p:=mj (fun v h' j=>by rw[d];exact uU _ _ _ _ j) e
end Gx
namespace Gx
open Go Go.Proofs
set_option maxRecDepth 100000
set_option linter.unusedVariables false
def Aa7:Hints:={ H:=hL }
def yQ:Hints:={ H:=(hS hL (hS hL (hS hL (hS hL (hS (hS hL (hS (hP [0,2,5,6,7] hL) hL)) hL))))),modes:=[(3,0),(0,0),(0,0)],cob:=[13,1000002] }
def Aa8:Hints:={ H:=(hS hL (hS hL (hS (hS hL (hS (hP [0,1,5] hL) hL)) hL))) }
def xF:Hints:={ H:=hL }
def yR:Hints:={ H:=hL,nils:=[(2,1)],modes:=[(2,1)] }
def mo:Hints:={ H:=hL }
def wG:Hints:={ H:=hL,free:=[100001,100002,100003,100004,100005,100006,100007,100008,100009,100010,100011,100012,100013,100014,100015,100016,100017] }
def mq:Hints:={ H:=hL }
def yS:Hints:={ H:=hL }
def wH:Hints:={ H:=(hS hL (hS hL (hS hL (hS (hS hL (hS (hP [0,1,5,6,14] hL) hL)) (hS hL (hS hL (hS (hS hL (hS (hP [0,9,47,48,49] hL) hL)) hL))))))),nils:=[(4,1)],modes:=[(2,1)] }
def wI:Hints:={ H:=hL }
def mt:Hints:={ H:=hL }
def yx:Hints:={ H:=hL }
def yy:Hints:={ H:=hL }
def xG:Hints:={ H:=hL }
def yT:Hints:={ H:=(hS hL (hS hL (hS (hS hL (hS (hP [1,5,10,11] hL) hL)) hL))),nils:=[(4,1),(5,1)],modes:=[(2,1)] }
def xH:Hints:={ H:=hL }
def yz:Hints:={ H:=hL,free:=[100001,100002,100003,100004,100005,100006,100007,100008,100009,100010,100011,100012,100013,100014,100015,100016,100017],cob:=[2] }
def zA:Hints:={ H:=hL,free:=[100001,100002,100003,100004,100005,100006,100007,100008,100009,100010,100011,100012,100013,100014,100015,100016,100017],cob:=[2] }
def xI:Hints:={ H:=hL }
def zB:Hints:={ H:=(hS hL (hS hL (hS (hS hL (hS (hP [0,28,29] hL) hL)) hL))) }
def zC:Hints:={ H:=hL }
def wJ:Hints:={ H:=hL }
def xf:Hints:={ H:=hL,cob:=[4000020] }
def kG:Hints:={ H:=hL }
def xg:Hints:={ H:=hL,free:=[100001,100002,100003,100004,100005,100006,100007,100008,100009,100010,100011,100012,100013,100014,100015,100016,100017] }
def zD:Hints:={ H:=hL }
def zE:Hints:={ H:=hL }
def zF:Hints:={ H:=hL,modes:=[(3,0)] }
def zG:Hints:={ H:=(hS hL (hS hL (hS (hS (hP [0,1,5] hL) hL) hL))),nils:=[(4,1),(5,1)],modes:=[(2,1)] }
def zH:Hints:={ H:=hL }
def xh:Hints:={ H:=(hS hL (hS (hS hL (hS (hP [0,1,7,8] hL) hL)) hL)) }
def xi:Hints:={ H:=hL,modes:=[(3,0),(0,0)] }
def PY:Hints:={ H:=(hS hL (hS hL (hS hL (hS hL (hS hL (hS hL (hS (hS hL (hS (hP [1,5,35,36,37] hL) hL)) hL))))))) }
def pq:Hints:={ H:=hL,modes:=[(3,0),(3,0),(0,0)] }
def xj:Hints:={ H:=hL }
def pt:Hints:={ H:=hL }
def pu:Hints:={ H:=(hS hL (hS hL (hS (hS hL (hS (hP [3,7] hL) hL)) hL))) }
def ME:Hints:={ H:=(hS hL (hS hL (hS hL (hS hL (hS (hS (hP [0,2,3,4,5] hL) hL) hL))))),modes:=[(3,0)] }
def gp:Hints:={ H:=hL,modes:=[(3,0)] }
def VB:Hints:={ H:=hL }
def pv:Hints:={ H:=hL,modes:=[(3,0)],cob:=[1] }
def PZ:Hints:={ H:=hL,modes:=[(3,0)] }
def pw:Hints:={ H:=(hS hL (hS hL (hS (hS (hP [0,3] hL) hL) (hS (hS (hP [0,3] hL) hL) hL)))) }
def a6:Hints:={ H:=hL,modes:=[(3,0),(0,0)] }
def tH:Hints:={ H:=(hS hL (hS hL (hS hL (hS hL (hS (hS hL (hS (hP [2,3,7,8,26,27,28] hL) hL)) hL))))),modes:=[(3,0),(3,0),(0,0)] }
def tI:Hints:={ H:=hL,modes:=[(3,0)] }
def MF:Hints:={ H:=hL }
def qA:Hints:={ H:=hL }
def W9:Hints:={ H:=hL }
def gq:Hints:={ H:=(hS hL (hS hL (hS (hS (hP [1,2,4,5] hL) hL) hL))) }
def kH:Hints:={ H:=hL }
def kI:Hints:={ H:=hL }
def gr:Hints:={ H:=hL }
def qB:Hints:={ H:=hL }
def VC:Hints:={ H:=hL }
def qC:Hints:={ H:=hL }
def S4:Hints:={ H:=hL }
def tJ:Hints:={ H:=hL }
def VD:Hints:={ H:=hL,nils:=[(3,1)],modes:=[(3,0),(1,1)] }
def BZ:Hints:={ H:=(hS hL (hS hL (hS hL (hS hL (hS (hS (hP [0,1,4,5,6,7] hL) hL) hL))))),modes:=[(3,0)] }
def wK:Hints:={ H:=hL }
def qD:Hints:={ H:=hL,modes:=[(3,0),(0,0)],cob:=[2,3] }
def xk:Hints:={ H:=(hS hL (hS hL (hS hL (hS (hS hL (hS (hP [0,4,5,6,7,8] hL) hL)) hL)))),nils:=[(2,2),(4,2)],modes:=[(2,2),(0,0)] }
def xl:Hints:={ H:=hL,modes:=[(3,0),(3,0),(0,0)] }
def xm:Hints:={ H:=hL,modes:=[(3,0)] }
def tK:Hints:={ H:=hL,modes:=[(3,0)] }
def gt:Hints:={ H:=(hS hL (hS hL (hS hL (hS hL (hS (hS hL (hS (hP [1,5,29,30,31] (hS hL (hS hL (hS (hS (hS hL (hS hL (hS hL (hS (hS hL (hS (hP [1,5,6,7,8,29,30,31,38,39,40] hL) hL)) hL)))) hL) hL)))) hL)) hL))))),nils:=[(4,1)],modes:=[(2,1)] }
def MG:Hints:={ H:=hL }
def qE:Hints:={ H:=(hS hL (hS (hS hL (hS (hP [0,6] hL) hL)) hL)) }
def Xa:Hints:={ H:=hL }
def P4:Hints:={ H:=hL,nils:=[(2,1)],modes:=[(2,1)] }
def kJ:Hints:={ H:=(hS hL (hS hL (hS hL (hS hL (hS hL (hS (hS hL (hS (hP [0,1,5,6,24,25,26] hL) hL)) hL)))))),nils:=[(4,1)],modes:=[(2,1)] }
def qF:Hints:={ H:=hL,nils:=[(2,1)],modes:=[(2,1)] }
def B_:Hints:={ H:=hL }
def qG:Hints:={ H:=hL }
def S5:Hints:={ H:=hL }
def tL:Hints:={ H:=hL }
def B':Hints:={ H:=(hS hL (hS hL (hS hL (hS (hS hL (hS (hP [0,1,5] hL) hL)) hL)))) }
def zI:Hints:={ H:=hL }
def L8:Hints:={ H:=(hS hL (hS hL (hS (hS (hP [0,3] hL) hL) hL))),nils:=[(2,1)],modes:=[(2,1)] }
def MH:Hints:={ H:=hL }
def S6:Hints:={ H:=(hS hL (hS hL (hS (hS hL (hS (hP [3,6,7,8] hL) hL)) hL))) }
def Acu:Pt:=⟨21,[.str [99,97,115,101,32,50,32,114,101,115,101,114,118,101,32,48,32,48,10,98,117,115,32,97,32,100,101,109,97,110,100,32,49,48,77,87,32,48,46,48,50,71,87,32,115,104,101,100,32,48,10],.str [10]],[],.tup [.str [99,97,115,101,32,50,32,114,101,115,101,114,118,101,32,48,32,48],.str [98,117,115,32,97,32,100,101,109,97,110,100,32,49,48,77,87,32,48,46,48,50,71,87,32,115,104,101,100,32,48,10],.bool true],[]⟩
theorem Adh:D9 Tryz.prog Acu:=MD (by kernel_rfl) (by kernel_rfl)
def Acv:Pt:=⟨105,[.str [99,97,115,101,32,50,32,114,101,115,101,114,118,101,32,48,32,48],.int .u8 35],[],iv (-1),[]⟩
theorem Adi:D9 Tryz.prog Acv:=EY (by kernel_rfl) (by kernel_rfl)
def yU:Pt:=⟨165,[.pagg [.bool false,.imm [.int .u32 10] 1 1 false true] true,iv 9],[],.agg [.bool false,.own 300000 0 1],[(300000,⟨false,false,true,false,1,[.int .u32 1000000000,.int .u32 0],false,none⟩)]⟩
theorem yh:D9 Tryz.prog yU:=Gl follows (muts:=muts) (N:=1000000) (l:=[]) trivial (fs:=[(164,W9),(165,gq),(168,gr),(185,gt),(196,Xa),(197,P4),(212,L8)]) 5 (by kernel_rfl)
def Acw:Pt:=⟨166,[.str [50]],[],.tup [iv 2,.undef],[]⟩
theorem Adj:D9 Tryz.prog Acw:=NN (by kernel_rfl) (by kernel_rfl)
def Acx:Pt:=⟨149,[.str [50]],[],.pagg [.bool false,.imm [.int .u32 2] 1 1 false false] false,[]⟩
theorem Adk:D9 Tryz.prog Acx:=Gl follows (muts:=muts) (N:=1000000) (l:=[yU,Acw]) ⟨yh,Adj,trivial⟩ (fs:=[(149,ME),(162,MF),(164,W9),(165,gq),(166,kH),(167,kI),(168,gr),(185,gt),(194,MG),(196,Xa),(197,P4),(200,kJ),(212,L8),(219,MH)]) 5 (by kernel_rfl)
def Acy:Pt:=⟨151,[.pagg [.bool false,.imm [.int .u32 2] 1 1 false false,.imm [.int .u32 1] 1 1 false false] false,.pagg [.bool false,.imm [.int .u32 1073741824] 1 1 false false,.imm [.int .u32 1] 1 1 false false] false],[],iv (-1),[]⟩
theorem Adl:D9 Tryz.prog Acy:=Gl follows (muts:=muts) (N:=1000000) (l:=[]) trivial (fs:=[(151,VB),(170,VC),(172,S4),(173,tJ),(174,VD),(203,B_),(205,S5),(206,tL),(207,B'),(212,L8),(225,S6)]) 6 (by kernel_rfl)
def Acz:Pt:=⟨137,[.pagg [.bool false,.imm [.int .u32 2] 1 1 false false,.imm [.int .u32 1] 1 1 false false] false],[],.tup [iv 2,.bool true],[]⟩
theorem Adm:D9 Tryz.prog Acz:=Gl follows (muts:=muts) (N:=1000000) (l:=[Acy]) ⟨Adl,trivial⟩ (fs:=[(137,PY),(150,gp),(151,VB),(152,pv),(153,PZ),(164,W9),(169,qB),(170,VC),(171,qC),(172,S4),(174,VD),(176,BZ),(196,Xa),(197,P4),(202,qF),(203,B_),(204,qG),(205,S5),(207,B'),(212,L8),(225,S6)]) 7 (by kernel_rfl)
def Ac0:Pt:=⟨166,[.str [48]],[],.tup [iv 0,.undef],[]⟩
theorem Adn:D9 Tryz.prog Ac0:=NN (by kernel_rfl) (by kernel_rfl)
def Ac1:Pt:=⟨149,[.str [48]],[],.pagg [.bool false,.imm [] 0 1 false false] false,[]⟩
theorem Ado:D9 Tryz.prog Ac1:=Gl follows (muts:=muts) (N:=1000000) (l:=[yU,Ac0]) ⟨yh,Adn,trivial⟩ (fs:=[(149,ME),(162,MF),(164,W9),(165,gq),(166,kH),(167,kI),(168,gr),(185,gt),(194,MG),(196,Xa),(197,P4),(200,kJ),(212,L8),(219,MH)]) 5 (by kernel_rfl)
def Ac2:Pt:=⟨166,[.str [49]],[],.tup [iv 1,.undef],[]⟩
theorem Adp:D9 Tryz.prog Ac2:=NN (by kernel_rfl) (by kernel_rfl)
def xJ:Pt:=⟨149,[.str [49]],[],.pagg [.bool false,.imm [.int .u32 1] 1 1 false false] false,[]⟩
theorem yV:D9 Tryz.prog xJ:=Gl follows (muts:=muts) (N:=1000000) (l:=[yU,Ac2]) ⟨yh,Adp,trivial⟩ (fs:=[(149,ME),(162,MF),(164,W9),(165,gq),(166,kH),(167,kI),(168,gr),(185,gt),(194,MG),(196,Xa),(197,P4),(200,kJ),(212,L8),(219,MH)]) 5 (by kernel_rfl)
def xK:Pt:=⟨155,[.str [48]],[],.tup [.pagg [.bool false,.imm [] 0 1 false false,.imm [.int .u32 1] 1 1 false false] false,iv 0],[]⟩
theorem yW:D9 Tryz.prog xK:=Gl follows (muts:=muts) (N:=1000000) (l:=[Ac1,xJ]) ⟨Ado,yV,trivial⟩ (fs:=[(147,pt),(148,pu),(149,ME),(153,PZ),(155,a6),(162,MF),(163,qA),(172,S4),(176,BZ),(178,wK),(179,qD),(194,MG),(195,qE),(197,P4),(203,B_),(205,S5),(207,B'),(212,L8),(219,MH),(225,S6)]) 7 (by kernel_rfl)
def xL:Pt:=⟨137,[.pagg [.bool false,.imm [] 0 1 false false,.imm [.int .u32 1] 1 1 false false] false],[],.tup [iv 0,.bool true],[]⟩
theorem yX:D9 Tryz.prog xL:=Gl follows (muts:=muts) (N:=1000000) (l:=[]) trivial (fs:=[(137,PY),(150,gp),(151,VB),(152,pv),(153,PZ),(164,W9),(169,qB),(170,VC),(171,qC),(172,S4),(174,VD),(176,BZ),(196,Xa),(197,P4),(202,qF),(203,B_),(204,qG),(205,S5),(207,B'),(212,L8),(225,S6)]) 7 (by kernel_rfl)
def zJ:Pt:=⟨24,[.optr 100000 0],[(100000,⟨false,false,false,false,0,[.own 100001 0 5,iv 0,iv 0,iv 0,.own 100002 0 0,.own 100003 0 0,.own 100004 0 0,.own 100005 0 0,.own 100006 0 0,.own 100007 0 0,.own 100008 0 0,.bool false,.own 100009 0 0,.own 100010 0 0,.own 100011 0 0,.own 100012 0 0,.own 100013 0 0,.own 100014 0 0,.own 100015 0 0],false,none⟩),(100001,⟨false,false,true,false,1,[.str [99,97,115,101],.str [50],.str [114,101,115,101,114,118,101],.str [48],.str [48]],false,none⟩),(100002,⟨false,false,true,false,1,[],false,none⟩),(100003,⟨false,false,true,false,3,[],false,none⟩),(100004,⟨false,false,true,false,12,[],false,none⟩),(100005,⟨false,false,true,false,22,[],false,none⟩),(100006,⟨false,false,true,false,9,[],false,none⟩),(100007,⟨false,false,true,false,5,[],false,none⟩),(100008,⟨false,false,true,false,4,[],false,none⟩),(100009,⟨false,false,true,false,1,[],false,none⟩),(100010,⟨false,false,true,false,1,[],false,none⟩),(100011,⟨false,false,true,false,1,[],false,none⟩),(100012,⟨false,false,true,false,1,[],false,none⟩),(100013,⟨false,false,true,false,1,[],false,none⟩),(100014,⟨false,false,true,false,1,[],false,none⟩),(100015,⟨false,false,true,false,1,[],false,none⟩)],.tup [],[(100000,⟨false,false,false,false,0,[.own 300000 0 5,iv 5,iv 0,iv 2,.own 300015 0 2,.own 300002 0 0,.own 300003 0 0,.own 300004 0 0,.own 300005 0 0,.own 300006 0 0,.own 300007 0 0,.bool true,.own 300008 0 0,.own 300009 0 0,.own 300010 0 0,.own 300011 0 0,.own 300012 0 0,.own 300013 0 0,.own 300014 0 0],false,none⟩),(300000,⟨false,false,true,false,1,[.str [99,97,115,101],.str [50],.str [114,101,115,101,114,118,101],.str [48],.str [48]],false,none⟩),(300001,⟨false,false,true,false,1,[],false,none⟩),(300002,⟨false,false,true,false,3,[],false,none⟩),(300003,⟨false,false,true,false,12,[],false,none⟩),(300004,⟨false,false,true,false,22,[],false,none⟩),(300005,⟨false,false,true,false,9,[],false,none⟩),(300006,⟨false,false,true,false,5,[],false,none⟩),(300007,⟨false,false,true,false,4,[],false,none⟩),(300008,⟨false,false,true,false,1,[],false,none⟩),(300009,⟨false,false,true,false,1,[],false,none⟩),(300010,⟨false,false,true,false,1,[],false,none⟩),(300011,⟨false,false,true,false,1,[],false,none⟩),(300012,⟨false,false,true,false,1,[],false,none⟩),(300013,⟨false,false,true,false,1,[],false,none⟩),(300014,⟨false,false,true,false,1,[],false,none⟩),(300015,⟨false,false,true,false,1,[iv 0,iv 0],false,none⟩)]⟩
theorem Aa9:D9 Tryz.prog zJ:=Gl follows (muts:=muts) (N:=1000000) (l:=[Acx,Acz,xK,xL]) ⟨Adk,Adm,yW,yX,trivial⟩ (fs:=[(23,mo),(24,wG),(25,mq),(56,mt),(58,yy),(59,xG),(60,yT),(61,xH),(68,xI),(106,xf),(107,kG),(136,xi),(137,PY),(138,pq),(147,pt),(148,pu),(149,ME),(154,pw),(155,a6),(162,MF),(163,qA),(194,MG),(195,qE),(219,MH)]) 9 (by kernel_rfl)
def zK:Pt:=⟨21,[.str [98,117,115,32,97,32,100,101,109,97,110,100,32,49,48,77,87,32,48,46,48,50,71,87,32,115,104,101,100,32,48,10],.str [10]],[],.tup [.str [98,117,115,32,97,32,100,101,109,97,110,100,32,49,48,77,87,32,48,46,48,50,71,87,32,115,104,101,100,32,48],.str [],.bool true],[]⟩
theorem Aba:D9 Tryz.prog zK:=MD (by kernel_rfl) (by kernel_rfl)
def zL:Pt:=⟨105,[.str [98,117,115,32,97,32,100,101,109,97,110,100,32,49,48,77,87,32,48,46,48,50,71,87,32,115,104,101,100,32,48],.int .u8 35],[],iv (-1),[]⟩
theorem Abb:D9 Tryz.prog zL:=EY (by kernel_rfl) (by kernel_rfl)
def zM:Pt:=⟨54,[.str [98,117,115,32,97,32,100,101,109,97,110,100,32,49,48,77,87,32,48,46,48,50,71,87,32,115,104,101,100,32,48],.fn 55 []],[],.own 300000 0 7,[(300000,⟨false,false,true,false,1,[.str [98,117,115],.str [97],.str [100,101,109,97,110,100],.str [49,48,77,87],.str [48,46,48,50,71,87],.str [115,104,101,100],.str [48]],false,none⟩)]⟩
theorem Abc:D9 Tryz.prog zM:=Gl follows (muts:=muts) (N:=1000000) (l:=[]) trivial (fs:=[(54,wH),(55,wI)]) 3 (by kernel_rfl)
def zN:Pt:=⟨166,[.str [49,48]],[],.tup [iv 10,.undef],[]⟩
theorem Abd:D9 Tryz.prog zN:=NN (by kernel_rfl) (by kernel_rfl)
def zO:Pt:=⟨149,[.str [49,48]],[],.pagg [.bool false,.imm [.int .u32 10] 1 1 false false] false,[]⟩
theorem Abe:D9 Tryz.prog zO:=Gl follows (muts:=muts) (N:=1000000) (l:=[yU,zN]) ⟨yh,Abd,trivial⟩ (fs:=[(149,ME),(162,MF),(164,W9),(165,gq),(166,kH),(167,kI),(168,gr),(185,gt),(194,MG),(196,Xa),(197,P4),(200,kJ),(212,L8),(219,MH)]) 5 (by kernel_rfl)
def zP:Pt:=⟨155,[.str [49,48]],[],.tup [.pagg [.bool false,.imm [.int .u32 10] 1 1 false false,.imm [.int .u32 1] 1 1 false false] false,iv 0],[]⟩
theorem Abf:D9 Tryz.prog zP:=Gl follows (muts:=muts) (N:=1000000) (l:=[xJ,zO]) ⟨yV,Abe,trivial⟩ (fs:=[(147,pt),(148,pu),(149,ME),(153,PZ),(155,a6),(162,MF),(163,qA),(172,S4),(176,BZ),(178,wK),(179,qD),(194,MG),(195,qE),(197,P4),(203,B_),(205,S5),(207,B'),(212,L8),(219,MH),(225,S6)]) 7 (by kernel_rfl)
def zQ:Pt:=⟨184,[.pagg [iv 1,iv 1] false],[],.pagg [.bool false,.imm [.int .u32 1] 1 1 false false,.imm [.int .u32 1] 1 1 false false] false,[]⟩
theorem Abg:D9 Tryz.prog zQ:=Gl follows (muts:=muts) (N:=1000000) (l:=[]) trivial (fs:=[(153,PZ),(164,W9),(172,S4),(176,BZ),(179,qD),(184,tK),(196,Xa),(197,P4),(203,B_),(205,S5),(207,B'),(212,L8),(225,S6)]) 7 (by kernel_rfl)
def zR:Pt:=⟨156,[.str [77,87]],[],.tup [.pagg [.bool false,.imm [.int .u32 1] 1 1 false false,.imm [.int .u32 1] 1 1 false false] false,.pagg [iv 1,iv 0,iv 0,iv 0] false,iv 0],[]⟩
theorem Abh:D9 Tryz.prog zR:=Gl follows (muts:=muts) (N:=1000000) (l:=[zQ]) ⟨Abg,trivial⟩ (fs:=[(150,gp),(156,tH),(157,tI),(164,W9),(172,S4),(176,BZ),(180,xk),(181,xl),(183,xm),(184,tK),(196,Xa),(197,P4),(205,S5),(212,L8),(225,S6)]) 6 (by kernel_rfl)
def zS:Pt:=⟨151,[.pagg [.bool false,.imm [.int .u32 10] 1 1 false false,.imm [.int .u32 1] 1 1 false false] false,.pagg [.bool false,.imm [.int .u32 1073741824] 1 1 false false,.imm [.int .u32 1] 1 1 false false] false],[],iv (-1),[]⟩
theorem Abi:D9 Tryz.prog zS:=Gl follows (muts:=muts) (N:=1000000) (l:=[]) trivial (fs:=[(151,VB),(170,VC),(172,S4),(173,tJ),(174,VD),(203,B_),(205,S5),(206,tL),(207,B'),(212,L8),(225,S6)]) 6 (by kernel_rfl)
def zT:Pt:=⟨137,[.pagg [.bool false,.imm [.int .u32 10] 1 1 false false,.imm [.int .u32 1] 1 1 false false] false],[],.tup [iv 10,.bool true],[]⟩
theorem Abj:D9 Tryz.prog zT:=Gl follows (muts:=muts) (N:=1000000) (l:=[zS]) ⟨Abi,trivial⟩ (fs:=[(137,PY),(150,gp),(151,VB),(152,pv),(153,PZ),(164,W9),(169,qB),(170,VC),(171,qC),(172,S4),(174,VD),(176,BZ),(196,Xa),(197,P4),(202,qF),(203,B_),(204,qG),(205,S5),(207,B'),(212,L8),(225,S6)]) 7 (by kernel_rfl)
def zU:Pt:=⟨107,[.optr 100000 0,.pagg [iv 1,iv 0,iv 0,iv 0] false],[(100000,⟨false,false,false,false,0,[.own 100001 0 7,iv 3,iv 0,iv 2,.own 100002 0 2,.own 100003 0 0,.own 100004 0 0,.own 100005 0 0,.own 100006 0 0,.own 100007 0 0,.own 100008 0 0,.bool true,.own 100009 0 0,.own 100010 0 1,.own 100011 0 0,.own 100012 0 0,.own 100013 0 0,.own 100014 0 0,.own 100015 0 0],false,none⟩),(100001,⟨false,false,true,false,1,[.str [98,117,115],.str [97],.str [100,101,109,97,110,100],.str [49,48,77,87],.str [48,46,48,50,71,87],.str [115,104,101,100],.str [48]],false,none⟩),(100002,⟨false,false,true,false,1,[iv 0,iv 0],false,none⟩),(100003,⟨false,false,true,false,3,[],false,none⟩),(100004,⟨false,false,true,false,12,[],false,none⟩),(100005,⟨false,false,true,false,22,[],false,none⟩),(100006,⟨false,false,true,false,9,[],false,none⟩),(100007,⟨false,false,true,false,5,[],false,none⟩),(100008,⟨false,false,true,false,4,[],false,none⟩),(100009,⟨false,false,true,false,1,[],false,none⟩),(100010,⟨false,false,true,false,1,[.str [97]],false,none⟩),(100011,⟨false,false,true,false,1,[],false,none⟩),(100012,⟨false,false,true,false,1,[],false,none⟩),(100013,⟨false,false,true,false,1,[],false,none⟩),(100014,⟨false,false,true,false,1,[],false,none⟩),(100015,⟨false,false,true,false,1,[],false,none⟩)],iv 10,[(100000,⟨false,false,false,false,0,[.own 100001 0 7,iv 4,iv 0,iv 2,.own 100002 0 2,.own 100003 0 0,.own 100004 0 0,.own 100005 0 0,.own 100006 0 0,.own 100007 0 0,.own 100008 0 0,.bool true,.own 100009 0 0,.own 100010 0 1,.own 100011 0 0,.own 100012 0 0,.own 100013 0 0,.own 100014 0 0,.own 100015 0 0],false,none⟩),(100001,⟨false,false,true,false,1,[.str [98,117,115],.str [97],.str [100,101,109,97,110,100],.str [49,48,77,87],.str [48,46,48,50,71,87],.str [115,104,101,100],.str [48]],false,none⟩),(100002,⟨false,false,true,false,1,[iv 0,iv 0],false,none⟩),(100003,⟨false,false,true,false,3,[],false,none⟩),(100004,⟨false,false,true,false,12,[],false,none⟩),(100005,⟨false,false,true,false,22,[],false,none⟩),(100006,⟨false,false,true,false,9,[],false,none⟩),(100007,⟨false,false,true,false,5,[],false,none⟩),(100008,⟨false,false,true,false,4,[],false,none⟩),(100009,⟨false,false,true,false,1,[],false,none⟩),(100010,⟨false,false,true,false,1,[.str [97]],false,none⟩),(100011,⟨false,false,true,false,1,[],false,none⟩),(100012,⟨false,false,true,false,1,[],false,none⟩),(100013,⟨false,false,true,false,1,[],false,none⟩),(100014,⟨false,false,true,false,1,[],false,none⟩),(100015,⟨false,false,true,false,1,[],false,none⟩)]⟩
theorem Abk:D9 Tryz.prog zU:=Gl follows (muts:=muts) (N:=1000000) (l:=[zP,zR,zT]) ⟨Abf,Abh,Abj,trivial⟩ (fs:=[(23,mo),(25,mq),(56,mt),(107,kG),(137,PY),(138,pq),(154,pw),(155,a6),(156,tH),(157,tI),(172,S4),(176,BZ),(197,P4),(205,S5),(212,L8),(225,S6)]) 7 (by kernel_rfl)
def zV:Pt:=⟨21,[.str [48,46,48,50],.str [47]],[],.tup [.str [48,46,48,50],.str [],.bool false],[]⟩
theorem Abl:D9 Tryz.prog zV:=MD (by kernel_rfl) (by kernel_rfl)
def zW:Pt:=⟨21,[.str [48,46,48,50],.str [46]],[],.tup [.str [48],.str [48,50],.bool true],[]⟩
theorem Abm:D9 Tryz.prog zW:=MD (by kernel_rfl) (by kernel_rfl)
def zX:Pt:=⟨211,[.str [48],iv 2],[],.str [48,48],[]⟩
theorem Abn:D9 Tryz.prog zX:=uT (by kernel_rfl) (by kernel_rfl)
def zY:Pt:=⟨166,[.str [48,48,50]],[],.tup [iv 2,.undef],[]⟩
theorem Abo:D9 Tryz.prog zY:=NN (by kernel_rfl) (by kernel_rfl)
def zZ:Pt:=⟨149,[.str [48,48,50]],[],.pagg [.bool false,.imm [.int .u32 2] 1 1 false false] false,[]⟩
theorem Abp:D9 Tryz.prog zZ:=Gl follows (muts:=muts) (N:=1000000) (l:=[yU,zY]) ⟨yh,Abo,trivial⟩ (fs:=[(149,ME),(162,MF),(164,W9),(165,gq),(166,kH),(167,kI),(168,gr),(185,gt),(194,MG),(196,Xa),(197,P4),(200,kJ),(212,L8),(219,MH)]) 5 (by kernel_rfl)
def z6:Pt:=⟨166,[.str [49,48,48]],[],.tup [iv 100,.undef],[]⟩
theorem Abq:D9 Tryz.prog z6:=NN (by kernel_rfl) (by kernel_rfl)
def z7:Pt:=⟨149,[.str [49,48,48]],[],.pagg [.bool false,.imm [.int .u32 100] 1 1 false false] false,[]⟩
theorem Abr:D9 Tryz.prog z7:=Gl follows (muts:=muts) (N:=1000000) (l:=[yU,z6]) ⟨yh,Abq,trivial⟩ (fs:=[(149,ME),(162,MF),(164,W9),(165,gq),(166,kH),(167,kI),(168,gr),(185,gt),(194,MG),(196,Xa),(197,P4),(200,kJ),(212,L8),(219,MH)]) 5 (by kernel_rfl)
def z8:Pt:=⟨155,[.str [48,46,48,50]],[],.tup [.pagg [.bool false,.imm [.int .u32 1] 1 1 false false,.imm [.int .u32 50] 1 1 false false] false,iv 0],[]⟩
theorem Abs:D9 Tryz.prog z8:=Gl follows (muts:=muts) (N:=1000000) (l:=[zV,zW,zX,zZ,z7]) ⟨Abl,Abm,Abn,Abp,Abr,trivial⟩ (fs:=[(21,xF),(147,pt),(148,pu),(149,ME),(153,PZ),(155,a6),(162,MF),(163,qA),(172,S4),(176,BZ),(178,wK),(179,qD),(194,MG),(195,qE),(197,P4),(203,B_),(205,S5),(207,B'),(211,zI),(212,L8),(219,MH),(225,S6)]) 7 (by kernel_rfl)
def z_:Pt:=⟨184,[.pagg [iv 1000,iv 1] false],[],.pagg [.bool false,.imm [.int .u32 1000] 1 1 false false,.imm [.int .u32 1] 1 1 false false] false,[]⟩
theorem Abt:D9 Tryz.prog z_:=Gl follows (muts:=muts) (N:=1000000) (l:=[]) trivial (fs:=[(153,PZ),(164,W9),(172,S4),(176,BZ),(179,qD),(184,tK),(196,Xa),(197,P4),(203,B_),(205,S5),(207,B'),(212,L8),(225,S6)]) 7 (by kernel_rfl)
def za:Pt:=⟨156,[.str [71,87]],[],.tup [.pagg [.bool false,.imm [.int .u32 1000] 1 1 false false,.imm [.int .u32 1] 1 1 false false] false,.pagg [iv 1,iv 0,iv 0,iv 0] false,iv 0],[]⟩
theorem Abu:D9 Tryz.prog za:=Gl follows (muts:=muts) (N:=1000000) (l:=[z_]) ⟨Abt,trivial⟩ (fs:=[(150,gp),(156,tH),(157,tI),(164,W9),(172,S4),(176,BZ),(180,xk),(181,xl),(183,xm),(184,tK),(196,Xa),(197,P4),(205,S5),(212,L8),(225,S6)]) 6 (by kernel_rfl)
def zb:Pt:=⟨151,[.pagg [.bool false,.imm [.int .u32 20] 1 1 false false,.imm [.int .u32 1] 1 1 false false] false,.pagg [.bool false,.imm [.int .u32 1073741824] 1 1 false false,.imm [.int .u32 1] 1 1 false false] false],[],iv (-1),[]⟩
theorem Abv:D9 Tryz.prog zb:=Gl follows (muts:=muts) (N:=1000000) (l:=[]) trivial (fs:=[(151,VB),(170,VC),(172,S4),(173,tJ),(174,VD),(203,B_),(205,S5),(206,tL),(207,B'),(212,L8),(225,S6)]) 6 (by kernel_rfl)
def zc:Pt:=⟨137,[.pagg [.bool false,.imm [.int .u32 20] 1 1 false false,.imm [.int .u32 1] 1 1 false false] false],[],.tup [iv 20,.bool true],[]⟩
theorem Abw:D9 Tryz.prog zc:=Gl follows (muts:=muts) (N:=1000000) (l:=[zb]) ⟨Abv,trivial⟩ (fs:=[(137,PY),(150,gp),(151,VB),(152,pv),(153,PZ),(164,W9),(169,qB),(170,VC),(171,qC),(172,S4),(174,VD),(176,BZ),(196,Xa),(197,P4),(202,qF),(203,B_),(204,qG),(205,S5),(207,B'),(212,L8),(225,S6)]) 7 (by kernel_rfl)
def zd:Pt:=⟨107,[.optr 100000 0,.pagg [iv 1,iv 0,iv 0,iv 0] false],[(100000,⟨false,false,false,false,0,[.own 100001 0 7,iv 4,iv 0,iv 2,.own 100002 0 2,.own 100003 0 0,.own 100004 0 0,.own 100005 0 0,.own 100006 0 0,.own 100007 0 0,.own 100008 0 0,.bool true,.own 100009 0 0,.own 100010 0 1,.own 100011 0 0,.own 100012 0 0,.own 100013 0 0,.own 100014 0 0,.own 100015 0 0],false,none⟩),(100001,⟨false,false,true,false,1,[.str [98,117,115],.str [97],.str [100,101,109,97,110,100],.str [49,48,77,87],.str [48,46,48,50,71,87],.str [115,104,101,100],.str [48]],false,none⟩),(100002,⟨false,false,true,false,1,[iv 0,iv 0],false,none⟩),(100003,⟨false,false,true,false,3,[],false,none⟩),(100004,⟨false,false,true,false,12,[],false,none⟩),(100005,⟨false,false,true,false,22,[],false,none⟩),(100006,⟨false,false,true,false,9,[],false,none⟩),(100007,⟨false,false,true,false,5,[],false,none⟩),(100008,⟨false,false,true,false,4,[],false,none⟩),(100009,⟨false,false,true,false,1,[],false,none⟩),(100010,⟨false,false,true,false,1,[.str [97]],false,none⟩),(100011,⟨false,false,true,false,1,[],false,none⟩),(100012,⟨false,false,true,false,1,[],false,none⟩),(100013,⟨false,false,true,false,1,[],false,none⟩),(100014,⟨false,false,true,false,1,[],false,none⟩),(100015,⟨false,false,true,false,1,[],false,none⟩)],iv 20,[(100000,⟨false,false,false,false,0,[.own 100001 0 7,iv 5,iv 0,iv 2,.own 100002 0 2,.own 100003 0 0,.own 100004 0 0,.own 100005 0 0,.own 100006 0 0,.own 100007 0 0,.own 100008 0 0,.bool true,.own 100009 0 0,.own 100010 0 1,.own 100011 0 0,.own 100012 0 0,.own 100013 0 0,.own 100014 0 0,.own 100015 0 0],false,none⟩),(100001,⟨false,false,true,false,1,[.str [98,117,115],.str [97],.str [100,101,109,97,110,100],.str [49,48,77,87],.str [48,46,48,50,71,87],.str [115,104,101,100],.str [48]],false,none⟩),(100002,⟨false,false,true,false,1,[iv 0,iv 0],false,none⟩),(100003,⟨false,false,true,false,3,[],false,none⟩),(100004,⟨false,false,true,false,12,[],false,none⟩),(100005,⟨false,false,true,false,22,[],false,none⟩),(100006,⟨false,false,true,false,9,[],false,none⟩),(100007,⟨false,false,true,false,5,[],false,none⟩),(100008,⟨false,false,true,false,4,[],false,none⟩),(100009,⟨false,false,true,false,1,[],false,none⟩),(100010,⟨false,false,true,false,1,[.str [97]],false,none⟩),(100011,⟨false,false,true,false,1,[],false,none⟩),(100012,⟨false,false,true,false,1,[],false,none⟩),(100013,⟨false,false,true,false,1,[],false,none⟩),(100014,⟨false,false,true,false,1,[],false,none⟩),(100015,⟨false,false,true,false,1,[],false,none⟩)]⟩
theorem Abx:D9 Tryz.prog zd:=Gl follows (muts:=muts) (N:=1000000) (l:=[z8,za,zc]) ⟨Abs,Abu,Abw,trivial⟩ (fs:=[(23,mo),(25,mq),(56,mt),(107,kG),(137,PY),(138,pq),(154,pw),(155,a6),(156,tH),(157,tI),(172,S4),(176,BZ),(197,P4),(205,S5),(212,L8),(225,S6)]) 7 (by kernel_rfl)
def ze:Pt:=⟨62,[.optr 100000 0],[(100000,⟨false,false,false,false,0,[.own 100001 0 7,iv 1,iv 0,iv 2,.own 100002 0 2,.own 100003 0 0,.own 100004 0 0,.own 100005 0 0,.own 100006 0 0,.own 100007 0 0,.own 100008 0 0,.bool true,.own 100009 0 0,.own 100010 0 0,.own 100011 0 0,.own 100012 0 0,.own 100013 0 0,.own 100014 0 0,.own 100015 0 0],false,none⟩),(100001,⟨false,false,true,false,1,[.str [98,117,115],.str [97],.str [100,101,109,97,110,100],.str [49,48,77,87],.str [48,46,48,50,71,87],.str [115,104,101,100],.str [48]],false,none⟩),(100002,⟨false,false,true,false,1,[iv 0,iv 0],false,none⟩),(100003,⟨false,false,true,false,3,[],false,none⟩),(100004,⟨false,false,true,false,12,[],false,none⟩),(100005,⟨false,false,true,false,22,[],false,none⟩),(100006,⟨false,false,true,false,9,[],false,none⟩),(100007,⟨false,false,true,false,5,[],false,none⟩),(100008,⟨false,false,true,false,4,[],false,none⟩),(100009,⟨false,false,true,false,1,[],false,none⟩),(100010,⟨false,false,true,false,1,[],false,none⟩),(100011,⟨false,false,true,false,1,[],false,none⟩),(100012,⟨false,false,true,false,1,[],false,none⟩),(100013,⟨false,false,true,false,1,[],false,none⟩),(100014,⟨false,false,true,false,1,[],false,none⟩),(100015,⟨false,false,true,false,1,[],false,none⟩)],.tup [],[(100000,⟨false,false,false,false,0,[.own 300000 0 7,iv 7,iv 0,iv 2,.own 300001 0 2,.own 300002 0 1,.own 300003 0 0,.own 300004 0 0,.own 300005 0 0,.own 300006 0 0,.own 300007 0 0,.bool true,.own 300008 0 0,.own 300009 0 1,.own 300010 0 0,.own 300011 0 0,.own 300012 0 0,.own 300013 0 0,.own 300014 0 0],false,none⟩),(300000,⟨false,false,true,false,1,[.str [98,117,115],.str [97],.str [100,101,109,97,110,100],.str [49,48,77,87],.str [48,46,48,50,71,87],.str [115,104,101,100],.str [48]],false,none⟩),(300001,⟨false,false,true,false,1,[iv 0,iv 0],false,none⟩),(300002,⟨false,false,true,false,3,[.str [97],.imm [iv 10,iv 20] 2 1 false false,iv 0],false,none⟩),(300003,⟨false,false,true,false,12,[],false,none⟩),(300004,⟨false,false,true,false,22,[],false,none⟩),(300005,⟨false,false,true,false,9,[],false,none⟩),(300006,⟨false,false,true,false,5,[],false,none⟩),(300007,⟨false,false,true,false,4,[],false,none⟩),(300008,⟨false,false,true,false,1,[],false,none⟩),(300009,⟨false,false,true,false,1,[.str [97]],false,none⟩),(300010,⟨false,false,true,false,1,[],false,none⟩),(300011,⟨false,false,true,false,1,[],false,none⟩),(300012,⟨false,false,true,false,1,[],false,none⟩),(300013,⟨false,false,true,false,1,[],false,none⟩),(300014,⟨false,false,true,false,1,[],false,none⟩)]⟩
theorem Aby:D9 Tryz.prog ze:=Gl follows (muts:=muts) (N:=1000000) (l:=[xK,xL,zU,zd]) ⟨yW,yX,Abk,Abx,trivial⟩ (fs:=[(23,mo),(25,mq),(56,mt),(59,xG),(60,yT),(61,xH),(62,yz),(86,zB),(87,zC),(107,kG),(108,xg),(109,zD),(128,xh),(137,PY),(138,pq),(139,xj),(154,pw),(155,a6)]) 7 (by kernel_rfl)
def zf:Pt:=⟨21,[.str [],.str [10]],[],.tup [.str [],.str [],.bool false],[]⟩
theorem Abz:D9 Tryz.prog zf:=MD (by kernel_rfl) (by kernel_rfl)
def zg:Pt:=⟨105,[.str [],.int .u8 35],[],iv (-1),[]⟩
theorem Ab0:D9 Tryz.prog zg:=EY (by kernel_rfl) (by kernel_rfl)
def zh:Pt:=⟨11,[.str [99,97,115,101,32,50,32,114,101,115,101,114,118,101,32,48,32,48,10,98,117,115,32,97,32,100,101,109,97,110,100,32,49,48,77,87,32,48,46,48,50,71,87,32,115,104,101,100,32,48,10]],[],.tup [.pagg [iv 2,.imm [iv 0,iv 0] 2 1 false false,.imm [.str [97],.imm [iv 10,iv 20] 2 1 false false,iv 0] 1 3 false false,.imm [] 0 12 false false,.imm [] 0 22 false false,.imm [] 0 9 false false,.imm [] 0 5 false false,.imm [] 0 4 false false] false,iv 0,iv 0],[]⟩
theorem Ab1:D9 Tryz.prog zh:=Gl follows (muts:=muts) (N:=1000000) (l:=[Acu,Acv,zJ,zK,zL,zM,ze,zf,zg]) ⟨Adh,Adi,Aa9,Aba,Abb,Abc,Aby,Abz,Ab0,trivial⟩ (fs:=[(11,yQ),(21,xF),(22,yR),(23,mo),(24,wG),(25,mq),(53,yS),(54,wH),(55,wI),(56,mt),(62,yz),(68,xI),(105,wJ)]) 6 (by kernel_rfl)
def zi:Pt:=⟨21,[.str [99,97,115,101,32,49,32,114,101,115,101,114,118,101,32,48,10,108,105,110,101,32,108,32,97,32,98,32,120,32,49,32,115,104,105,102,116,32,48,32,48,32,108,105,109,105,116,32,49,32,49,32,97,119,97,121],.str [10]],[],.tup [.str [99,97,115,101,32,49,32,114,101,115,101,114,118,101,32,48],.str [108,105,110,101,32,108,32,97,32,98,32,120,32,49,32,115,104,105,102,116,32,48,32,48,32,108,105,109,105,116,32,49,32,49,32,97,119,97,121],.bool true],[]⟩
theorem Ab2:D9 Tryz.prog zi:=MD (by kernel_rfl) (by kernel_rfl)
def zj:Pt:=⟨105,[.str [99,97,115,101,32,49,32,114,101,115,101,114,118,101,32,48],.int .u8 35],[],iv (-1),[]⟩
theorem Ab3:D9 Tryz.prog zj:=EY (by kernel_rfl) (by kernel_rfl)
def zk:Pt:=⟨151,[.pagg [.bool false,.imm [.int .u32 1] 1 1 false false,.imm [.int .u32 1] 1 1 false false] false,.pagg [.bool false,.imm [.int .u32 1073741824] 1 1 false false,.imm [.int .u32 1] 1 1 false false] false],[],iv (-1),[]⟩
theorem Ab4:D9 Tryz.prog zk:=Gl follows (muts:=muts) (N:=1000000) (l:=[]) trivial (fs:=[(151,VB),(170,VC),(172,S4),(173,tJ),(174,VD),(203,B_),(205,S5),(206,tL),(207,B'),(212,L8),(225,S6)]) 6 (by kernel_rfl)
def zl:Pt:=⟨137,[.pagg [.bool false,.imm [.int .u32 1] 1 1 false false,.imm [.int .u32 1] 1 1 false false] false],[],.tup [iv 1,.bool true],[]⟩
theorem Ab5:D9 Tryz.prog zl:=Gl follows (muts:=muts) (N:=1000000) (l:=[zk]) ⟨Ab4,trivial⟩ (fs:=[(137,PY),(150,gp),(151,VB),(152,pv),(153,PZ),(164,W9),(169,qB),(170,VC),(171,qC),(172,S4),(174,VD),(176,BZ),(196,Xa),(197,P4),(202,qF),(203,B_),(204,qG),(205,S5),(207,B'),(212,L8),(225,S6)]) 7 (by kernel_rfl)
def zm:Pt:=⟨24,[.optr 100000 0],[(100000,⟨false,false,false,false,0,[.own 100001 0 4,iv 0,iv 0,iv 0,.own 100002 0 0,.own 100003 0 0,.own 100004 0 0,.own 100005 0 0,.own 100006 0 0,.own 100007 0 0,.own 100008 0 0,.bool false,.own 100009 0 0,.own 100010 0 0,.own 100011 0 0,.own 100012 0 0,.own 100013 0 0,.own 100014 0 0,.own 100015 0 0],false,none⟩),(100001,⟨false,false,true,false,1,[.str [99,97,115,101],.str [49],.str [114,101,115,101,114,118,101],.str [48]],false,none⟩),(100002,⟨false,false,true,false,1,[],false,none⟩),(100003,⟨false,false,true,false,3,[],false,none⟩),(100004,⟨false,false,true,false,12,[],false,none⟩),(100005,⟨false,false,true,false,22,[],false,none⟩),(100006,⟨false,false,true,false,9,[],false,none⟩),(100007,⟨false,false,true,false,5,[],false,none⟩),(100008,⟨false,false,true,false,4,[],false,none⟩),(100009,⟨false,false,true,false,1,[],false,none⟩),(100010,⟨false,false,true,false,1,[],false,none⟩),(100011,⟨false,false,true,false,1,[],false,none⟩),(100012,⟨false,false,true,false,1,[],false,none⟩),(100013,⟨false,false,true,false,1,[],false,none⟩),(100014,⟨false,false,true,false,1,[],false,none⟩),(100015,⟨false,false,true,false,1,[],false,none⟩)],.tup [],[(100000,⟨false,false,false,false,0,[.own 300000 0 4,iv 4,iv 0,iv 1,.own 300015 0 1,.own 300002 0 0,.own 300003 0 0,.own 300004 0 0,.own 300005 0 0,.own 300006 0 0,.own 300007 0 0,.bool true,.own 300008 0 0,.own 300009 0 0,.own 300010 0 0,.own 300011 0 0,.own 300012 0 0,.own 300013 0 0,.own 300014 0 0],false,none⟩),(300000,⟨false,false,true,false,1,[.str [99,97,115,101],.str [49],.str [114,101,115,101,114,118,101],.str [48]],false,none⟩),(300001,⟨false,false,true,false,1,[],false,none⟩),(300002,⟨false,false,true,false,3,[],false,none⟩),(300003,⟨false,false,true,false,12,[],false,none⟩),(300004,⟨false,false,true,false,22,[],false,none⟩),(300005,⟨false,false,true,false,9,[],false,none⟩),(300006,⟨false,false,true,false,5,[],false,none⟩),(300007,⟨false,false,true,false,4,[],false,none⟩),(300008,⟨false,false,true,false,1,[],false,none⟩),(300009,⟨false,false,true,false,1,[],false,none⟩),(300010,⟨false,false,true,false,1,[],false,none⟩),(300011,⟨false,false,true,false,1,[],false,none⟩),(300012,⟨false,false,true,false,1,[],false,none⟩),(300013,⟨false,false,true,false,1,[],false,none⟩),(300014,⟨false,false,true,false,1,[],false,none⟩),(300015,⟨false,false,true,false,1,[iv 0],false,none⟩)]⟩
theorem Ab6:D9 Tryz.prog zm:=Gl follows (muts:=muts) (N:=1000000) (l:=[xJ,xK,xL,zl]) ⟨yV,yW,yX,Ab5,trivial⟩ (fs:=[(23,mo),(24,wG),(25,mq),(56,mt),(58,yy),(59,xG),(60,yT),(61,xH),(68,xI),(106,xf),(107,kG),(136,xi),(137,PY),(138,pq),(147,pt),(148,pu),(149,ME),(154,pw),(155,a6),(162,MF),(163,qA),(194,MG),(195,qE),(219,MH)]) 9 (by kernel_rfl)
def zn:Pt:=⟨21,[.str [108,105,110,101,32,108,32,97,32,98,32,120,32,49,32,115,104,105,102,116,32,48,32,48,32,108,105,109,105,116,32,49,32,49,32,97,119,97,121],.str [10]],[],.tup [.str [108,105,110,101,32,108,32,97,32,98,32,120,32,49,32,115,104,105,102,116,32,48,32,48,32,108,105,109,105,116,32,49,32,49,32,97,119,97,121],.str [],.bool false],[]⟩
theorem Ab7:D9 Tryz.prog zn:=MD (by kernel_rfl) (by kernel_rfl)
def zo:Pt:=⟨105,[.str [108,105,110,101,32,108,32,97,32,98,32,120,32,49,32,115,104,105,102,116,32,48,32,48,32,108,105,109,105,116,32,49,32,49,32,97,119,97,121],.int .u8 35],[],iv (-1),[]⟩
theorem Ab8:D9 Tryz.prog zo:=EY (by kernel_rfl) (by kernel_rfl)
def zp:Pt:=⟨54,[.str [108,105,110,101,32,108,32,97,32,98,32,120,32,49,32,115,104,105,102,116,32,48,32,48,32,108,105,109,105,116,32,49,32,49,32,97,119,97,121],.fn 55 []],[],.own 300000 0 13,[(300000,⟨false,false,true,false,1,[.str [108,105,110,101],.str [108],.str [97],.str [98],.str [120],.str [49],.str [115,104,105,102,116],.str [48],.str [48],.str [108,105,109,105,116],.str [49],.str [49],.str [97,119,97,121]],false,none⟩)]⟩
theorem Ab9:D9 Tryz.prog zp:=Gl follows (muts:=muts) (N:=1000000) (l:=[]) trivial (fs:=[(54,wH),(55,wI)]) 3 (by kernel_rfl)
def zq:Pt:=⟨63,[.optr 100000 0],[(100000,⟨false,false,false,false,0,[.own 100001 0 13,iv 1,iv 0,iv 1,.own 100002 0 1,.own 100003 0 0,.own 100004 0 0,.own 100005 0 0,.own 100006 0 0,.own 100007 0 0,.own 100008 0 0,.bool true,.own 100009 0 0,.own 100010 0 0,.own 100011 0 0,.own 100012 0 0,.own 100013 0 0,.own 100014 0 0,.own 100015 0 0],false,none⟩),(100001,⟨false,false,true,false,1,[.str [108,105,110,101],.str [108],.str [97],.str [98],.str [120],.str [49],.str [115,104,105,102,116],.str [48],.str [48],.str [108,105,109,105,116],.str [49],.str [49],.str [97,119,97,121]],false,none⟩),(100002,⟨false,false,true,false,1,[iv 0],false,none⟩),(100003,⟨false,false,true,false,3,[],false,none⟩),(100004,⟨false,false,true,false,12,[],false,none⟩),(100005,⟨false,false,true,false,22,[],false,none⟩),(100006,⟨false,false,true,false,9,[],false,none⟩),(100007,⟨false,false,true,false,5,[],false,none⟩),(100008,⟨false,false,true,false,4,[],false,none⟩),(100009,⟨false,false,true,false,1,[],false,none⟩),(100010,⟨false,false,true,false,1,[],false,none⟩),(100011,⟨false,false,true,false,1,[],false,none⟩),(100012,⟨false,false,true,false,1,[],false,none⟩),(100013,⟨false,false,true,false,1,[],false,none⟩),(100014,⟨false,false,true,false,1,[],false,none⟩),(100015,⟨false,false,true,false,1,[],false,none⟩)],.tup [],[(100000,⟨false,false,false,false,0,[.own 300000 0 13,iv 3,iv 12,iv 1,.own 300001 0 1,.own 300002 0 0,.own 300003 0 1,.own 300004 0 0,.own 300005 0 0,.own 300006 0 0,.own 300007 0 0,.bool true,.own 300008 0 0,.own 300009 0 0,.own 300010 0 1,.own 300011 0 0,.own 300012 0 0,.own 300013 0 0,.own 300014 0 0],false,none⟩),(300000,⟨false,false,true,false,1,[.str [108,105,110,101],.str [108],.str [97],.str [98],.str [120],.str [49],.str [115,104,105,102,116],.str [48],.str [48],.str [108,105,109,105,116],.str [49],.str [49],.str [97,119,97,121]],false,none⟩),(300001,⟨false,false,true,false,1,[iv 0],false,none⟩),(300002,⟨false,false,true,false,3,[],false,none⟩),(300003,⟨false,false,true,false,12,[.str [108],iv 0,iv 0,iv 0,iv 0,iv 0,iv 0,iv 0,iv 0,iv 0,iv 0,.imm [] 0 1 false false],false,none⟩),(300004,⟨false,false,true,false,22,[],false,none⟩),(300005,⟨false,false,true,false,9,[],false,none⟩),(300006,⟨false,false,true,false,5,[],false,none⟩),(300007,⟨false,false,true,false,4,[],false,none⟩),(300008,⟨false,false,true,false,1,[],false,none⟩),(300009,⟨false,false,true,false,1,[],false,none⟩),(300010,⟨false,false,true,false,1,[.str [108]],false,none⟩),(300011,⟨false,false,true,false,1,[],false,none⟩),(300012,⟨false,false,true,false,1,[],false,none⟩),(300013,⟨false,false,true,false,1,[],false,none⟩),(300014,⟨false,false,true,false,1,[],false,none⟩)]⟩
theorem Aca:D9 Tryz.prog zq:=Gl follows (muts:=muts) (N:=1000000) (l:=[]) trivial (fs:=[(23,mo),(25,mq),(56,mt),(57,yx),(59,xG),(61,xH),(63,zA),(86,zB),(87,zC),(107,kG),(108,xg),(110,zE),(111,zF),(112,zG),(113,zH),(128,xh),(139,xj)]) 7 (by kernel_rfl)
def zr:Pt:=⟨11,[.str [99,97,115,101,32,49,32,114,101,115,101,114,118,101,32,48,10,108,105,110,101,32,108,32,97,32,98,32,120,32,49,32,115,104,105,102,116,32,48,32,48,32,108,105,109,105,116,32,49,32,49,32,97,119,97,121]],[],.tup [.pagg [iv 0,.nsl,.nsl,.nsl,.nsl,.nsl,.nsl,.nsl] false,iv 2,iv 12],[]⟩
theorem Acb:D9 Tryz.prog zr:=Gl follows (muts:=muts) (N:=1000000) (l:=[zi,zj,zm,zn,zo,zp,zq]) ⟨Ab2,Ab3,Ab6,Ab7,Ab8,Ab9,Aca,trivial⟩ (fs:=[(11,yQ),(21,xF),(22,yR),(23,mo),(24,wG),(25,mq),(53,yS),(54,wH),(55,wI),(56,mt),(63,zA),(68,xI),(105,wJ)]) 6 (by kernel_rfl)
def zt:Pt:=⟨21,[.str [98,117,115,32,97],.str [10]],[],.tup [.str [98,117,115,32,97],.str [],.bool false],[]⟩
theorem Acc:D9 Tryz.prog zt:=MD (by kernel_rfl) (by kernel_rfl)
def zu:Pt:=⟨105,[.str [98,117,115,32,97],.int .u8 35],[],iv (-1),[]⟩
theorem Acd:D9 Tryz.prog zu:=EY (by kernel_rfl) (by kernel_rfl)
def Ace:Pt:=⟨10,[],[],.bool true,[]⟩
theorem Acf:D9 Tryz.prog Ace:=Gl follows (muts:=muts) (N:=1000000) (l:=[zh,zr,zt,zu]) ⟨Ab1,Acb,Acc,Acd,trivial⟩ (fs:=[(10,Aa7),(11,yQ),(20,Aa8),(21,xF),(22,yR),(23,mo),(24,wG),(25,mq),(53,yS),(54,wH),(55,wI),(56,mt),(57,yx),(105,wJ)]) 7 (by kernel_rfl)
theorem XX:th Tryz.prog 10 [] [] (.bool true) []:=Acf
end Gx
namespace Gx
open Go Go.Proofs
noncomputable section
variable {R:Type} (N:Nat)
def HM (_N:Nat) (r0:Bool→O R):O R:=r0 true
def Ra:=(At (@HM R)).1
theorem L9:@Ra R=@HM R:=(At _).2
def jM:Bd Tryz.prog:=⟨10,fun
 | [],[]=>some fun _ k=>Ra N fun b=>k (.bool b) []
 | _,_=>none,(fun a h g e R k=>by
  split at e
  ·cases e;dsimp only;rw[L9,L9];rfl
  ·cases e),(fun a h g res h' e hh=>by
  split at e
  ·cases e;dsimp only at hh;rw[L9] at hh;cases hh;exact XX
  ·cases e)⟩
end
end Gx
namespace Gx
open Go Go.Proofs
set_option maxRecDepth 100000
noncomputable section
variable {R:Type} (N:Nat)
def G2 (r0:Lu→Bool→O R) (d:Bool) (c:LA) (f:Bool) (a:LA) (b:Bool) (k1:Int→Lu→Bool→O R) (g:Int) (l:Lu) (m:Bool):O R :=
 (A6 3 (a.drop 3) fun aq q=>cond (decide (g<(q:Int))) (A6 22 (c.drop 4) fun r s=>A6 3 (a.drop 3) fun t u=>cond (Aj g u) (Av .i64 (t.drop ((g.toNat)*3)) fun o=>cond (Aj o s) (Hz (r.drop ((o.toNat)*22)) fun v=>Am N [(.str v)] 1 false true l m fun w=>A6 3 (a.drop 3) fun x y=>cond (Aj g y) (Av .i64 ((x.drop ((g.toNat)*3)).drop 1) fun z=>A6 3 (a.drop 3) fun aa ab=>cond (Aj g ab) (Av .i64 ((aa.drop ((g.toNat)*3)).drop 2) fun ac=>Ai N [(.int .i64 z),(.int .i64 ac)] 2 false true w m fun ad ae=>k1 (wrap .i64 (g+1)) ad ae) none) none) none) none) (cond (ble ((l.length)+1) 140737488355328) (r0 (l++([10]:Lu)) m) none))
def Dt (r0:Lu→Bool→O R) (d:Bool) (c:LA) (f:Bool) (a:LA) (b:Bool):Nat→Int→Lu→Bool→O R
 | 0,_,_,_=>none
 | n+1,g,l,m=>G2 N r0 d c f a b (Dt r0 d c f a b n) g l m
def G3 (r0:Lu→Bool→O R) (b d:Bool) (c:LA) (f:Bool) (a:LA) (k0:Int→Lu→O R) (q1:Int→Lu→Bool→O R) (i:Int) (j:Lu):O R :=
 (A6 1 (a.drop 1) fun ar af=>cond (decide (i<(af:Int))) (A6 12 (c.drop 3) fun ag ah=>A6 1 (a.drop 1) fun ai aj=>cond (Aj i aj) (Av .i64 (ai.drop ((i.toNat)*1)) fun p=>cond (Aj p ah) (Hz (ag.drop ((p.toNat)*12)) fun ak=>Am N [(.str ak)] 1 false true j b fun al=>k0 (wrap .i64 (i+1)) al) none) none) (qS (a.drop 2) fun am=>cond am (Am N [(.str ([99,111,114,114,101,99,116,105,118,101]:Lu))] 1 false true j b fun an=>q1 0 an b) (cond (ble ((j.length)+1) 140737488355328) (r0 (j++([10]:Lu)) b) none)))
def C0 (r0:Lu→Bool→O R) (b d:Bool) (c:LA) (f:Bool) (a:LA):Nat→Int→Lu→O R
 | 0,_,_=>none
 | n+1,i,j=>G3 N r0 b d c f a (C0 r0 b d c f a n) (Dt N r0 d c f a b N) i j
def J4 (r0:Lu→Bool→O R) (q0:Int→Lu→O R) (c:LA) (d:Bool) (a:LA) (f:Bool) (h:Lu) (b:Bool):O R :=
 (cond (ble ((h.length)+6) 140737488355328) (Hz a fun ao=>Am N [(.str ao),(.str ([108,105,110,101,115]:Lu))] 2 false true (h++([111,117,116,97,103,101]:Lu)) b fun ap=>q0 0 ap) none)
def Hu:=(At fun N c d a f h b r0=>J4 (R:=R) N r0 (C0 N r0 b d c f a N) c d a f h b).1
theorem Sk (c d a f h b r0):(@Hu R N c d a f h b r0)=(J4 N r0 (C0 N r0 b d c f a N) c d a f h b):=by rw[Hu,(At _).2]
def S7:Hints:={ H:=(hK 3 (hS (hK 1 (hS (hP [0,4,5,6] hL) hL)) (hS (hK 1 (hS (hK 2 (hS (hP [0,4,5,7] hL) hL)) hL)) hL))) }
def V7:EZ:=[M5 N,Iu N]
def S8 (F:KF R):=Tj Tryz.f103 S7 (V7 N) [100000] N F
def JI (d:Bool) (c:LA) (f:Bool) (a:LA) (b:Bool) (K:St→O R):=fun g l m=>K ⟨[(0,(.optr 100000 0)),(4,(op 0)),(5,(op 1)),(7,(iv g))],[(100000,(bN 0 [(.str l),(.bool m)])),(300000,(bP d 0 c)),(300001,(bP f 0 a))]⟩
def JJ (b d:Bool) (c:LA) (f:Bool) (a:LA) (K:St→O R):=fun i j=>K ⟨[(0,(.optr 100000 0)),(4,(op 0)),(5,(op 1)),(6,(iv i))],[(100000,(bN 0 [(.str j),(.bool b)])),(300000,(bP d 0 c)),(300001,(bP f 0 a))]⟩
theorem CV (F:KF R) (d c f a b):∀ n,JI d c f a b (Ao (S8 N F (pz 1397012) []) n)=(Dt N (Nf F) d c f a b n):=Ev fun n e=>(Ee (G2 N (Nf F) d c f a b) e:_)
theorem CW (F:KF R) (b d c f a):∀ n,JJ b d c f a (Ao (S8 N F (pz 5444) []) n)=(C0 N (Nf F) b d c f a n):=Ev fun n e=>(Sq (G3 N (Nf F) b d c f a) e ((lW ..).trans (CV ..)):_)
def MI:=Jl N 103 (V7 N) S7 (fun
 | [(.optr 100000 0),(.pagg c d),(.pagg a f)],[(100000,⟨false,false,false,false,0,[(.str h),(.bool b)],false,none⟩)]=>some fun _ k=>Hu N c d a f h b (Nf k)
 | _,_=>none) fun _ _=>by split;intro R F;exact(Ee (J4 N (Nf F) · _ _ _ _ _ _) ((lW ..).trans (CW ..)):_).trans (Sk ..).symm;trivial
def Ix (r0:Lu→Bool→O R) (h:LA) (m:Nat) (a:Bool) (b:LA) (k5:Int→Int→Lu→Bool→O R) (af u:Int) (ag:Lu) (ah:Bool):O R :=
 (cond (decide (u<af)) (cond (Aj u m) (cond (ble 4 ((h.drop ((u.toNat)*4)).length)) (cond ((beq 0 0)&&((beq (((h.drop ((u.toNat)*4)).take 4).length) 4)&&(beq 4 4))) (cond (ble 8 (b.length)) (cond (ble 4 (((h.drop ((u.toNat)*4)).take 4).length)) (Hu N (b.take 8) a (((h.drop ((u.toNat)*4)).take 4).take 4) a ag ah fun bg bh=>k5 af (wrap .i64 (u+1)) bg bh) none) none) none) none) none) (r0 ag ah))
def Er (r0:Lu→Bool→O R) (h:LA) (m:Nat) (a:Bool) (b:LA):Nat→Int→Int→Lu→Bool→O R
 | 0,_,_,_,_=>none
 | n+1,af,u,ag,ah=>Ix N r0 h m a b (Er r0 h m a b n) af u ag ah
def Iy (r0:Lu→Bool→O R) (d:LA) (o:Nat) (a:Bool) (b:LA) (k4:Int→Int→Lu→Bool→O R) (q5:LA→Nat→Int→Int→Lu→Bool→O R) (ai s:Int) (z:Lu) (aa:Bool):O R :=
 (cond (decide (s<ai)) (cond (Aj s o) (cond (ble 5 ((d.drop ((s.toNat)*5)).length)) (cond ((beq 0 0)&&((beq (((d.drop ((s.toNat)*5)).take 5).length) 5)&&(beq 5 5))) (cond (ble ((z.length)+3) 140737488355328) (Hz ((d.drop ((s.toNat)*5)).take 5) fun bi=>A6 3 (b.drop 2) fun bj bk=>Av .i64 (((d.drop ((s.toNat)*5)).take 5).drop 1) fun ar=>cond (Aj ar bk) (Hz (bj.drop ((ar.toNat)*3)) fun bl=>Am N [(.str bi),(.str bl),(.str ([105,109,112,111,114,116]:Lu))] 3 false true (z++([116,105,101]:Lu)) aa fun bm=>A6 1 (((d.drop ((s.toNat)*5)).take 5).drop 2) fun bn bo=>Ai N bn bo false a bm aa fun bp au=>Am N [(.str ([101,120,112,111,114,116]:Lu))] 1 false true bp au fun bq=>A6 1 (((d.drop ((s.toNat)*5)).take 5).drop 3) fun br bs=>Ai N br bs false a bq au fun bt av=>Am N [(.str ([112,114,105,99,101]:Lu))] 1 false true bt av fun bu=>A6 1 (((d.drop ((s.toNat)*5)).take 5).drop 4) fun bv bw=>Ai N bv bw false a bu av fun aw bx=>cond (ble ((aw.length)+1) 140737488355328) (k4 ai (wrap .i64 (s+1)) (aw++([10]:Lu)) bx) none) none) none) none) none) none) (A6 4 (b.drop 7) fun h m=>q5 h m (m:Int) 0 z aa))
def Dk (r0:Lu→Bool→O R) (d:LA) (o:Nat) (a:Bool) (b:LA):Nat→Int→Int→Lu→Bool→O R
 | 0,_,_,_,_=>none
 | n+1,ai,s,z,aa=>Iy N r0 d o a b (Dk r0 d o a b n) (fun h m=>Er N r0 h m a b N) ai s z aa
def Iz (r0:Lu→Bool→O R) (c:LA) (p:Nat) (a:Bool) (b:LA) (k3:Int→Int→Lu→Bool→O R) (q4:LA→Nat→Int→Int→Lu→Bool→O R) (aj g:Int) (ab:Lu) (ac:Bool):O R :=
 (cond (decide (g<aj)) (cond (Aj g p) (cond (ble 9 ((c.drop ((g.toNat)*9)).length)) (cond ((beq 0 0)&&((beq (((c.drop ((g.toNat)*9)).take 9).length) 9)&&(beq 9 9))) (cond (ble ((ab.length)+5) 140737488355328) (Hz ((c.drop ((g.toNat)*9)).take 9) fun bz=>A6 3 (b.drop 2) fun ca cb=>Av .i64 (((c.drop ((g.toNat)*9)).take 9).drop 1) fun ax=>cond (Aj ax cb) (Hz (ca.drop ((ax.toNat)*3)) fun cc=>Am N [(.str bz),(.str cc),(.str ([99,97,112,97,99,105,116,121]:Lu))] 3 false true (ab++([115,116,111,114,101]:Lu)) ac fun cd=>Av .i64 (((c.drop ((g.toNat)*9)).take 9).drop 2) fun ce=>Ai N [(.int .i64 ce)] 1 false true cd ac fun cf ay=>Am N [(.str ([108,101,118,101,108]:Lu))] 1 false true cf ay fun cg=>Av .i64 (((c.drop ((g.toNat)*9)).take 9).drop 3) fun ch=>Av .i64 (((c.drop ((g.toNat)*9)).take 9).drop 4) fun ci=>Ai N [(.int .i64 ch),(.int .i64 ci)] 2 false true cg ay fun cj az=>Am N [(.str ([114,97,116,101]:Lu))] 1 false true cj az fun ck=>Av .i64 (((c.drop ((g.toNat)*9)).take 9).drop 5) fun cl=>Av .i64 (((c.drop ((g.toNat)*9)).take 9).drop 6) fun cm=>Ai N [(.int .i64 cl),(.int .i64 cm)] 2 false true ck az fun cn ba=>Am N [(.str ([101,102,102,105,99,105,101,110,99,121]:Lu))] 1 false true cn ba fun co=>cond (ble 2 ((((c.drop ((g.toNat)*9)).take 9).drop 7).length)) (cond ((!a)||(Ax ((((c.drop ((g.toNat)*9)).take 9).drop 7).take 2))) (cond ((beq (((((c.drop ((g.toNat)*9)).take 9).drop 7).take 2).length) 2)&&(ble 2 2)) (Cv N ((setCells [(.int .i64 0),(.int .i64 0)] 0 ((((c.drop ((g.toNat)*9)).take 9).drop 7).take 2)).take 2) 1 false true co ba fun bb cp=>cond (ble ((bb.length)+1) 140737488355328) (k3 aj (wrap .i64 (g+1)) (bb++([10]:Lu)) cp) none) none) none) none) none) none) none) none) none) (A6 5 (b.drop 6) fun d o=>q4 d o (o:Int) 0 ab ac))
def Dl (r0:Lu→Bool→O R) (c:LA) (p:Nat) (a:Bool) (b:LA):Nat→Int→Int→Lu→Bool→O R
 | 0,_,_,_,_=>none
 | n+1,aj,g,ab,ac=>Iz N r0 c p a b (Dl r0 c p a b n) (fun d o=>Dk N r0 d o a b N) aj g ab ac
def I0 (r0:Lu→Bool→O R) (i:LA) (q:Nat) (a:Bool) (b:LA) (k2:Int→Int→Lu→Bool→O R) (q3:LA→Nat→Int→Int→Lu→Bool→O R) (ak v:Int) (al:Lu) (am:Bool):O R :=
 (cond (decide (v<ak)) (cond (Aj v q) (cond (ble 22 ((i.drop ((v.toNat)*22)).length)) (cond ((beq 0 0)&&((beq (((i.drop ((v.toNat)*22)).take 22).length) 22)&&(beq 22 22))) (cond (ble 8 (b.length)) (cond (ble 22 (((i.drop ((v.toNat)*22)).take 22).length)) (Ke N (b.take 8) a (((i.drop ((v.toNat)*22)).take 22).take 22) a al am fun cq cr=>k2 ak (wrap .i64 (v+1)) cq cr) none) none) none) none) none) (A6 9 (b.drop 5) fun c p=>q3 c p (p:Int) 0 al am))
def Es (r0:Lu→Bool→O R) (i:LA) (q:Nat) (a:Bool) (b:LA):Nat→Int→Int→Lu→Bool→O R
 | 0,_,_,_,_=>none
 | n+1,ak,v,al,am=>I0 N r0 i q a b (Es r0 i q a b n) (fun c p=>Dl N r0 c p a b N) ak v al am
def I3 (r0:Lu→Bool→O R) (j:LA) (r:Nat) (a:Bool) (b:LA) (k1:Int→Int→Lu→Bool→O R) (q2:LA→Nat→Int→Int→Lu→Bool→O R) (an w:Int) (ao:Lu) (ap:Bool):O R :=
 (cond (decide (w<an)) (cond (Aj w r) (cond (ble 12 ((j.drop ((w.toNat)*12)).length)) (cond ((beq 0 0)&&((beq (((j.drop ((w.toNat)*12)).take 12).length) 12)&&(beq 12 12))) (cond (ble 8 (b.length)) (cond (ble 12 (((j.drop ((w.toNat)*12)).take 12).length)) (O5 N (b.take 8) a (((j.drop ((w.toNat)*12)).take 12).take 12) a ao ap fun cs ct=>k1 an (wrap .i64 (w+1)) cs ct) none) none) none) none) none) (A6 22 (b.drop 4) fun i q=>q2 i q (q:Int) 0 ao ap))
def Et (r0:Lu→Bool→O R) (j:LA) (r:Nat) (a:Bool) (b:LA):Nat→Int→Int→Lu→Bool→O R
 | 0,_,_,_,_=>none
 | n+1,an,w,ao,ap=>I3 N r0 j r a b (Et r0 j r a b n) (fun i q=>Es N r0 i q a b N) an w ao ap
def I4 (r0:Lu→Bool→O R) (f:LA) (l:Nat) (a:Bool) (b:LA) (k0:Int→Int→Lu→Bool→O R) (q1:LA→Nat→Int→Int→Lu→Bool→O R) (aq t:Int) (ad:Lu) (ae:Bool):O R :=
 (cond (decide (t<aq)) (cond (Aj t l) (cond (ble 3 ((f.drop ((t.toNat)*3)).length)) (cond ((beq 0 0)&&((beq (((f.drop ((t.toNat)*3)).take 3).length) 3)&&(beq 3 3))) (cond (ble ((ad.length)+3) 140737488355328) (Hz ((f.drop ((t.toNat)*3)).take 3) fun cu=>Am N [(.str cu),(.str ([100,101,109,97,110,100]:Lu))] 2 false true (ad++([98,117,115]:Lu)) ae fun cv=>A6 1 (((f.drop ((t.toNat)*3)).take 3).drop 1) fun cw cx=>Ai N cw cx false a cv ae fun cy bc=>Am N [(.str ([115,104,101,100]:Lu))] 1 false true cy bc fun cz=>Av .i64 (((f.drop ((t.toNat)*3)).take 3).drop 2) fun da=>Ai N [(.int .i64 da)] 1 false true cz bc fun bd db=>cond (ble ((bd.length)+1) 140737488355328) (k0 aq (wrap .i64 (t+1)) (bd++([10]:Lu)) db) none) none) none) none) none) (A6 12 (b.drop 3) fun j r=>q1 j r (r:Int) 0 ad ae))
def Cz (r0:Lu→Bool→O R) (f:LA) (l:Nat) (a:Bool) (b:LA):Nat→Int→Int→Lu→Bool→O R
 | 0,_,_,_,_=>none
 | n+1,aq,t,ad,ae=>I4 N r0 f l a b (Cz r0 f l a b n) (fun j r=>Et N r0 j r a b N) aq t ad ae
def M8 (r0:Lu→Bool→O R) (q0:LA→Nat→Int→Int→Lu→Bool→O R) (b:LA) (a:Bool) (x:Lu) (y:Bool):O R :=
 (cond (ble ((x.length)+4) 140737488355328) (Av .i64 b fun dc=>Ai N [(.int .i64 dc)] 1 false true (x++([99,97,115,101]:Lu)) y fun dd be=>Am N [(.str ([114,101,115,101,114,118,101]:Lu))] 1 false true dd be fun de=>A6 1 (b.drop 1) fun df dg=>Ai N df dg false a de be fun bf dh=>cond (ble ((bf.length)+1) 140737488355328) (A6 3 (b.drop 2) fun f l=>q0 f l (l:Int) 0 (bf++([10]:Lu)) dh) none) none)
def He:=(At fun N b a x y r0=>M8 (R:=R) N r0 (fun f l=>Cz N r0 f l a b N) b a x y).1
theorem V8 (b a x y r0):(@He R N b a x y r0)=(M8 N r0 (fun f l=>Cz N r0 f l a b N) b a x y):=by rw[He,(At _).2]
def Xb:Hints:={ H:=(hK 6 (hS (hK 1 (hS (hP [0,3,43,44,45] hL) hL)) (hS (hK 1 (hS (hP [0,3,82,83,84] hL) hL)) (hS (hK 1 (hS (hP [0,3,94,95,96] hL) hL)) (hS (hK 1 (hS (hP [0,3,106,107,108] hL) hL)) (hS (hK 1 (hS (hP [0,3,173,174,175] hL) hL)) (hK 1 (hS (hP [0,3,225,226,227] hL) hL)))))))) }
def AH:EZ:=[Iu N,M5 N,RR N,RS N,AF N,MI N]
def Eu (F:KF R):=Tj Tryz.f51 Xb (AH N) [100000] N F
def OM (h:LA) (m:Nat) (a:Bool) (b:LA) (K:St→O R):=fun af u ag ah=>K ⟨[(0,(.optr 100000 0)),(3,(op 0)),(225,(.imm h m 4 false a)),(226,(iv af)),(227,(iv u))],[(100000,(bN 0 [(.str ag),(.bool ah)])),(300000,(bP a 0 b))]⟩
def ON (d:LA) (o:Nat) (a:Bool) (b:LA) (K:St→O R):=fun ai s z aa=>K ⟨[(0,(.optr 100000 0)),(3,(op 0)),(173,(.imm d o 5 false a)),(174,(iv ai)),(175,(iv s))],[(100000,(bN 0 [(.str z),(.bool aa)])),(300000,(bP a 0 b))]⟩
def OO (c:LA) (p:Nat) (a:Bool) (b:LA) (K:St→O R):=fun aj g ab ac=>K ⟨[(0,(.optr 100000 0)),(3,(op 0)),(106,(.imm c p 9 false a)),(107,(iv aj)),(108,(iv g))],[(100000,(bN 0 [(.str ab),(.bool ac)])),(300000,(bP a 0 b))]⟩
def OP (i:LA) (q:Nat) (a:Bool) (b:LA) (K:St→O R):=fun ak v al am=>K ⟨[(0,(.optr 100000 0)),(3,(op 0)),(94,(.imm i q 22 false a)),(95,(iv ak)),(96,(iv v))],[(100000,(bN 0 [(.str al),(.bool am)])),(300000,(bP a 0 b))]⟩
def OQ (j:LA) (r:Nat) (a:Bool) (b:LA) (K:St→O R):=fun an w ao ap=>K ⟨[(0,(.optr 100000 0)),(3,(op 0)),(82,(.imm j r 12 false a)),(83,(iv an)),(84,(iv w))],[(100000,(bN 0 [(.str ao),(.bool ap)])),(300000,(bP a 0 b))]⟩
def OR (f:LA) (l:Nat) (a:Bool) (b:LA) (K:St→O R):=fun aq t ad ae=>K ⟨[(0,(.optr 100000 0)),(3,(op 0)),(43,(.imm f l 3 false a)),(44,(iv aq)),(45,(iv t))],[(100000,(bN 0 [(.str ad),(.bool ae)])),(300000,(bP a 0 b))]⟩
theorem HN (F:KF R) (h m a b):∀ n,OM h m a b (Ao (Eu N F (pz 89478484) []) n)=(Er N (Nf F) h m a b n):=Ev fun n e=>(Ee (Ix N (Nf F) h m a b) e:_)
theorem HO (F:KF R) (d o a b):∀ n,ON d o a b (Ao (Eu N F (pz 89478468) []) n)=(Dk N (Nf F) d o a b n):=Ev fun n e=>(Sq (Iy N (Nf F) d o a b) e (Yo fun h m=>(lW ..).trans (HN ..)):_)
theorem HP (F:KF R) (c p a b):∀ n,OO c p a b (Ao (Eu N F (pz 22369604) []) n)=(Dl N (Nf F) c p a b n):=Ev fun n e=>(Sq (Iz N (Nf F) c p a b) e (Yo fun d o=>(lW ..).trans (HO ..)):_)
theorem HQ (F:KF R) (i q a b):∀ n,OP i q a b (Ao (Eu N F (pz 5592388) []) n)=(Es N (Nf F) i q a b n):=Ev fun n e=>(Sq (I0 N (Nf F) i q a b) e (Yo fun c p=>(lW ..).trans (HP ..)):_)
theorem HR (F:KF R) (j r a b):∀ n,OQ j r a b (Ao (Eu N F (pz 1398084) []) n)=(Et N (Nf F) j r a b n):=Ev fun n e=>(Sq (I3 N (Nf F) j r a b) e (Yo fun i q=>(lW ..).trans (HQ ..)):_)
theorem HS (F:KF R) (f l a b):∀ n,OR f l a b (Ao (Eu N F (pz 349508) []) n)=(Cz N (Nf F) f l a b n):=Ev fun n e=>(Sq (I4 N (Nf F) f l a b) e (Yo fun j r=>(lW ..).trans (HR ..)):_)
def RT:=Jl N 51 (AH N) Xb (fun
 | [(.optr 100000 0),(.pagg b a)],[(100000,⟨false,false,false,false,0,[(.str x),(.bool y)],false,none⟩)]=>some fun _ k=>He N b a x y (Nf k)
 | _,_=>none) fun _ _=>by split;intro R F;exact(Ee (M8 N (Nf F) · _ _ _ _) (Yo fun f l=>(lW ..).trans (HS ..)):_).trans (V8 ..).symm;trivial
def Sm (k2:Bool→Int→O R) (r0:Lu→Int→O R) (c:Nat) (b:Bool) (a f:LA) (k3:Bool→Int→Int→O R) (p:Bool) (l h:Int):O R :=
 (cond (decide (h<(c:Int))) (cond (Aj h c) (Hz (f.drop (0+((h.toNat)*1))) fun s=>DT N s fun t=>cond (!t) (r0 ([]:Lu) 9) (cond (p==false) (cond ((decide ((0:Int)≤(0:Int)))&&((decide (0≤h))&&((decide (h≤(c:Int)))&&(decide ((c:Int)≤(c:Int)))))) (cond (Aj h c) (Hz (f.drop (0+((h.toNat)*1))) fun u=>UA N (f.take ((h.toNat)*1)) (h.toNat) false true u fun v=>k3 (cond false true (decide (v≥0))) l (wrap .i64 (h+1))) none) none) (k3 true l (wrap .i64 (h+1))))) none) (k2 p (wrap .i64 (l+1))))
def Jf (k2:Bool→Int→O R) (r0:Lu→Int→O R) (c:Nat) (b:Bool) (a f:LA):Nat→Bool→Int→Int→O R
 | 0,_,_,_=>none
 | n+1,p,l,h=>Sm N k2 r0 c b a f (Jf k2 r0 c b a f n) p l h
def Sn (r0:Lu→Int→O R) (d:LA) (g:Nat) (b:Bool) (a:LA) (k4:Int→Int→O R) (m i:Int):O R :=
 (cond (decide (i<m)) (cond (Aj i g) (cond (ble 4 ((d.drop ((i.toNat)*4)).length)) (cond ((beq 0 0)&&((beq (((d.drop ((i.toNat)*4)).take 4).length) 4)&&(beq 4 4))) (qS (((d.drop ((i.toNat)*4)).take 4).drop 2) fun w=>cond ((!w)==true) (A6 3 (((d.drop ((i.toNat)*4)).take 4).drop 3) fun af x=>cond (cond true (decide ((x:Int)>0)) false) (r0 ([]:Lu) 16) (k4 m (wrap .i64 (i+1)))) (k4 m (wrap .i64 (i+1)))) none) none) none) (cond (ble 8 (a.length)) (He N (a.take 8) b ([]:Lu) false fun r y=>cond y (r0 ([]:Lu) 3) (cond (decide ((((r.length):Nat):Int)>1048576)) (r0 ([]:Lu) 8) (r0 r 0))) none))
def Jg (r0:Lu→Int→O R) (d:LA) (g:Nat) (b:Bool) (a:LA):Nat→Int→Int→O R
 | 0,_,_=>none
 | n+1,m,i=>Sn N r0 d g b a (Jg r0 d g b a n) m i
def So (r0:Lu→Int→O R) (b:Bool) (a:LA) (k2:Bool→Int→O R) (q3:Nat→LA→Bool→Int→Int→O R) (q4:LA→Nat→Int→Int→O R) (q:Bool) (o:Int):O R :=
 (cond (decide (o≤6)) (cond (ble 8 (a.length)) (Fj N (a.take 8) b o fun c f=>q3 c f q o 0) none) (cond q (r0 ([]:Lu) 10) (cond (ble 8 (a.length)) (Yq N (a.take 8) b fun z=>cond (!z) (r0 ([]:Lu) 12) (A6 4 (a.drop 7) fun d g=>q4 d g (g:Int) 0)) none)))
def Jh (r0:Lu→Int→O R) (b:Bool) (a:LA):Nat→Bool→Int→O R
 | 0,_,_=>none
 | n+1,q,o=>So N r0 b a (Jh r0 b a n) (fun c f=>Jf N (Jh r0 b a n) r0 c b a f N) (fun d g=>Jg N r0 d g b a N) q o
def AI (r0:Lu→Int→O R) (b:Bool) (a:LA) (q2:Bool→Int→O R):O R :=
 (cond (ble 8 (a.length)) (Zw N (a.take 8) b fun aa=>cond (!aa) (r0 ([]:Lu) 4) (q2 false 1)) none)
def U9 (r0:Lu→Int→O R) (b:Bool) (a:LA):O R:=(AI N r0 b a (Jh N r0 b a N))
def Sp (r0:Lu→Int→O R) (b:Bool) (a:LA) (k0:Int→O R) (q1:O R) (j:Int):O R :=
 (cond (decide (j≤6)) (cond (ble 8 (a.length)) (Fj N (a.take 8) b j fun ab ag=>Ni N j fun ac=>cond (decide ((ab:Int)>ac)) (r0 ([]:Lu) 8) (k0 (wrap .i64 (j+1)))) none) (Av .i64 a fun ad=>cond ((decide (ad<1))==false) (Av .i64 a fun ae=>cond (cond false true (decide (ae>24))) (r0 ([]:Lu) 3) q1) (r0 ([]:Lu) 3)))
def Ji (r0:Lu→Int→O R) (b:Bool) (a:LA):Nat→Int→O R
 | 0,_=>none
 | n+1,j=>Sp N r0 b a (Ji r0 b a n) (U9 N r0 b a) j
def CA (N:Nat) (r0:Lu→Int→O R) (q0:Int→O R) (a:LA) (b:Bool):O R :=
 (q0 1)
def Qu:=(At fun N a b r0=>CA (R:=R) N r0 (Ji N r0 b a N) a b).1
theorem MJ (a b r0):(@Qu R N a b r0)=(CA N r0 (Ji N r0 b a N) a b):=by rw[Qu,(At _).2]
def P_:Hints:={ H:=(hK 1 (hS (hK 1 (hS (hP [1,4] hL) hL)) (hJ [1] hL (hK 2 (hS (hK 1 (hS (hP [1,5,6] (hK 1 (hS (hS (hK 2 (hS (hP [1,5,6,7,8] hL) hL)) hL) hL))) hL)) (hK 2 (hS (hK 1 (hS (hP [1,70,71,72] hL) hL)) hL))))))) }
def VE:EZ:=[KR N,fN N,mK N,pn N,fR N,rU N,RT N]
def P5 (F:KF R):=Tj Tryz.f18 P_ (VE N) [] N F
def jN (c:Nat) (b:Bool) (a f:LA) (K:St→O R):=fun p l h=>K ⟨[(1,(op 0)),(5,(.bool p)),(6,(iv l)),(7,(.own 300001 0 c)),(8,(iv h))],(hq [(bP b 0 a),(bQ 1 f)])⟩
def jO (d:LA) (g:Nat) (b:Bool) (a:LA) (K:St→O R):=fun m i=>K ⟨[(1,(op 0)),(70,(.imm d g 4 false b)),(71,(iv m)),(72,(iv i))],(hq [(bP b 0 a)])⟩
def CX (b:Bool) (a:LA) (K:St→O R):=fun q o=>K ⟨[(1,(op 0)),(5,(.bool q)),(6,(iv o))],(hq [(bP b 0 a)])⟩
def jP (b:Bool) (a:LA) (K:St→O R):=K ⟨[(1,(op 0))],(hq [(bP b 0 a)])⟩
def jQ (b:Bool) (a:LA) (K:St→O R):=fun j=>K ⟨[(1,(op 0)),(4,(iv j))],(hq [(bP b 0 a)])⟩
theorem XY (Q2) (F:KF R) (c b a f):∀ n,jN c b a f (Ao (P5 N F (pz 1431372820) [Q2]) n)=(Jf N (CX b a Q2) (Ss F) c b a f n):=Ev fun n e=>(Ee (Sm N (CX b a Q2) (Ss F) c b a f) e:_)
theorem XZ (F:KF R) (d g b a):∀ n,jO d g b a (Ao (P5 N F (pz 5592388) []) n)=(Jg N (Ss F) d g b a n):=Ev fun n e=>(Ee (Sn N (Ss F) d g b a) e:_)
theorem X_ (F:KF R) (b a):∀ n,CX b a (Ao (P5 N F (pz 87364) []) n)=(Jh N (Ss F) b a n):=Ev fun n e=>(Aau (So N (Ss F) b a) e (Yo fun c f=>(lW ..).trans ((XY ..).trans (iI (Jf _ · _ _ _ _ _ _) e))) (Yo fun d g=>(lW ..).trans (XZ ..)):_)
theorem X' (F:KF R) (b a):jP b a (D5 (P5 N F (pz 85) []))=(U9 N (Ss F) b a):=(Ee (AI N (Ss F) b a) ((lW ..).trans (X_ ..)):_)
theorem YA (F:KF R) (b a):∀ n,jQ b a (Ao (P5 N F (pz 324) []) n)=(Ji N (Ss F) b a n):=Ev fun n e=>(Sq (Sp N (Ss F) b a) e ((jW ..).trans (X' ..)):_)
def mv:=Jl N 18 (VE N) P_ (fun
 | [(.pagg a b)],[]=>some fun _ k=>Qu N a b (Ss k)
 | _,_=>none) fun _ _=>by split;intro R F;exact(Ee (CA N (Ss F) · _ _) ((lW ..).trans (YA ..)):_).trans (MJ ..).symm;trivial
def MK (N:Nat) (a:LA) (b:Bool) (r0:Bool→O R):O R :=
 (A6 3 (a.drop 2) fun j c=>A6 12 (a.drop 3) fun l d=>A6 22 (a.drop 4) fun m e=>A6 9 (a.drop 5) fun n f=>A6 5 (a.drop 6) fun o g=>A6 4 (a.drop 7) fun p h=>cond ((decide ((wrap .i64 ((wrap .i64 ((wrap .i64 ((wrap .i64 ((wrap .i64 ((c:Int)+(d:Int)))+(e:Int)))+(f:Int)))+(g:Int)))+(h:Int)))>100))==false) (A6 1 (a.drop 1) fun q i=>r0 (cond false true (decide ((i:Int)>100)))) (r0 true))
def AJ:=(At (@MK R)).1
theorem ML:@AJ R=@MK R:=(At _).2
def mw:=Jl N 19 [] O7 (fun
 | [(.pagg a b)],[]=>some fun _ k=>AJ N a b (B8 k)
 | _,_=>none) fun _ _=>by split;intro R F;dsimp only;rw[ML];kernel_rfl;trivial
def Fd (r0:Bool→O R) (i:Int) (j:LA) (l:Nat) (z a:Bool) (m:LA) (o:Nat) (aa b:Bool) (p:LA) (q:Nat) (ab c:Bool) (r:LA) (s:Nat) (ac d:Bool) (t:LA) (u:Nat) (ad f:Bool) (v:LA) (w:Nat) (ae g:Bool) (x:LA) (y:Nat) (af h:Bool) (k0:Int→Bool→LA→O R) (ag:Int) (ao:Bool) (ah:LA):O R :=
 (cond (decide (ag<2)) (cond (Aj ag 2) (cond (ble 8 ((ah.drop (0+((ag.toNat)*8))).length)) (cond ((beq 0 0)&&((beq (((ah.drop (0+((ag.toNat)*8))).take 8).length) 8)&&(beq 8 8))) (cond (ble 8 (((ah.drop (0+((ag.toNat)*8))).take 8).length)) (T0 N (((ah.drop (0+((ag.toNat)*8))).take 8).take 8) ao fun au av=>cond (ble 8 (((ah.drop (0+((ag.toNat)*8))).take 8).length)) (Qu N (((ah.drop (0+((ag.toNat)*8))).take 8).take 8) ao fun aw ax=>cond ((!(au==aw))==false) (cond (cond false true (av != ax)) (r0 false) (k0 (wrap .i64 (ag+1)) ao ah)) (r0 false)) none) none) none) none) none) (AJ N [(.int .i64 i),(.imm j l 1 false a),(.imm m o 3 false b),(.imm p q 12 false c),(.imm r s 22 false d),(.imm t u 9 false f),(.imm v w 5 false g),(.imm x y 4 false h)] (a||(b||(c||(d||(f||(g||(h||false))))))) fun ay=>cond ay (Ra N fun az=>r0 az) (T0 N [(.int .i64 i),(.imm j l 1 false a),(.imm m o 3 false b),(.imm p q 12 false c),(.imm r s 22 false d),(.imm t u 9 false f),(.imm v w 5 false g),(.imm x y 4 false h)] (a||(b||(c||(d||(f||(g||(h||false))))))) fun ba bb=>Qu N [(.int .i64 i),(.imm j l 1 false a),(.imm m o 3 false b),(.imm p q 12 false c),(.imm r s 22 false d),(.imm t u 9 false f),(.imm v w 5 false g),(.imm x y 4 false h)] (a||(b||(c||(d||(f||(g||(h||false))))))) fun bc bd=>Ra N fun be=>cond (be==true) (cond ((cond true (ba==bc) false)==true) (r0 (cond true (bb==bd) false)) (r0 false)) (r0 false))))
def Bm (r0:Bool→O R) (i:Int) (j:LA) (l:Nat) (z a:Bool) (m:LA) (o:Nat) (aa b:Bool) (p:LA) (q:Nat) (ab c:Bool) (r:LA) (s:Nat) (ac d:Bool) (t:LA) (u:Nat) (ad f:Bool) (v:LA) (w:Nat) (ae g:Bool) (x:LA) (y:Nat) (af h:Bool):Nat→Int→Bool→LA→O R
 | 0,_,_,_=>none
 | n+1,ag,ao,ah=>Fd N r0 i j l z a m o aa b p q ab c r s ac d t u ad f v w ae g x y af h (Bm r0 i j l z a m o aa b p q ab c r s ac d t u ad f v w ae g x y af h n) ag ao ah
def G4 (r0:Bool→O R) (q0:Int→Bool→LA→O R) (i:Int) (j:LA) (l:Nat) (z a:Bool) (m:LA) (o:Nat) (aa b:Bool) (p:LA) (q:Nat) (ab c:Bool) (r:LA) (s:Nat) (ac d:Bool) (t:LA) (u:Nat) (ad f:Bool) (v:LA) (w:Nat) (ae g:Bool) (x:LA) (y:Nat) (af h:Bool) (ai:LA) (aj:Nat) (ap ak:Bool) (al am:Int) (an:Lu):O R :=
 (BR N ai aj false ak fun bf=>Px N bf false al am an fun aq bg=>cond ((beq 0 0)&&((beq (aq.length) 8)&&(beq 8 8))) (cond (ble 8 (aq.length)) (BR N ai aj false ak fun ar=>cond ((beq ((aq.take 8).length) 8)&&(ble 8 16)) (cond ((beq (ar.length) 8)&&(ble 16 ((setCells [(.int .i64 0),.nsl,.nsl,.nsl,.nsl,.nsl,.nsl,.nsl,(.int .i64 0),.nsl,.nsl,.nsl,.nsl,.nsl,.nsl,.nsl] 0 (aq.take 8)).length))) (q0 0 (bg||false) (setCells (setCells [(.int .i64 0),.nsl,.nsl,.nsl,.nsl,.nsl,.nsl,.nsl,(.int .i64 0),.nsl,.nsl,.nsl,.nsl,.nsl,.nsl,.nsl] 0 (aq.take 8)) 8 ar)) none) none) none) none)
def Hy:=(At fun N i j l z a m o aa b p q ab c r s ac d t u ad f v w ae g x y af h ai aj ap ak al am an r0=>G4 (R:=R) N r0 (Bm N r0 i j l z a m o aa b p q ab c r s ac d t u ad f v w ae g x y af h N) i j l z a m o aa b p q ab c r s ac d t u ad f v w ae g x y af h ai aj ap ak al am an).1
theorem Pb (i j l z a m o aa b p q ab c r s ac d t u ad f v w ae g x y af h ai aj ap ak al am an r0):(@Hy R N i j l z a m o aa b p q ab c r s ac d t u ad f v w ae g x y af h ai aj ap ak al am an r0)=(G4 N r0 (Bm N r0 i j l z a m o aa b p q ab c r s ac d t u ad f v w ae g x y af h N) i j l z a m o aa b p q ab c r s ac d t u ad f v w ae g x y af h ai aj ap ak al am an):=by rw[Hy,(At _).2]
def P6:Hints:={ H:=(hK 2 (hS (hK 1 (hS (hP [5,31,32,33] hL) hL)) hL)) }
def Rb:EZ:=[uM N,cA N,pM N,mv N,mw N,jM N]
def CY (F:KF R):=Tj Tryz.f5 P6 (Rb N) [] N F
def CZ (i:Int) (j:LA) (l:Nat) (z a:Bool) (m:LA) (o:Nat) (aa b:Bool) (p:LA) (q:Nat) (ab c:Bool) (r:LA) (s:Nat) (ac d:Bool) (t:LA) (u:Nat) (ad f:Bool) (v:LA) (w:Nat) (ae g:Bool) (x:LA) (y:Nat) (af h:Bool) (K:St→O R):=fun ag ao ah=>K ⟨[(5,(op 0)),(31,(.own 300001 0 2)),(32,(iv 2)),(33,(iv ag))],(hq [(bN 0 [(iv i),(.imm j l 1 z a),(.imm m o 3 aa b),(.imm p q 12 ab c),(.imm r s 22 ac d),(.imm t u 9 ad f),(.imm v w 5 ae g),(.imm x y 4 af h)]),(bP ao 8 ah)])⟩
theorem Yh (F:KF R) (i j l z a m o aa b p q ab c r s ac d t u ad f v w ae g x y af h):∀ n,CZ i j l z a m o aa b p q ab c r s ac d t u ad f v w ae g x y af h (Ao (CY N F (pz 1348) []) n)=(Bm N (B8 F) i j l z a m o aa b p q ab c r s ac d t u ad f v w ae g x y af h n):=Ev fun n e=>(Ee (Fd N (B8 F) i j l z a m o aa b p q ab c r s ac d t u ad f v w ae g x y af h) e:_)
def Rc:=Jl N 5 (Rb N) P6 (fun
 | [(.agg [(.int .i64 i),(.imm j l 1 z a),(.imm m o 3 aa b),(.imm p q 12 ab c),(.imm r s 22 ac d),(.imm t u 9 ad f),(.imm v w 5 ae g),(.imm x y 4 af h)]),(.imm ai aj 1 ap ak),(.int .i64 al),(.int .i64 am),(.str an)],[]=>some fun _ k=>Hy N i j l z a m o aa b p q ab c r s ac d t u ad f v w ae g x y af h ai aj ap ak al am an (B8 k)
 | _,_=>none) fun _ _=>by split;intro R F;exact(Ee (G4 N (B8 F) · _ _ _ _ _ _ _ _ _ _ _ _ _ _ _ _ _ _ _ _ _ _ _ _ _ _ _ _ _ _ _ _ _ _ _ _) ((lW ..).trans (Yh ..)):_).trans (Pb ..).symm;trivial
def P7:=(Rc N).tw
theorem C_:WG Tryz.prog 5 (P7 N):=(Rc N).tok
end
end Gx
namespace Gx.Ct
open Go Go.Proofs Gx.Cf
section
variable {R:Type} {N:Nat} {c:CaseD} {b:Bool} {K:List UInt8→Int→O R}
theorem kK (hN:1000000000<N) (e:ListsOk c):∀ (m k fuel:Nat),1≤k→k+m=7→m<fuel →
  Ji N K b c.av fuel (k:Int)=cond ((List.range' k m).all (jL c)) (Av .i64 c.av fun ad=>cond ((decide (ad<1))==false) (Av .i64 c.av fun ae=>cond (cond false true (decide (ae>24))) (K ([]:Lu) 3) (U9 N K b c.av)) (K ([]:Lu) 3)) (K [] 8)
 | 0,k,fuel+1,d,f,_=>by
  rw[Ji];unfold Sp
  rw[decide_eq_false (show ¬ (k:Int)≤6 by omega),cf];rfl
 | m+1,k,fuel+1,d,f,l=>by
  rw[Ji];unfold Sp
  have j:=kK hN e m (k+1) fuel (by omega) (by omega) (by omega)
  rw[decide_eq_true (show(k:Int)≤6 by omega),ct,Dx,ct,Bx,gn hN e d (by omega),uR d (by omega),Oy (by omega),j,Agr,Aek]
  unfold jL
  by_cases g:(Mq c k).length≤kE k
  ·rw[decide_eq_true g,decide_eq_false (show ¬ (((Mq c k).length:Nat):Int)>((kE k:Nat):Int) by omega)];rfl
  ·rw[decide_eq_false g,decide_eq_true (show(((Mq c k).length:Nat):Int)>((kE k:Nat):Int) by omega)];rfl
theorem qH {l:List A0} {k2:Bool→Int→O R} {kd:Int} (hN:1000000000<N) (k:l.length≤1000):∀ (m h fuel:Nat) (p:Bool),h+m=l.length→m<fuel →
  Jf N k2 K l.length b c.av (Au l) fuel p kd (h:Int)=cond ((l.drop h).all Df) (k2 (p||Dm (l.take h) (l.drop h)) (wrap .i64 (kd+1))) (K [] 9)
 | 0,h,fuel+1,p,n,_=>by
  rw[Jf];unfold Sm
  rw[F9 (by omega),cf,show l.drop h=[] from A5 (by omega),Aeu,Dm,Afk];rfl
 | m+1,h,fuel+1,p,n,s=>by
  rw[Jf];unfold Sm
  have e:h<l.length:=by omega
  have j:=fun p=>qH (k2:=k2) (kd:=kd) hN k m (h+1) fuel p (by omega) (by omega)
  have rd:∀ F:A0→O R,Hz (drop (0+(Int.toNat (h:Int))*1) (Au l)) F=F l[h]:=fun F=>by rw[Aec,Ad2,Aeh,Gb e]
  have et:l.take (h+1)=l.take h++[l[h]]:=by rw[List.take_add_one,Ad1 e];rfl
  have tw:∀ p:Bool,(p||Dm (l.take h) (l[h]::l.drop (h+1)))=((p||(l.take h).contains l[h])||Dm (l.take (h+1)) (l.drop (h+1))):=fun p=>by rw[Dm,et,Ael]
  rw[Fn e,ct,Ab e,ct,rd,PF (by omega),A3 e,Aek,tw]
  cases Df l[h] with
  | false=>rfl
  | true =>
   rw[show(!true)=false from rfl,cf,Oy (by omega)]
   cases p with
   | true =>
    refine(j true).trans ?_
    rfl
   | false =>
    have es:take ((Int.toNat (h:Int))*1) (Au l)=Au (l.take h):=by rw[Ad2,Aeh];unfold Au;rw[Ah3]
    have q:(l.take h).length=h:=Ahm (by omega)
    obtain⟨v,v1,v2⟩:=kA (R:=R) (N:=N) (l:=l.take h) (w:=l[h]) (d:=false) (f:=true) (by omega) h 0 N (by omega) (by omega)
    rw[show((false:Bool)==false)=true from rfl,ct,show((decide ((0:Int)≤(0:Int)))&&((decide (0≤(h:Int)))&&((decide ((h:Int)≤(l.length:Int)))&&(decide ((l.length:Int)≤(l.length:Int))))))=true by simp;omega,ct,rd,es,UB]
    unfold NJ
    have v3:=fun K=>v2 K
    rw[q] at v3
    refine(v3 _).trans ?_
    refine(j _).trans ?_
    rw[Aeg] at v1
    show cond _ (k2 (decide (v≥0)||_) _) _=_
    rw[v1];rfl
theorem a7 {F:Bool→O R} (hN:1000000000<N) (f:ListsOk c) (hs:∀ k,1≤k→k≤6→(Mq c k).length≤1000)
  (hF:∀ q:Bool,(cond q (K ([]:Lu) 10) (cond (ble 8 (c.av.length)) (Yq N (c.av.take 8) b fun z=>cond (!z) (K ([]:Lu) 12) (A6 4 (c.av.drop 7) fun d g=>Jg N K d g b c.av N (g:Int) 0)) none))=F q):∀ (m k fuel:Nat) (q:Bool),1≤k→k+m=7→m<fuel →
  Jh N K b c.av fuel q (k:Int)=cond ((List.range' k m).all fun k=>(Mq c k).all Df) (F (q||(List.range' k m).any fun k=>Dm [] (Mq c k))) (K [] 9)
 | 0,k,fuel+1,q,e,j,_=>by
  rw[Jh];unfold So
  rw[decide_eq_false (show ¬ (k:Int)≤6 by omega),cf]
  refine(hF q).trans ?_
  show _=F (q||false)
  rw[Afk]
 | m+1,k,fuel+1,q,e,j,n=>by
  rw[Jh];unfold So
  have l:=fun q=>a7 hN f hs hF m (k+1) fuel q (by omega) (by omega) (by omega)
  rw[decide_eq_true (show(k:Int)≤6 by omega),ct,Dx,ct,Bx,gn hN f e (by omega)]
  refine(qH hN (hs k e (by omega)) (Mq c k).length 0 N q (by omega) (by have:=hs k e (by omega);omega)).trans ?_
  rw[Aeg,Agd,Oy (by omega),l,Agr,Aek,Aez]
  cases (Mq c k).all Df with
  | false=>rfl
  | true =>
   rw[Aex,←Ael];rfl
end
end Gx.Ct
namespace Gx.Ct
open Go Go.Proofs Gx.Cf
def FI (R:Type) (N:Nat):Prop:=∀ z,Rh z→∀ K:Lu→O R,V2 N z (fun r=>P3 N r false K)=K (tx z)
def Ef (ws:List A0):Lu:=ws.flatMap (32::·)
theorem AK (w:A0) (r:List A0):Ef (w::r)=32::w++Ef r:=rfl
section
variable {R:Type} {N:Nat}
theorem qI {ws:List A0} {d f a:Bool} {K:Lu→O R} (e:ws.length≤1000000000):∀ (m j fuel:Nat) (T:Lu),j+m=ws.length→m<fuel→T.length+(Ef (ws.drop j)).length≤140737488355328 →
  D8 N K (Au ws) ws.length d f a fuel (j:Int) T=K (T++Ef (ws.drop j))
 | 0,j,fuel+1,T,k,_,_=>by
  rw[D8];unfold J3
  rw[F9 (by omega),cf,A5 (by omega)]
  show _=K (T++[])
  rw[Aej]
 | m+1,j,fuel+1,T,k,l,hT=>by
  rw[D8];unfold J3
  have h:j<ws.length:=by omega
  rw[A3 h,AK] at hT
  simp only[Adw,Adx] at hT
  rw[Fn h,ct,Ab h,ct,Ad2,Aeh,Gb h,show ble (1+(ws[j]).length) 140737488355328=true by simp;omega,ct,show ble (T.length+(List.length (([32]:Lu)++ws[j]))) 140737488355328=true by simp;omega,ct,Oy (by omega)]
  refine(qI e m (j+1) fuel _ (by omega) (by omega) (by simp;omega)).trans ?_
  rw[A3 h,AK,Aea];rfl
theorem wL {ws:List A0} {d f a:Bool} {T:Lu} {K:Lu→O R} (e:ws.length≤1000000000) (hN:1000000000<N) (hT:T.length+(Ef ws).length≤140737488355328):Am N (Au ws) ws.length d f T a K=K (T++Ef ws):=by
 rw[W4];unfold O4
 exact qI e ws.length 0 N T (by omega) (by omega) hT
theorem qJ {l:List Int} {c d g:Bool} {f:Lu} {K:Lu→Bool→O R} (hF:FI R N) (hi:∀ z ∈ l,Rh z) (n:l.length≤1000000000):∀ (m j fuel:Nat) (T:Lu) (bad:Bool),j+m=l.length→m<fuel→T.length+(Ef ((l.drop j).map tx)).length≤140737488355328 →
  Cj N K (Az l) l.length c d f g fuel (j:Int) T bad=K (T++Ef ((l.drop j).map tx)) (bad||Ap (l.drop j))
 | 0,j,fuel+1,T,bad,q,_,_=>by
  rw[Cj];unfold Jz
  rw[F9 (by omega),cf,A5 (by omega)]
  show _=K (T++[]) (bad||false)
  rw[Aej,Afk]
 | m+1,j,fuel+1,T,bad,q,t,hT=>by
  rw[Cj];unfold Jz
  have h:j<l.length:=by omega
  rw[A3 h,Ad5,AK] at hT
  simp only[Adw,Adx] at hT
  have s:=hi _ (Ad9 h)
  have step:∀ k:Bool,Ht N (Cj N K (Az l) l.length c d f g fuel) K (Az l) l.length c d f g (j:Int) T k=K (T++Ef ((l.drop j).map tx)) (k||Ap (l.drop (j+1))):=fun k=>by
   unfold Ht
   rw[Ab h,ct,Zg h,hF _ s,show ble (1+(tx l[j]).length) 140737488355328=true by simp;omega,ct,show ble (T.length+(List.length (([32]:Lu)++tx l[j]))) 140737488355328=true by simp;omega,ct,Oy (by omega)]
   refine(qJ hF hi n m (j+1) fuel _ k (by omega) (by omega) (by simp only[Adw,Adx,Ady];omega)).trans ?_
   rw[A3 h,Ad5,AK,Aea];rfl
  have e:Ap (l.drop j)=(Wg l[j]||Ap (l.drop (j+1))):=by rw[A3 h];rfl
  rw[Fn h,ct,Ab h,ct,Zg h,ct,Zg h,e]
  unfold Wg
  cases bad with
  | true=>exact(step true).trans rfl
  | false =>
   rw[show((false:Bool)==false)=true from rfl,ct]
   cases decide (l[j]< -1073741824) with
   | true=>exact(step true).trans rfl
   | false=>exact(step (decide (l[j]>1073741824))).trans rfl
theorem gv {l:List Int} {c d bad:Bool} {T:Lu} {K:Lu→Bool→O R} (hF:FI R N) (hi:∀ z ∈ l,Rh z) (e:l.length≤1000000000) (hN:1000000000<N) (hT:T.length+(Ef (l.map tx)).length≤140737488355328):Ai N (Az l) l.length c d T bad K=K (T++Ef (l.map tx)) (bad||Ap l):=by
 rw[W3];unfold O3
 exact qJ hF hi e l.length 0 N T bad (by omega) (by omega) hT
end
end Gx.Ct
namespace Gx.Ct
open Go Go.Proofs Gx.Cf
def a8 (f:FracD):LA:=[.int .i64 f.num,.int .i64 f.den]
theorem ry (f:FracD) (bad:Bool):(((bad||decide (f.den<1))||Ap [f.num])||Ap [f.den])=(bad||Gh f):=by
 unfold Gh Ap Wg
 simp only[Aez,Ae2,Afk]
 by_cases d:f.den<1
 ·rw[decide_eq_true d];cases bad<;>simp
 ·rw[decide_eq_false d,decide_eq_false (show ¬ f.den< -1073741824 by omega)]
  simp only[Afk,Aew,Ael]
section
variable {R:Type} {N:Nat}
theorem kL {fs:List FracD} {c d g:Bool} {f:Lu} {K:Lu→Bool→O R} (hF:FI R N) (hx:Bp) (hN:1000000000<N) (hi:∀ f ∈ fs,Rh f.num∧Rh f.den) (t:fs.length≤1000):∀ (m j fuel:Nat) (T:Lu) (bad:Bool),j+m=fs.length→m<fuel→T.length+100*m≤140737488300000 →
  Ca N K (fs.flatMap a8) fs.length c d f g fuel (j:Int) T bad=K (T++Ef ((fs.drop j).map M0)) (bad||(fs.drop j).any Gh)
 | 0,j,fuel+1,T,bad,u,_,_=>by
  rw[Ca];unfold Iv
  rw[F9 (by omega),cf,A5 (by omega)]
  show _=K (T++[]) (bad||false)
  rw[Aej,Afk]
 | m+1,j,fuel+1,T,bad,u,y,hT=>by
  rw[Ca];unfold Iv
  have h:j<fs.length:=by omega
  obtain⟨z1,z2⟩:=hi _ (Ad9 h)
  have s1:=hx _ z1
  have s2:=hx _ z2
  have v:∀ F:Int→O R,Av .i64 (drop ((Int.toNat (j:Int))*2) (fs.flatMap a8)) F=F (fs[j]).num:=fun F=>by rw[TX (e:=a8) (sz:=2) (fun _=>rfl) h];rfl
  have q:∀ F:Int→O R,Av .i64 (drop 1 (drop ((Int.toNat (j:Int))*2) (fs.flatMap a8))) F=F (fs[j]).den:=fun F=>by rw[TX (e:=a8) (sz:=2) (fun _=>rfl) h];rfl
  have e1:Ef ([(fs[j]).num].map tx)=32::tx (fs[j]).num:=by simp[Ef]
  have s:Ef ([(fs[j]).den].map tx)=32::tx (fs[j]).den:=by simp[Ef]
  have step:∀ k:Bool,Gs N (Ca N K (fs.flatMap a8) fs.length c d f g fuel) K (fs.flatMap a8) fs.length c d f g (j:Int) T k=K (T++Ef ((fs.drop j).map M0)) (((k||Ap [(fs[j]).num])||Ap [(fs[j]).den])||(fs.drop (j+1)).any Gh):=fun k=>by
   unfold Gs
   rw[Ab h,ct,v]
   refine Agl (gv (l:=[(fs[j]).num]) hF (by simp[z1]) (by simp) hN (by rw[e1];simp only[Adx];omega)) ?_
   rw[ct,q]
   refine Agl (gv (l:=[(fs[j]).den]) hF (by simp[z2]) (by simp) hN (by rw[e1,s];simp only[Adw,Adx];omega)) ?_
   rw[e1,s]
   generalize n:T++32::tx (fs[j]).num=H
   have hH:H.length≤140737488300000:=by rw[←n];simp only[Adw,Adx];omega
   have ew:wrap .i64 ((H.length:Int)+1)=((H.length+1:Nat):Int):=by rw[Gx.i64 (by omega)];omega
   have x:drop (H.length+1) (H++32::tx (fs[j]).den)=tx (fs[j]).den:=by
    rw[show H++32::tx (fs[j]).den=(H++[32])++tx (fs[j]).den by simp,List.drop_left' (by simp)]
   have et:take ((H++32::tx (fs[j]).den).length - (H.length+1)) (tx (fs[j]).den)=tx (fs[j]).den:=Ad0 (by simp only[Adw,Adx];omega)
   rw[ew,show ble (H.length+1) 140737488355328=true by simp;omega,ct,Ad2,x,et,show((decide ((0:Int)≤((H.length+1:Nat):Int)))&&((decide (((H.length+1:Nat):Int)≤(((H++32::tx (fs[j]).den).length:Nat):Int)))&&((decide ((((H++32::tx (fs[j]).den).length:Nat):Int)≤(((H++32::tx (fs[j]).den).length:Nat):Int)))&&(decide ((((H++32::tx (fs[j]).den).length:Nat):Int)≤(((H++32::tx (fs[j]).den).length:Nat):Int))))))=true by
    rw[decide_eq_true (by omega),decide_eq_true (by simp only[Adw,Adx];omega),decide_eq_true (by omega)];rfl,ct,
    show ble ((H++([47]:Lu)).length+(tx (fs[j]).den).length) 140737488355328=true by simp;omega,ct,Oy (by omega)]
   refine(kL hF hx hN hi t m (j+1) fuel _ _ (by omega) (by omega) (by rw[←n];simp only[Adw,Adx,Ady];omega)).trans ?_
   rw[A3 h,Ad5,AK,←n]
   simp only[M0,Aea,Aeb,Afr]
  have fin:∀ k,(k=(bad||decide ((fs[j]).den<1)))→K (T++Ef ((fs.drop j).map M0)) (((k||Ap [(fs[j]).num])||Ap [(fs[j]).den])||(fs.drop (j+1)).any Gh)=K (T++Ef ((fs.drop j).map M0)) (bad||(fs.drop j).any Gh):=fun k e=>by
   rw[e,ry,A3 h,Aez,Ael]
  rw[Fn h,ct]
  cases bad with
  | true=>exact(step true).trans (fin true rfl)
  | false =>
   rw[show((false:Bool)==false)=true from rfl,ct,Ab h,ct,q]
   exact(step (decide ((fs[j]).den<1))).trans (fin _ rfl)
end
end Gx.Ct
namespace Gx.Ct
open Go Go.Proofs Gx.Cf
section
variable {R:Type} {N:Nat}
theorem Yi {ws:List A0} {B:Nat} (h:∀ w ∈ ws,w.length≤B):(Ef ws).length≤(B+1)*ws.length:=by
 induction ws with
 | nil=>exact Agw _
 | cons w r d =>
  have e:=h w (by simp)
  have f:=d fun x hx=>h x (by simp[hx])
  rw[AK,Adw,Adx,Adx,Nat.mul_succ]
  omega
theorem Jj {l:List Int} (hx:Bp) (hi:∀ z ∈ l,Rh z):(Ef (l.map tx)).length≤31*l.length:=by
 have:=Yi (ws:=l.map tx) (B:=30) (fun w d=>by obtain⟨z,e,rfl⟩:=Aef.1 d;exact hx z (hi z e))
 rwa [Af4] at this
theorem Cr {ws:List A0} {L:LA} {n:Nat} {d f a:Bool} {T:Lu} {K:Lu→O R} {Y:O R} (hL:L=Au ws) (hn:n=ws.length) (e:∀ w ∈ ws,w.length≤16) (j:ws.length≤1000) (hN:1000000000<N) (hT:T.length≤140000000000000) (h:K (T++Ef ws)=Y):Am N L n d f T a K=Y:=by
 subst hL hn;rw[wL (by omega) hN (by have:=Yi e;omega),h]
theorem D2 {l:List Int} {L:LA} {n:Nat} {c d bad:Bool} {T:Lu} {K:Lu→Bool→O R} {Y:O R} (hL:L=Az l) (hn:n=l.length) (hF:FI R N) (hx:Bp) (hi:∀ z ∈ l,Rh z) (e:l.length≤1000000000) (hN:1000000000<N) (hT:T.length≤140000000000000) (h:K (T++Ef (l.map tx)) (bad||Ap l)=Y):Ai N L n c d T bad K=Y:=by
 subst hL hn;rw[gv hF hi e hN (by have:=Jj hx hi;omega),h]
theorem gw {fs:List FracD} {L:LA} {n:Nat} {c d bad:Bool} {T:Lu} {K:Lu→Bool→O R} {Y:O R} (hL:L=fs.flatMap a8) (hn:n=fs.length) (hF:FI R N) (hx:Bp) (hi:∀ f ∈ fs,Rh f.num∧Rh f.den) (e:fs.length≤1000) (hN:1000000000<N) (hT:T.length≤140000000000000) (h:K (T++Ef (fs.map M0)) (bad||fs.any Gh)=Y):Cv N L n c d T bad K=Y:=by
 subst hL hn;rw[V4];unfold M6
 exact(kL hF hx hN hi e fs.length 0 N T bad (by omega) (by omega) (by omega)).trans h
theorem V9 {f:FracD} (hx:Bp) (d:Rh f.num) (e:Rh f.den):(M0 f).length≤61:=by
 have:=hx _ d;have:=hx _ e
 unfold M0;simp only[Adw,Adx];omega
theorem rz {c:CaseD} {l:LineD} {g b bad:Bool} {T:Lu} {K:Lu→Bool→O R} (hF:FI R N) (hx:Bp) (hN:1000000000<N) (hI:LineI l) (d:Dg l.fr c.buses.l.length=true) (e:Dg l.tl c.buses.l.length=true) (f:l.name.length≤16) (s1:(Bb (Bh c) l.fr).length≤16) (s2:(Bb (Bh c) l.tl).length≤16) (hT:T.length≤100000000000000) :
  O5 N c.av g l.av b T bad K=K (T++D3 (Ry (Bh c) l)) (bad||Rz l):=by
 rw[V5];unfold Sj
 have j:∀ F:A0→O R,Hz l.av F=F l.name:=fun F=>rfl
 have k:∀ F:Int→O R,Av .i64 (drop 1 l.av) F=F l.fr:=fun F=>rfl
 have m:∀ F:Int→O R,Av .i64 (drop 2 l.av) F=F l.tl:=fun F=>rfl
 have p:∀ (b:Bool) (x y:Int),(!b||Ax [AV.int .i64 x,.int .i64 y])=true:=fun b x y=>by cases b<;>rfl
 have L1:=V9 hx hI.f1.1 hI.f1.2
 have L2:=V9 hx hI.f2.1 hI.f2.2
 have L3:=V9 hx hI.f3.1 hI.f3.2
 have L4:=hx _ hI.n.1
 have L5:=hx _ hI.n.2
 have L6:=Jj hx hI.a.1
 have L7:=hI.a.2
 rw[show ble (T.length+4) 140737488355328=true by simp;omega,ct,j,Bi,k,Ld d,ct,PK d,Bi,m,Ld e,ct,PK e]
 refine Cr (ws:=[l.name,Bb (Bh c) l.fr,Bb (Bh c) l.tl,x9]) rfl rfl (by simp[f,s1,s2,x9]) (by simp) hN (by simp only[Adw,Adx,Ady];omega) ?_
 show cond true (cond (!b||Ax [AV.int .i64 l.re.num,.int .i64 l.re.den]) (cond true (Cv N [.int .i64 l.re.num,.int .i64 l.re.den] 1 false true _ _ _) none) none) none=_
 rw[ct,p,ct,ct]
 have q:(Ef [l.name,Bb (Bh c) l.fr,Bb (Bh c) l.tl,x9]).length≤100:=by
  have:=Yi (ws:=[l.name,Bb (Bh c) l.fr,Bb (Bh c) l.tl,x9]) (B:=16) (by simp[f,s1,s2,x9])
  simp only[Adx,Ady] at this;omega
 refine gw (fs:=[l.re]) rfl rfl hF hx (by simp[hI.f1]) (by simp) hN (by simp only[Adw,Adx,Ady];omega) ?_
 have s:(Ef ([l.re].map M0)).length≤62:=by simp[Ef];omega
 refine Cr (ws:=[dM]) rfl rfl (by decide) (by simp) hN (by simp only[Adw,Adx,Ady];omega) ?_
 have t:(Ef [dM]).length≤6:=by decide
 show cond true (cond (!b||Ax [AV.int .i64 l.smin.num,.int .i64 l.smin.den]) (cond true (cond (!b||Ax [AV.int .i64 l.smax.num,.int .i64 l.smax.den]) (cond true (cond true (Cv N [.int .i64 l.smin.num,.int .i64 l.smin.den,.int .i64 l.smax.num,.int .i64 l.smax.den] 2 false true _ _ _) none) none) none) none) none) none=_
 rw[ct,p,ct,ct,p,ct,ct,ct]
 refine gw (fs:=[l.smin,l.smax]) rfl rfl hF hx (by simp[hI.f2,hI.f3]) (by simp) hN (by simp only[Adw,Adx,Ady];omega) ?_
 have u:(Ef ([l.smin,l.smax].map M0)).length≤124:=by simp[Ef];omega
 refine Cr (ws:=[dN]) rfl rfl (by decide) (by simp) hN (by simp only[Adw,Adx,Ady];omega) ?_
 have v:(Ef [dN]).length≤6:=by decide
 show Ai N [.int .i64 l.limit,.int .i64 l.emer] 2 false true _ _ _=_
 refine D2 (l:=[l.limit,l.emer]) rfl rfl hF hx (by simp[hI.n.1,hI.n.2]) (by simp) hN (by simp only[Adw,Adx,Ady];omega) ?_
 have z:(Ef ([l.limit,l.emer].map tx)).length≤62:=by simp[Ef];omega
 refine Cr (ws:=[GH]) rfl rfl (by decide) (by simp) hN (by simp only[Adw,Adx,Ady];omega) ?_
 have A:(Ef [GH]).length≤5:=by decide
 show A6 1 (l.away.av 1 Fh::_) _=_
 rw[Bn,A4]
 refine D2 rfl rfl hF hx hI.a.1 hI.a.2 hN (by simp only[Adw,Adx,Ady];omega) ?_
 rw[show ∀ X:Lu,X.length≤140000000000000→ble (X.length+1) 140737488355328=true from fun X h=>by simp;omega,ct]
 ·have eB:(((((bad||[l.re].any Gh)||[l.smin,l.smax].any Gh)||Ap [l.limit,l.emer])||Ap l.away.l))=(bad||Rz l):=by unfold Rz;simp[Ael]
  rw[eB,D3]
  congr 1
  unfold Ry
  rw[Aeb,I8]
  simp[Ef,lw]
 ·simp only[Adw,Adx,Ady];omega
set_option maxHeartbeats 1000000 in
theorem sA {u:UnitD} {b bad:Bool} {K:Lu→Bool→O R} {T:Lu} {fuel j:Nat} (hF:FI R N) (hx:Bp) (hN:1000000000<N) (hI:UnitI u) (hs:Dg u.state 3=true) (m:u.segs.l.length≤j) (hT:T.length≤130000000000000) :
  Cy N K b u.av (fuel+1) (j:Int) T bad=K (T++Ef (LK u)++[10]) (bad||Qh u):=by
 have hn:=hI.n
 simp only[Ad6,Aei,or_false,forall_eq_or_imp,forall_eq] at hn
 obtain⟨_,_,n1,n2,n3,n4,n5,n6,n7,n8,n9,n10,n11,n12,n13,n14,n15⟩:=hn
 have La:=Jj hx hI.a.1
 have Lb:=hI.a.2
 have rs:∀ F:LA→Nat→O R,A6 2 (drop 4 u.av) F=F (u.segs.l.flatMap SegD.av) u.segs.l.length:=fun F=>by
  show A6 2 (u.segs.av 2 SegD.av::_) F=_
  rw[Bn]
 rw[Cy];unfold Iw
 rw[rs,F9 m,cf]
 refine Cr (ws:=[K_]) rfl rfl (by decide) (by simp) hN (by first | omega | (simp only[Adw,Adx,Ady];omega)) ?_
 have q:(Ef [K_]).length≤20:=by decide
 show Ai N [.int .i64 u.noLoad] 1 false true _ _ _=_
 refine D2 (l:=[u.noLoad]) rfl rfl hF hx (by simp[*]) (by simp) hN (by first | omega | (simp only[Adw,Adx,Ady];omega)) ?_
 have s:(Ef ([u.noLoad].map tx)).length≤100:=by
  have:=Jj (l:=[u.noLoad]) hx (by simp[*])
  simp only[Adx,Ady] at this;omega
 refine Cr (ws:=[fY]) rfl rfl (by decide) (by simp) hN (by first | omega | (simp only[Adw,Adx,Ady];omega)) ?_
 have t:(Ef [fY]).length≤20:=by decide
 show Ai N [.int .i64 u.rampUp,.int .i64 u.rampDown] 2 false true _ _ _=_
 refine D2 (l:=[u.rampUp,u.rampDown]) rfl rfl hF hx (by simp[*]) (by simp) hN (by first | omega | (simp only[Adw,Adx,Ady];omega)) ?_
 have v:(Ef ([u.rampUp,u.rampDown].map tx)).length≤100:=by
  have:=Jj (l:=[u.rampUp,u.rampDown]) hx (by simp[*])
  simp only[Adx,Ady] at this;omega
 refine Cr (ws:=[TG]) rfl rfl (by decide) (by simp) hN (by first | omega | (simp only[Adw,Adx,Ady];omega)) ?_
 have x:(Ef [TG]).length≤20:=by decide
 show Ai N [.int .i64 u.startRamp] 1 false true _ _ _=_
 refine D2 (l:=[u.startRamp]) rfl rfl hF hx (by simp[*]) (by simp) hN (by first | omega | (simp only[Adw,Adx,Ady];omega)) ?_
 have y:(Ef ([u.startRamp].map tx)).length≤100:=by
  have:=Jj (l:=[u.startRamp]) hx (by simp[*])
  simp only[Adx,Ady] at this;omega
 refine Cr (ws:=[fZ]) rfl rfl (by decide) (by simp) hN (by first | omega | (simp only[Adw,Adx,Ady];omega)) ?_
 have z:(Ef [fZ]).length≤20:=by decide
 show Ai N [.int .i64 u.stopRamp] 1 false true _ _ _=_
 refine D2 (l:=[u.stopRamp]) rfl rfl hF hx (by simp[*]) (by simp) hN (by first | omega | (simp only[Adw,Adx,Ady];omega)) ?_
 have A:(Ef ([u.stopRamp].map tx)).length≤100:=by
  have:=Jj (l:=[u.stopRamp]) hx (by simp[*])
  simp only[Adx,Ady] at this;omega
 refine Cr (ws:=[TH]) rfl rfl (by decide) (by simp) hN (by first | omega | (simp only[Adw,Adx,Ady];omega)) ?_
 have B:(Ef [TH]).length≤20:=by decide
 show Ai N [.int .i64 u.upTime,.int .i64 u.downTime,.int .i64 u.startTime] 3 false true _ _ _=_
 refine D2 (l:=[u.upTime,u.downTime,u.startTime]) rfl rfl hF hx (by simp[*]) (by simp) hN (by first | omega | (simp only[Adw,Adx,Ady];omega)) ?_
 have C:(Ef ([u.upTime,u.downTime,u.startTime].map tx)).length≤100:=by
  have:=Jj (l:=[u.upTime,u.downTime,u.startTime]) hx (by simp[*])
  simp only[Adx,Ady] at this;omega
 refine Cr (ws:=[f4]) rfl rfl (by decide) (by simp) hN (by first | omega | (simp only[Adw,Adx,Ady];omega)) ?_
 have D:(Ef [f4]).length≤20:=by decide
 show Ai N [.int .i64 u.hotCost,.int .i64 u.coldCost,.int .i64 u.hotHours] 3 false true _ _ _=_
 refine D2 (l:=[u.hotCost,u.coldCost,u.hotHours]) rfl rfl hF hx (by simp[*]) (by simp) hN (by first | omega | (simp only[Adw,Adx,Ady];omega)) ?_
 have G:(Ef ([u.hotCost,u.coldCost,u.hotHours].map tx)).length≤100:=by
  have:=Jj (l:=[u.hotCost,u.coldCost,u.hotHours]) hx (by simp[*])
  simp only[Adx,Ady] at this;omega
 refine Cr (ws:=[Mh]) rfl rfl (by decide) (by simp) hN (by first | omega | (simp only[Adw,Adx,Ady];omega)) ?_
 have I:(Ef [Mh]).length≤20:=by decide
 show Ai N [.int .i64 u.reserve,.int .i64 u.reservePrice] 2 false true _ _ _=_
 refine D2 (l:=[u.reserve,u.reservePrice]) rfl rfl hF hx (by simp[*]) (by simp) hN (by first | omega | (simp only[Adw,Adx,Ady];omega)) ?_
 have L:(Ef ([u.reserve,u.reservePrice].map tx)).length≤100:=by
  have:=Jj (l:=[u.reserve,u.reservePrice]) hx (by simp[*])
  simp only[Adx,Ady] at this;omega
 refine Cr (ws:=[GH]) rfl rfl (by decide) (by simp) hN (by first | omega | (simp only[Adw,Adx,Ady];omega)) ?_
 have M:(Ef [GH]).length≤20:=by decide
 show A6 1 (u.away.av 1 Fh::_) _=_
 rw[Bn,A4]
 refine D2 rfl rfl hF hx hI.a.1 hI.a.2 hN (by first | omega | (simp only[Adw,Adx,Ady];omega)) ?_
 show cond (Aj u.state 3) _ none=_
 rw[Ld hs,ct]
 obtain⟨sw,d,f,k⟩:∃ sw:A0,Ts u.state=[sw]∧sw.length≤16∧∀ F:A0→O R,Hz (drop (0+((Int.toNat u.state)*1)) [(.str sf),(.str GJ),(.str wo)]) F=F sw:=by
  unfold Dg at hs
  simp only[Ad3,decide_eq_true_eq] at hs
  have:u.state=0∨u.state=1∨u.state=2:=by omega
  rcases this with e | e | e<;>rw[e]
  ·exact⟨sf,rfl,by decide,fun F=>rfl⟩
  ·exact⟨GJ,rfl,by decide,fun F=>rfl⟩
  ·exact⟨wo,rfl,by decide,fun F=>rfl⟩
 refine(k _).trans ?_
 refine Cr (ws:=[GI,sw]) rfl rfl (by simp[f,GI]) (by simp) hN (by first | omega | (simp only[Adw,Adx,Ady];omega)) ?_
 have S:(Ef [GI,sw]).length≤40:=by simp[Ef,GI];omega
 show Ai N [.int .i64 u.hours,.int .i64 u.output] 2 false true _ _ _=_
 refine D2 (l:=[u.hours,u.output]) rfl rfl hF hx (by simp[*]) (by simp) hN (by first | omega | (simp only[Adw,Adx,Ady];omega)) ?_
 have U:(Ef ([u.hours,u.output].map tx)).length≤100:=by
  have:=Jj (l:=[u.hours,u.output]) hx (by simp[*])
  simp only[Adx,Ady] at this;omega
 rw[show ∀ X:Lu,X.length≤140000000000000→ble (X.length+1) 140737488355328=true from fun X h=>by simp;omega,ct]
 ·have eB:(((((((((bad||Ap [u.noLoad])||Ap [u.rampUp,u.rampDown])||Ap [u.startRamp])||Ap [u.stopRamp])||Ap [u.upTime,u.downTime,u.startTime])||Ap [u.hotCost,u.coldCost,u.hotHours])||Ap [u.reserve,u.reservePrice])||Ap u.away.l)||Ap [u.hours,u.output])=(bad||Qh u):=by unfold Qh;simp[Ap,Ael]
  rw[eB]
  refine congrArg (fun X=>K X (bad||Qh u)) ?_
  simp only[LK,d,Ef,Af3,Aen,Aft,Ad5,Aem,Aea,Aeb,Afr,Aej]
 ·simp only[Adw,Adx,Ady];omega
theorem gy {u:UnitD} {b:Bool} {K:Lu→Bool→O R} (hF:FI R N) (hx:Bp) (hN:1000000000<N) (hI:UnitI u) (hs:Dg u.state 3=true):∀ (m j fuel:Nat) (T:Lu) (bad:Bool),j+m=u.segs.l.length→m<fuel→T.length+62*m≤130000000000000 →
  Cy N K b u.av fuel (j:Int) T bad=K (T++Ef ((u.segs.l.drop j).flatMap WV)++Ef (LK u)++[10]) ((bad||(u.segs.l.drop j).any GK)||Qh u)
 | 0,j,fuel+1,T,bad,f,_,hT=>by
  refine(sA hF hx hN hI hs (by omega) (by omega)).trans ?_
  rw[show u.segs.l.drop j=[] from A5 (by omega),Aft,Ae2,Afk,show Ef []=[] from rfl,Aej]
 | m+1,j,fuel+1,T,bad,f,t,hT=>by
  have rs:∀ F:LA→Nat→O R,A6 2 (drop 4 u.av) F=F (u.segs.l.flatMap SegD.av) u.segs.l.length:=fun F=>by
   show A6 2 (u.segs.av 2 SegD.av::_) F=_
   rw[Bn]
  have h:j<u.segs.l.length:=by omega
  have v:=hI.s.2
  have d:=hI.s.1 _ (Ad9 h)
  have l1:=hx _ d.1
  have l2:=hx _ d.2
  have k:∀ F:Int→O R,Av .i64 (drop ((Int.toNat (j:Int))*2) (u.segs.l.flatMap SegD.av)) F=F (u.segs.l[j]).width:=fun F=>by rw[TX (e:=SegD.av) (sz:=2) (fun _=>rfl) h];rfl
  have n:∀ F:Int→O R,Av .i64 (drop 1 (drop ((Int.toNat (j:Int))*2) (u.segs.l.flatMap SegD.av))) F=F (u.segs.l[j]).price:=fun F=>by rw[TX (e:=SegD.av) (sz:=2) (fun _=>rfl) h];rfl
  rw[Cy];unfold Iw
  rw[rs,Fn h,ct,rs,Ab h,ct,k,rs,Ab h,ct,n,Oy (by omega)]
  refine D2 (l:=[(u.segs.l[j]).width,(u.segs.l[j]).price]) rfl rfl hF hx (by simp[d.1,d.2]) (by simp) hN (by omega) ?_
  have e:Ef ([(u.segs.l[j]).width,(u.segs.l[j]).price].map tx)=32::tx (u.segs.l[j]).width++(32::tx (u.segs.l[j]).price):=by simp[Ef]
  refine(gy hF hx hN hI hs m (j+1) fuel _ _ (by omega) (by omega) (by rw[e];simp only[Adw,Adx];omega)).trans ?_
  rw[A3 h,Aen,Aez]
  have q:Ef (WV u.segs.l[j]++(u.segs.l.drop (j+1)).flatMap WV)=Ef ([(u.segs.l[j]).width,(u.segs.l[j]).price].map tx)++Ef ((u.segs.l.drop (j+1)).flatMap WV):=by unfold Ef;rw[Af3];rfl
  rw[q,←Aea T]
  show K _ (((bad||GK u.segs.l[j])||_)||_)=K _ ((bad||(GK u.segs.l[j]||_))||_)
  rw[Ael bad]
theorem sB {c:CaseD} {u:UnitD} {g b bad:Bool} {T:Lu} {K:Lu→Bool→O R} (hF:FI R N) (hx:Bp) (hN:1000000000<N) (hI:UnitI u) (hs:Dg u.state 3=true) (d:Dg u.bus c.buses.l.length=true) (e:u.name.length≤16) (s1:(Bb (Bh c) u.bus).length≤16) (hT:T.length≤60000000000000) :
  Ke N c.av g u.av b T bad K=K (T++D3 (O9 (Bh c) u)) (bad||M1 u):=by
 have hn:=hI.n
 simp only[Ad6,Aei,or_false,forall_eq_or_imp,forall_eq] at hn
 obtain⟨n1,n2,_⟩:=hn
 have l1:=hx _ n1
 have l2:=hx _ n2
 have k:=hI.s.2
 rw[V6];unfold M7
 have f:∀ F:A0→O R,Hz u.av F=F u.name:=fun F=>rfl
 have j:∀ F:Int→O R,Av .i64 (drop 1 u.av) F=F u.bus:=fun F=>rfl
 rw[show ble (T.length+4) 140737488355328=true by simp;omega,ct,f,Bi,j,Ld d,ct,PK d]
 refine Cr (ws:=[u.name,Bb (Bh c) u.bus,PG]) rfl rfl (by simp[e,s1,PG]) (by simp) hN (by simp only[Adw,Adx,Ady];omega) ?_
 have m:(Ef [u.name,Bb (Bh c) u.bus,PG]).length≤100:=by
  have:=Yi (ws:=[u.name,Bb (Bh c) u.bus,PG]) (B:=16) (by simp[e,s1,PG])
  simp only[Adx,Ady] at this;omega
 show Ai N [.int .i64 u.min] 1 false true _ _ _=_
 refine D2 (l:=[u.min]) rfl rfl hF hx (by simp[*]) (by simp) hN (by simp only[Adw,Adx,Ady];omega) ?_
 have q:(Ef ([u.min].map tx)).length≤40:=by simp[Ef];omega
 refine Cr (ws:=[jg]) rfl rfl (by decide) (by simp) hN (by simp only[Adw,Adx,Ady];omega) ?_
 have t:(Ef [jg]).length≤20:=by decide
 show Ai N [.int .i64 u.max] 1 false true _ _ _=_
 refine D2 (l:=[u.max]) rfl rfl hF hx (by simp[*]) (by simp) hN (by simp only[Adw,Adx,Ady];omega) ?_
 have v:(Ef ([u.max].map tx)).length≤40:=by simp[Ef];omega
 refine Cr (ws:=[Tq]) rfl rfl (by decide) (by simp) hN (by simp only[Adw,Adx,Ady];omega) ?_
 have x:(Ef [Tq]).length≤20:=by decide
 refine(gy hF hx hN hI hs u.segs.l.length 0 N _ _ (by omega) (by omega) (by simp only[Adw,Adx,Ady];omega)).trans ?_
 rw[Aeg]
 have eB:((((bad||Ap [u.min])||Ap [u.max])||u.segs.l.any GK)||Qh u)=(bad||M1 u):=by unfold M1 Qh;simp[Ap,Ael]
 have eW:O9 (Bh c) u=fX::([u.name,Bb (Bh c) u.bus,PG]++([u.min].map tx++([jg]++([u.max].map tx++([Tq]++(u.segs.l.flatMap WV++LK u)))))):=rfl
 rw[eB,eW,D3,I8]
 refine congrArg (fun X=>K X (bad||M1 u)) ?_
 simp only[Ef,Af3,Aea]
 rfl
theorem gz {c:CaseD} {o:OutD} {d f b:Bool} {K:Lu→Bool→O R} (hF:FI R N) (hx:Bp) (hN:1000000000<N) (hI:OutI o) (hU:∀ s ∈ Bt c,s.length≤16) (n:∀ m ∈ o.moves.l,Dg m.unit c.units.l.length=true):∀ (m j fuel:Nat) (T:Lu) (bad:Bool),j+m=o.moves.l.length→m<fuel→T.length+79*m≤130000000000000 →
  Dt N K d c.av f o.av b fuel (j:Int) T bad=K (T++Ef ((o.moves.l.drop j).flatMap (Vl (Bt c)))++[10]) (bad||(o.moves.l.drop j).any GL)
 | 0,j,fuel+1,T,bad,q,_,hT=>by
  have rs:∀ F:LA→Nat→O R,A6 3 (drop 3 o.av) F=F (o.moves.l.flatMap MoveD.av) o.moves.l.length:=fun F=>by
   show A6 3 (o.moves.av 3 MoveD.av::_) F=_
   rw[Bn]
  rw[Dt];unfold G2
  rw[rs,F9 (by omega),cf,show ble (T.length+1) 140737488355328=true by simp;omega,ct,show o.moves.l.drop j=[] from A5 (by omega),Ae2,Afk,Aft,show Ef []=[] from rfl,Aej]
 | m+1,j,fuel+1,T,bad,q,y,hT=>by
  have rs:∀ F:LA→Nat→O R,A6 3 (drop 3 o.av) F=F (o.moves.l.flatMap MoveD.av) o.moves.l.length:=fun F=>by
   show A6 3 (o.moves.av 3 MoveD.av::_) F=_
   rw[Bn]
  have h:j<o.moves.l.length:=by omega
  have z:=hI.m.2
  have k:=hI.m.1 _ (Ad9 h)
  have hq:=n _ (Ad9 h)
  have l1:=hx _ k.1
  have l2:=hx _ k.2
  have l3:=Bl hU (o.moves.l[j]).unit
  have t:∀ F:Int→O R,Av .i64 (drop ((Int.toNat (j:Int))*3) (o.moves.l.flatMap MoveD.av)) F=F (o.moves.l[j]).unit:=fun F=>by rw[TX (e:=MoveD.av) (sz:=3) (fun _=>rfl) h];rfl
  have u:∀ F:Int→O R,Av .i64 (drop 1 (drop ((Int.toNat (j:Int))*3) (o.moves.l.flatMap MoveD.av))) F=F (o.moves.l[j]).up:=fun F=>by rw[TX (e:=MoveD.av) (sz:=3) (fun _=>rfl) h];rfl
  have v:∀ F:Int→O R,Av .i64 (drop 2 (drop ((Int.toNat (j:Int))*3) (o.moves.l.flatMap MoveD.av))) F=F (o.moves.l[j]).down:=fun F=>by rw[TX (e:=MoveD.av) (sz:=3) (fun _=>rfl) h];rfl
  rw[Dt];unfold G2
  rw[rs,Fn h,ct,Dd,rs,Ab h,ct,t,Ld hq,ct,xd hq]
  refine Cr (ws:=[Bb (Bt c) (o.moves.l[j]).unit]) rfl rfl (by simp[l3]) (by simp) hN (by omega) ?_
  rw[rs,Ab h,ct,u,rs,Ab h,ct,v,Oy (by omega)]
  have e1:Ef [Bb (Bt c) (o.moves.l[j]).unit]=32::Bb (Bt c) (o.moves.l[j]).unit:=by simp[Ef]
  refine D2 (l:=[(o.moves.l[j]).up,(o.moves.l[j]).down]) rfl rfl hF hx (by simp[k.1,k.2]) (by simp) hN (by rw[e1];simp only[Adw,Adx];omega) ?_
  have e:Ef ([(o.moves.l[j]).up,(o.moves.l[j]).down].map tx)=32::tx (o.moves.l[j]).up++(32::tx (o.moves.l[j]).down):=by simp[Ef]
  refine(gz hF hx hN hI hU n m (j+1) fuel _ _ (by omega) (by omega) (by rw[e,e1];simp only[Adw,Adx];omega)).trans ?_
  rw[A3 h,Aen,Aez]
  have x:Ef (Vl (Bt c) o.moves.l[j]++(o.moves.l.drop (j+1)).flatMap (Vl (Bt c)))=Ef [Bb (Bt c) (o.moves.l[j]).unit]++(Ef ([(o.moves.l[j]).up,(o.moves.l[j]).down].map tx)++Ef ((o.moves.l.drop (j+1)).flatMap (Vl (Bt c)))):=by unfold Ef;rw[Af3];simp[Vl]
  rw[x,←Aea T,←Aea (T++_)]
  show K _ ((bad||GL o.moves.l[j])||_)=K _ (bad||(GL o.moves.l[j]||_))
  rw[Ael bad]
theorem hG {c:CaseD} {o:OutD} {d f bad:Bool} {K:Lu→Bool→O R} (hF:FI R N) (hx:Bp) (hN:1000000000<N) (hI:OutI o) (hL:∀ s ∈ Cl c,s.length≤16) (hU:∀ s ∈ Bt c,s.length≤16) (k:∀ l ∈ o.lines.l,Dg l c.lines.l.length=true) (n:∀ m ∈ o.moves.l,Dg m.unit c.units.l.length=true) (e:UM o=true):∀ (m j fuel:Nat) (T:Lu),j+m=o.lines.l.length→m<fuel→T.length+17*m≤110000000000000 →
  C0 N K bad d c.av f o.av fuel (j:Int) T=K (T++Ef ((o.lines.l.drop j).map (Bb (Cl c))++(cond o.corr [Ii] []++o.moves.l.flatMap (Vl (Bt c))))++[10]) (bad||Gz o)
 | 0,j,fuel+1,T,q,_,hT=>by
  have rl:∀ F:LA→Nat→O R,A6 1 (drop 1 o.av) F=F (Az o.lines.l) o.lines.l.length:=fun F=>by
   show A6 1 (o.lines.av 1 Fh::_) F=_
   rw[Bn,A4]
  rw[C0];unfold G3
  rw[rl,F9 (by omega),cf,show o.lines.l.drop j=[] from A5 (by omega)]
  show cond o.corr _ _=_
  unfold UM at e
  cases t:o.corr with
  | true =>
   rw[ct]
   refine Cr (ws:=[Ii]) rfl rfl (by decide) (by simp) hN (by omega) ?_
   have v:(Ef [Ii]).length≤20:=by decide
   have x:=hI.m.2
   refine(gz hF hx hN hI hU n o.moves.l.length 0 N _ bad (by omega) (by omega) (by simp only[Adw];omega)).trans ?_
   rw[Aeg]
   show K _ (bad||Gz o)=_
   refine congrArg (fun X=>K X (bad||Gz o)) ?_
   simp[Ef]
  | false =>
   rw[t,Aew,List.isEmpty_iff] at e
   rw[cf,show ble (T.length+1) 140737488355328=true by simp;omega,ct]
   have:Gz o=false:=by unfold Gz;rw[e];rfl
   rw[this,e,Afk]
   refine congrArg (fun X=>K X bad) ?_
   simp[Ef]
 | m+1,j,fuel+1,T,q,y,hT=>by
  have rl:∀ F:LA→Nat→O R,A6 1 (drop 1 o.av) F=F (Az o.lines.l) o.lines.l.length:=fun F=>by
   show A6 1 (o.lines.av 1 Fh::_) F=_
   rw[Bn,A4]
  have h:j<o.lines.l.length:=by omega
  have u:=hI.l
  have hq:=k _ (Ad9 h)
  have l3:=Bl hL o.lines.l[j]
  rw[C0];unfold G3
  rw[rl,Fn h,ct,C1,rl,Ab h,ct,Zg h,Ld hq,ct,xc hq]
  refine Cr (ws:=[Bb (Cl c) o.lines.l[j]]) rfl rfl (by simp[l3]) (by simp) hN (by omega) ?_
  have e1:Ef [Bb (Cl c) o.lines.l[j]]=32::Bb (Cl c) o.lines.l[j]:=by simp[Ef]
  rw[Oy (by omega)]
  refine(hG hF hx hN hI hL hU k n e m (j+1) fuel _ (by omega) (by omega) (by rw[e1];simp only[Adw,Adx];omega)).trans ?_
  rw[A3 h,Ad5,e1]
  refine congrArg (fun X=>K X (bad||Gz o)) ?_
  rw[Aeb,AK]
  simp only[Aea,Aeb]
end
end Gx.Ct
namespace Gx.Ct
open Go Go.Proofs Gx.Cf
theorem uV {R:Type} {N:Nat} {c:CaseD} {o:OutD} {d f bad:Bool} {T:Lu} {K:Lu→Bool→O R} (hF:FI R N) (hx:Bp) (hN:1000000000<N) (hI:OutI o) (hL:∀ s ∈ Cl c,s.length≤16) (hU:∀ s ∈ Bt c,s.length≤16) (k:∀ l ∈ o.lines.l,Dg l c.lines.l.length=true) (n:∀ m ∈ o.moves.l,Dg m.unit c.units.l.length=true) (e:UM o=true) (j:o.name.length≤16) (hT:T.length≤60000000000000) :
  Hu N c.av d o.av f T bad K=K (T++D3 (Qp (Cl c) (Bt c) o)) (bad||Gz o):=by
 rw[Sk];unfold J4
 have q:∀ F:A0→O R,Hz o.av F=F o.name:=fun F=>rfl
 rw[show ble (T.length+6) 140737488355328=true by simp;omega,ct,q]
 have u:(Ef [o.name,Rx]).length≤100:=by
  have:=Yi (ws:=[o.name,Rx]) (B:=16) (by simp[j,Rx])
  simp only[Adx,Ady] at this;omega
 have t:=hI.l
 refine Cr (ws:=[o.name,Rx]) rfl rfl (by simp[j,Rx]) (by simp) hN (by simp only[Adw,Adx,Ady];omega) ?_
 refine(hG hF hx hN hI hL hU k n e o.lines.l.length 0 N _ (by omega) (by omega) (by simp only[Adw,Adx,Ady];omega)).trans ?_
 refine congrArg (fun X=>K X (bad||Gz o)) ?_
 rw[Aeg,D3]
 unfold Qp
 rw[Aeb,I8]
 simp[Ef,Zh]
def sh (x:A0):Prop:=x.length≤61
theorem YB {x:A0} (h:x.length≤16):sh x:=Afi h (by decide)
theorem MM (hx:Bp) {z:Int} (h:Rh z):sh (tx z):=Afi (hx z h) (by decide)
theorem RU (hx:Bp) {l:List Int} (h:∀ z ∈ l,Rh z):∀ x ∈ l.map tx,sh x:=fun x d=>by
 obtain⟨z,e,rfl⟩:=Aef.1 d;exact MM hx (h z e)
theorem T4 {ws:List A0} (h:∀ x ∈ ws,sh x) (hn:ws.length≤4000000100):(D3 ws).length≤300000000000:=by
 rw[D3,Adw]
 cases ws with
 | nil=>simp[jh]
 | cons w r =>
  rw[I8,Adw]
  have e:w.length≤61:=h w (by simp)
  have d:(Ef r).length≤62*r.length:=Yi (B:=61) fun x hx=>h x (by simp[hx])
  unfold Ef at d
  simp only[Adx,Ady] at hn ⊢
  omega
theorem Lr (w:A0) (d:decide (w.length≤61)):sh w:=by simpa[sh] using d
theorem wN (l:List SegD):(l.flatMap WV).length=2*l.length:=by
 induction l with
 | nil=>rfl
 | cons a r d=>rw[Aen,Adw,d,Adx,show(WV a).length=2 from rfl];omega
theorem uW (U:List A0) (l:List MoveD):(l.flatMap (Vl U)).length=3*l.length:=by
 induction l with
 | nil=>rfl
 | cons a r d=>rw[Aen,Adw,d,Adx,show(Vl U a).length=3 from rfl];omega
theorem sC (s:Int):(Ts s).length≤1:=by unfold Ts;split;decide;split;decide;split<;>decide
theorem uX (s:Int):∀ x ∈ Ts s,sh x:=fun x hx=>by
 unfold Ts at hx
 split at hx
 ·rw[Ae6] at hx;subst hx;exact Lr _ (by decide)
 ·split at hx
  ·rw[Ae6] at hx;subst hx;exact Lr _ (by decide)
  ·split at hx
   ·rw[Ae6] at hx;subst hx;exact Lr _ (by decide)
   ·cases hx
section
variable {c:CaseD} (hx:Bp) (h:Ready c)
include hx h
theorem uY:(D3 (PH c)).length≤300000000000:=by
 have hr:=h.i.r
 refine T4 (fun x d=>?_) (by have:=hr.2;simp[PH];omega)
 unfold PH at d
 simp only[Ad6,Ad7,Aei,or_false,or_assoc] at d
 rcases d with rfl | rfl | rfl | d
 ·exact Lr _ (by decide)
 ·exact MM hx h.i.h
 ·exact Lr _ (by decide)
 ·exact RU hx hr.1 _ d
theorem wO {b:BusD} (f:b ∈ c.buses.l):(D3 (WU b)).length≤300000000000:=by
 have hI:=h.i.b b f
 have hr:=hI.d
 refine T4 (fun x e=>?_) (by have:=hr.2;simp[WU];omega)
 unfold WU at e
 simp only[Ad6,Ad7,Aei,or_false,or_assoc] at e
 rcases e with rfl | rfl | rfl | e | rfl | rfl
 ·exact Lr _ (by decide)
 ·exact YB (h.bn _ (Aef.2 ⟨b,f,rfl⟩))
 ·exact Lr _ (by decide)
 ·exact RU hx hr.1 _ e
 ·exact Lr _ (by decide)
 ·exact MM hx hI.s
theorem uZ {l:LineD} (e:l ∈ c.lines.l):(D3 (Ry (Bh c) l)).length≤300000000000:=by
 have hI:=h.i.l l e
 refine T4 (fun x d=>?_) (by have:=hI.a.2;simp[Ry];omega)
 unfold Ry at d
 simp only[Ad6,Ad7,Aei,or_false,or_assoc] at d
 rcases d with rfl | rfl | rfl | rfl | rfl | rfl | rfl | rfl | rfl | rfl | rfl | rfl | rfl | d
 ·exact Lr _ (by decide)
 ·exact YB (h.ln _ (Aef.2 ⟨l,e,rfl⟩))
 ·exact YB (Bl h.bn _)
 ·exact YB (Bl h.bn _)
 ·exact Lr _ (by decide)
 ·exact V9 hx hI.f1.1 hI.f1.2
 ·exact Lr _ (by decide)
 ·exact V9 hx hI.f2.1 hI.f2.2
 ·exact V9 hx hI.f3.1 hI.f3.2
 ·exact Lr _ (by decide)
 ·exact MM hx hI.n.1
 ·exact MM hx hI.n.2
 ·exact Lr _ (by decide)
 ·exact RU hx hI.a.1 _ d
theorem u4 {u:UnitD} (e:u ∈ c.units.l):(D3 (O9 (Bh c) u)).length≤300000000000:=by
 have hI:=h.i.u u e
 have ln:=sC u.state
 refine T4 (fun x d=>?_) (by
  have:=hI.a.2
  have:=hI.s.2
  unfold O9
  simp only[Adw,Adx,Ady,wN,Af4];omega)
 unfold O9 at d
 simp only[Ad6,Ad7,Aei,or_false,or_assoc,Agq] at d
 rcases d with rfl | rfl | rfl | rfl | rfl | rfl | rfl | rfl | ⟨s,hs,d⟩ | rfl | rfl | rfl | rfl | rfl | rfl | rfl | rfl | rfl | rfl | rfl | rfl | rfl | rfl | rfl | rfl | rfl | rfl | rfl | rfl | rfl | d | rfl | d | rfl | rfl
 all_goals first
  | exact Lr _ (by decide)
  | exact MM hx (hI.n _ (by simp))
  | exact YB (h.un _ (Aef.2 ⟨u,e,rfl⟩))
  | exact YB (Bl h.bn _)
  | exact RU hx hI.a.1 _ d
  | exact uX _ _ d
  | skip
 simp only[WV,Ad6,Aei,or_false,or_assoc] at d
 rcases d with rfl | rfl
 ·exact MM hx (hI.s.1 s hs).1
 ·exact MM hx (hI.s.1 s hs).2
theorem sD {s:StoreD} (e:s ∈ c.stores.l):(D3 (H3 (Bh c) s)).length≤300000000000:=by
 have hI:=h.i.s s e
 refine T4 (fun x d=>?_) (by simp[H3])
 unfold H3 at d
 simp only[Ad6,Aei,or_false,or_assoc] at d
 rcases d with rfl | rfl | rfl | rfl | rfl | rfl | rfl | rfl | rfl | rfl | rfl | rfl | rfl
 all_goals first
  | exact Lr _ (by decide)
  | exact MM hx (hI.n _ (by simp))
  | exact YB (h.sn _ (Aef.2 ⟨s,e,rfl⟩))
  | exact YB (Bl h.bn _)
  | exact V9 hx (hI.n _ (by simp)) (hI.n _ (by simp))
theorem wQ {t:TieD} (f:t ∈ c.ties.l):(D3 (Wf (Bh c) t)).length≤300000000000:=by
 have hI:=h.i.t t f
 refine T4 (fun x d=>?_) (by have:=hI.i.2;have:=hI.e.2;have:=hI.p.2;simp[Wf];omega)
 unfold Wf at d
 simp only[Ad6,Ad7,Aei,or_false,or_assoc] at d
 rcases d with rfl | rfl | rfl | rfl | d | rfl | d | rfl | d
 all_goals first
  | exact Lr _ (by decide)
  | exact YB (h.tn _ (Aef.2 ⟨t,f,rfl⟩))
  | exact YB (Bl h.bn _)
  | exact RU hx hI.i.1 _ d
  | exact RU hx hI.e.1 _ d
  | exact RU hx hI.p.1 _ d
theorem wR {o:OutD} (f:o ∈ c.outs.l):(D3 (Qp (Cl c) (Bt c) o)).length≤300000000000:=by
 have hI:=h.i.o o f
 refine T4 (fun x d=>?_) (by
  have:=hI.l
  have:=hI.m.2
  have:(cond o.corr [Ii] ([]:List A0)).length≤1:=by cases o.corr<;>decide
  unfold Qp
  simp only[Adw,Adx,Ady,uW,Af4];omega)
 unfold Qp at d
 simp only[Ad6,Ad7,Aei,or_false,or_assoc,Aef,Agq] at d
 rcases d with rfl | rfl | rfl | ⟨l,k,rfl⟩ | d | ⟨m,e,d⟩
 ·exact Lr _ (by decide)
 ·exact YB (h.on _ (Aef.2 ⟨o,f,rfl⟩))
 ·exact Lr _ (by decide)
 ·exact YB (Bl h.ln _)
 ·cases j:o.corr<;>rw[j] at d
  ·cases d
  ·rw[cond_true,Ae6] at d;subst d;exact Lr _ (by decide)
 ·simp only[Vl,Ad6,Aei,or_false,or_assoc] at d
  rcases d with rfl | rfl | rfl
  ·exact YB (Bl h.un _)
  ·exact MM hx (hI.m.1 m e).1
  ·exact MM hx (hI.m.1 m e).2
end
end Gx.Ct
namespace Gx.Ct
open Go Go.Proofs Gx.Cf
section
variable {R:Type} {N:Nat} {c:CaseD} {a:Bool} {K:List UInt8→Bool→O R}
theorem Ready.ks {c:CaseD} (h:Ready c):∀ u ∈ c.units.l,Dg u.state 3=true:=by
 have d:=h.k
 unfold Mn at d
 simp only[Ad3,Ae3] at d
 exact fun u e=>(d.2.1 u e).2
theorem tM {n m:Nat} (h:n≤60000000000000) (d:m≤1000):ble (n+m) 140737488355328=true:=by simp;omega
theorem Yr (ws:List A0) (r:List (List A0)):(ws::r).flatMap D3=D3 ws++r.flatMap D3:=rfl
theorem hY (hF:FI R N) (hx:Bp) (hN:1000000000<N) (h:Ready c) (k:Fc c=true):∀ (m j fuel:Nat) (T:Lu) (bad:Bool),j+m=c.outs.l.length→m<fuel→T.length+300000000000*(m)≤60000000000000 →
  Er N K (c.outs.l.flatMap OutD.av) c.outs.l.length a c.av fuel (c.outs.l.length:Int) (j:Int) T bad =
   K (T++((c.outs.l.drop j).map (Qp (Cl c) (Bt c))).flatMap D3) (bad||((c.outs.l.drop j).any Gz))
 | 0,j,fuel+1,T,bad,n,_,hT=>by
  rw[Er];unfold Ix
  have q:=h.cnt
  rw[F9 (by omega),cf,show c.outs.l.drop j=[] from A5 (by omega),Aem,Ae2]
  show K _ _=K (T++[]) (bad||false)
  rw[Afk,Aej]
 | m+1,j,fuel+1,T,bad,n,t,hT=>by
  rw[Er];unfold Ix
  have d:j<c.outs.l.length:=by omega
  have q:=h.cnt
  have f:(c.outs.l[j]) ∈ c.outs.l:=Ad9 d
  have u:=wR hx h f
  have hT':T.length≤59700000000000:=by omega
  rw[Fn d,ct,Ab d,ct,Cq (e:=OutD.av) (sz:=4) (fun _=>rfl) d,ct,Br (e:=OutD.av) (sz:=4) (fun _=>rfl) d,show((beq 0 0)&&((beq ((OutD.av c.outs.l[j]).length) 4)&&(beq 4 4)))=true from rfl,ct]
  have s:=fun bad=>hY hF hx hN h k m (j+1) fuel (T++D3 (Qp (Cl c) (Bt c) c.outs.l[j])) bad (by omega) (by omega) (by rw[Adw];omega)
  rw[A3 d,Ad5,Aez,Yr,←Aea]
  rw[Dx,ct,show ble 4 (OutD.av c.outs.l[j]).length=true from rfl,ct,Bx,show take 4 (OutD.av c.outs.l[j])=OutD.av c.outs.l[j] from rfl,uV hF hx hN (h.i.o _ f) h.ln h.un (h.kn.2.2.2.2 _ f).1 (h.kn.2.2.2.2 _ f).2 (Ae3.1 k _ f) (h.on _ (Aef.2 ⟨_,f,rfl⟩)) (by omega),Oy (by omega)]
  refine(s _).trans ?_
  rw[Ael]
theorem hZ (hF:FI R N) (hx:Bp) (hN:1000000000<N) (h:Ready c) (f:Fc c=true):∀ (m j fuel:Nat) (T:Lu) (bad:Bool),j+m=c.ties.l.length→m<fuel→T.length+300000000000*(m+c.outs.l.length)≤60000000000000 →
  Dk N K (c.ties.l.flatMap TieD.av) c.ties.l.length a c.av fuel (c.ties.l.length:Int) (j:Int) T bad =
   K (T++((c.ties.l.drop j).map (Wf (Bh c))++(c.outs.l.map (Qp (Cl c) (Bt c)))).flatMap D3) (bad||((c.ties.l.drop j).any Ph||(c.outs.l.any Gz)))
 | 0,j,fuel+1,T,bad,s,_,hT=>by
  rw[Dk];unfold Iy
  have u:=h.cnt
  rw[F9 (by omega),cf,show c.ties.l.drop j=[] from A5 (by omega),Aem,Ae2]
  rw[Fb]
  refine(hY (a:=a) hF hx hN h f c.outs.l.length 0 N T bad (by omega) (by omega) (by omega)).trans ?_
  rw[Aeg,Aew];rfl
 | m+1,j,fuel+1,T,bad,s,x,hT=>by
  rw[Dk];unfold Iy
  have d:j<c.ties.l.length:=by omega
  have u:=h.cnt
  have k:(c.ties.l[j]) ∈ c.ties.l:=Ad9 d
  have y:=wQ hx h k
  have hT':T.length≤59700000000000:=by omega
  rw[Fn d,ct,Ab d,ct,Cq (e:=TieD.av) (sz:=5) (fun _=>rfl) d,ct,Br (e:=TieD.av) (sz:=5) (fun _=>rfl) d,show((beq 0 0)&&((beq ((TieD.av c.ties.l[j]).length) 5)&&(beq 5 5)))=true from rfl,ct]
  have v:=fun bad=>hZ hF hx hN h f m (j+1) fuel (T++D3 (Wf (Bh c) c.ties.l[j])) bad (by omega) (by omega) (by rw[Adw];omega)
  rw[A3 d,Ad5,Aez,Aeb,Yr,←Aea]
  have hI:=h.i.t _ k
  have n:=h.kn.2.2.2.1 _ k
  have q:(c.ties.l[j]).name.length≤16:=h.tn _ (Aef.2 ⟨_,k,rfl⟩)
  have s1:=Bl h.bn (c.ties.l[j]).bus
  rw[tM (by omega) (by decide),ct,show ∀ F:A0→O R,Hz (c.ties.l[j]).av F=F (c.ties.l[j]).name from fun _=>rfl,Bi]
  show cond (Aj (c.ties.l[j]).bus c.buses.l.length) _ none=_
  rw[Ld n,ct,PK n]
  refine Cr (ws:=[(c.ties.l[j]).name,Bb (Bh c) (c.ties.l[j]).bus,Rw]) rfl rfl (by simp[q,s1,Rw]) (by simp) hN (by simp only[Adw,Adx,Ady];omega) ?_
  have z:(Ef [(c.ties.l[j]).name,Bb (Bh c) (c.ties.l[j]).bus,Rw]).length≤100:=by
   have:=Yi (ws:=[(c.ties.l[j]).name,Bb (Bh c) (c.ties.l[j]).bus,Rw]) (B:=16) (by simp[q,s1,Rw])
   simp only[Adx,Ady] at this;omega
  show A6 1 ((c.ties.l[j]).imp.av 1 Fh::_) _=_
  rw[Bn,A4]
  refine D2 rfl rfl hF hx hI.i.1 hI.i.2 hN (by simp only[Adw,Adx,Ady];omega) ?_
  have A:(Ef ((c.ties.l[j]).imp.l.map tx)).length≤31*(c.ties.l[j]).imp.l.length:=Jj hx hI.i.1
  have C:=hI.i.2
  refine Cr (ws:=[K']) rfl rfl (by decide) (by simp) hN (by simp only[Adw,Adx,Ady];omega) ?_
  have D:(Ef [K']).length≤20:=by decide
  show A6 1 ((c.ties.l[j]).exp.av 1 Fh::_) _=_
  rw[Bn,A4]
  refine D2 rfl rfl hF hx hI.e.1 hI.e.2 hN (by simp only[Adw,Adx,Ady];omega) ?_
  have G:(Ef ((c.ties.l[j]).exp.l.map tx)).length≤31*(c.ties.l[j]).exp.l.length:=Jj hx hI.e.1
  have I:=hI.e.2
  refine Cr (ws:=[TI]) rfl rfl (by decide) (by simp) hN (by simp only[Adw,Adx,Ady];omega) ?_
  have L:(Ef [TI]).length≤20:=by decide
  show A6 1 ((c.ties.l[j]).price.av 1 Fh::_) _=_
  rw[Bn,A4]
  refine D2 rfl rfl hF hx hI.p.1 hI.p.2 hN (by simp only[Adw,Adx,Ady];omega) ?_
  have M:(Ef ((c.ties.l[j]).price.l.map tx)).length≤31*(c.ties.l[j]).price.l.length:=Jj hx hI.p.1
  have S:=hI.p.2
  rw[show ∀ X:Lu,X.length≤140000000000000→ble (X.length+1) 140737488355328=true from fun X h=>by simp;omega,ct]
  ·rw[Oy (by omega)]
   have eB:(((bad||Ap (c.ties.l[j]).imp.l)||Ap (c.ties.l[j]).exp.l)||Ap (c.ties.l[j]).price.l)=(bad||Ph c.ties.l[j]):=by unfold Ph;simp[Ael]
   rw[eB]
   refine Agl ?_ ((v (bad||Ph c.ties.l[j])).trans ?_)
   ·refine congrArg (fun X=>Dk N K _ _ _ _ fuel _ _ X _) ?_
    rw[D3]
    unfold Wf
    simp only[Aeb,I8,Aea]
    simp[Ef,o8]
   ·simp only[Ael]
  ·simp only[Adw,Adx,Ady];omega
theorem VF (hF:FI R N) (hx:Bp) (hN:1000000000<N) (h:Ready c) (f:Fc c=true):∀ (m j fuel:Nat) (T:Lu) (bad:Bool),j+m=c.stores.l.length→m<fuel→T.length+300000000000*(m+(c.ties.l.length+c.outs.l.length))≤60000000000000 →
  Dl N K (c.stores.l.flatMap StoreD.av) c.stores.l.length a c.av fuel (c.stores.l.length:Int) (j:Int) T bad =
   K (T++((c.stores.l.drop j).map (H3 (Bh c))++(c.ties.l.map (Wf (Bh c))++(c.outs.l.map (Qp (Cl c) (Bt c))))).flatMap D3) (bad||((c.stores.l.drop j).any Ij||(c.ties.l.any Ph||(c.outs.l.any Gz))))
 | 0,j,fuel+1,T,bad,u,_,hT=>by
  rw[Dl];unfold Iz
  have v:=h.cnt
  rw[F9 (by omega),cf,show c.stores.l.drop j=[] from A5 (by omega),Aem,Ae2]
  rw[Gy]
  refine(hZ (a:=a) hF hx hN h f c.ties.l.length 0 N T bad (by omega) (by omega) (by omega)).trans ?_
  rw[Aeg,Aew];rfl
 | m+1,j,fuel+1,T,bad,u,y,hT=>by
  rw[Dl];unfold Iz
  have d:j<c.stores.l.length:=by omega
  have v:=h.cnt
  have k:(c.stores.l[j]) ∈ c.stores.l:=Ad9 d
  have z:=sD hx h k
  have hT':T.length≤59700000000000:=by omega
  rw[Fn d,ct,Ab d,ct,Cq (e:=StoreD.av) (sz:=9) (fun _=>rfl) d,ct,Br (e:=StoreD.av) (sz:=9) (fun _=>rfl) d,show((beq 0 0)&&((beq ((StoreD.av c.stores.l[j]).length) 9)&&(beq 9 9)))=true from rfl,ct]
  have x:=fun bad=>VF hF hx hN h f m (j+1) fuel (T++D3 (H3 (Bh c) c.stores.l[j])) bad (by omega) (by omega) (by rw[Adw];omega)
  rw[A3 d,Ad5,Aez,Aeb,Yr,←Aea]
  have hn:=(h.i.s _ k).n
  simp only[Ad6,Aei,or_false,forall_eq_or_imp,forall_eq] at hn
  obtain⟨n1,n2,n3,n4,n5,n6,n7⟩:=hn
  have q:=h.kn.2.2.1 _ k
  have t:(c.stores.l[j]).name.length≤16:=h.sn _ (Aef.2 ⟨_,k,rfl⟩)
  have s1:=Bl h.bn (c.stores.l[j]).bus
  rw[tM (by omega) (by decide),ct,show ∀ F:A0→O R,Hz (c.stores.l[j]).av F=F (c.stores.l[j]).name from fun _=>rfl,Bi]
  show cond (Aj (c.stores.l[j]).bus c.buses.l.length) _ none=_
  rw[Ld q,ct,PK q]
  refine Cr (ws:=[(c.stores.l[j]).name,Bb (Bh c) (c.stores.l[j]).bus,Np]) rfl rfl (by simp[t,s1,Np]) (by simp) hN (by simp only[Adw,Adx,Ady];omega) ?_
  have A:(Ef [(c.stores.l[j]).name,Bb (Bh c) (c.stores.l[j]).bus,Np]).length≤100:=by
   have:=Yi (ws:=[(c.stores.l[j]).name,Bb (Bh c) (c.stores.l[j]).bus,Np]) (B:=16) (by simp[t,s1,Np])
   simp only[Adx,Ady] at this;omega
  show Ai N [.int .i64 (c.stores.l[j]).capacity] 1 false true _ _ _=_
  refine D2 (l:=[(c.stores.l[j]).capacity]) rfl rfl hF hx (by simp[*]) (by simp) hN (by simp only[Adw,Adx,Ady];omega) ?_
  have C:(Ef ([(c.stores.l[j]).capacity].map tx)).length≤100:=by
   have:=Jj (l:=[(c.stores.l[j]).capacity]) hx (by simp[*])
   simp only[Adx,Ady] at this;omega
  refine Cr (ws:=[dP]) rfl rfl (by decide) (by simp) hN (by simp only[Adw,Adx,Ady];omega) ?_
  have D:(Ef [dP]).length≤20:=by decide
  show Ai N [.int .i64 (c.stores.l[j]).initial,.int .i64 (c.stores.l[j]).final] 2 false true _ _ _=_
  refine D2 (l:=[(c.stores.l[j]).initial,(c.stores.l[j]).final]) rfl rfl hF hx (by simp[*]) (by simp) hN (by simp only[Adw,Adx,Ady];omega) ?_
  have G:(Ef ([(c.stores.l[j]).initial,(c.stores.l[j]).final].map tx)).length≤100:=by
   have:=Jj (l:=[(c.stores.l[j]).initial,(c.stores.l[j]).final]) hx (by simp[*])
   simp only[Adx,Ady] at this;omega
  refine Cr (ws:=[lx]) rfl rfl (by decide) (by simp) hN (by simp only[Adw,Adx,Ady];omega) ?_
  have I:(Ef [lx]).length≤20:=by decide
  show Ai N [.int .i64 (c.stores.l[j]).charge,.int .i64 (c.stores.l[j]).discharge] 2 false true _ _ _=_
  refine D2 (l:=[(c.stores.l[j]).charge,(c.stores.l[j]).discharge]) rfl rfl hF hx (by simp[*]) (by simp) hN (by simp only[Adw,Adx,Ady];omega) ?_
  have L:(Ef ([(c.stores.l[j]).charge,(c.stores.l[j]).discharge].map tx)).length≤100:=by
   have:=Jj (l:=[(c.stores.l[j]).charge,(c.stores.l[j]).discharge]) hx (by simp[*])
   simp only[Adx,Ady] at this;omega
  refine Cr (ws:=[Xn]) rfl rfl (by decide) (by simp) hN (by simp only[Adw,Adx,Ady];omega) ?_
  have M:(Ef [Xn]).length≤20:=by decide
  show cond true (cond (!a||Ax [AV.int .i64 (c.stores.l[j]).eff.num,.int .i64 (c.stores.l[j]).eff.den]) (cond true (Cv N [.int .i64 (c.stores.l[j]).eff.num,.int .i64 (c.stores.l[j]).eff.den] 1 false true _ _ _) none) none) none=_
  rw[ct,show(!a||Ax [AV.int .i64 (c.stores.l[j]).eff.num,.int .i64 (c.stores.l[j]).eff.den])=true by cases a<;>rfl,ct,ct]
  refine gw (fs:=[(c.stores.l[j]).eff]) rfl rfl hF hx (by simp[n6,n7]) (by simp) hN (by simp only[Adw,Adx,Ady];omega) ?_
  have L1:=V9 hx n6 n7
  have S:(Ef ([(c.stores.l[j]).eff].map M0)).length≤62:=by simp[Ef];omega
  rw[show ∀ X:Lu,X.length≤140000000000000→ble (X.length+1) 140737488355328=true from fun X h=>by simp;omega,ct]
  ·rw[Oy (by omega)]
   have eB:((((bad||Ap [(c.stores.l[j]).capacity])||Ap [(c.stores.l[j]).initial,(c.stores.l[j]).final])||Ap [(c.stores.l[j]).charge,(c.stores.l[j]).discharge])||[(c.stores.l[j]).eff].any Gh)=(bad||Ij c.stores.l[j]):=by unfold Ij;simp[Ap,Ael]
   rw[eB]
   refine Agl ?_ ((x (bad||Ij c.stores.l[j])).trans ?_)
   ·refine congrArg (fun X=>Dl N K _ _ _ _ fuel _ _ X _) ?_
    rw[D3]
    unfold H3
    simp only[Aeb,I8,Aea]
    simp[Ef,dO]
   ·simp only[Ael]
  ·simp only[Adw,Adx,Ady];omega
theorem a_ (hF:FI R N) (hx:Bp) (hN:1000000000<N) (h:Ready c) (f:Fc c=true):∀ (m j fuel:Nat) (T:Lu) (bad:Bool),j+m=c.units.l.length→m<fuel→T.length+300000000000*(m+(c.stores.l.length+(c.ties.l.length+c.outs.l.length)))≤60000000000000 →
  Es N K (c.units.l.flatMap UnitD.av) c.units.l.length a c.av fuel (c.units.l.length:Int) (j:Int) T bad =
   K (T++((c.units.l.drop j).map (O9 (Bh c))++(c.stores.l.map (H3 (Bh c))++(c.ties.l.map (Wf (Bh c))++(c.outs.l.map (Qp (Cl c) (Bt c)))))).flatMap D3) (bad||((c.units.l.drop j).any M1||(c.stores.l.any Ij||(c.ties.l.any Ph||(c.outs.l.any Gz)))))
 | 0,j,fuel+1,T,bad,n,_,hT=>by
  rw[Es];unfold I0
  have q:=h.cnt
  rw[F9 (by omega),cf,show c.units.l.drop j=[] from A5 (by omega),Aem,Ae2]
  rw[Eb]
  refine(VF (a:=a) hF hx hN h f c.stores.l.length 0 N T bad (by omega) (by omega) (by omega)).trans ?_
  rw[Aeg,Aew];rfl
 | m+1,j,fuel+1,T,bad,n,t,hT=>by
  rw[Es];unfold I0
  have d:j<c.units.l.length:=by omega
  have q:=h.cnt
  have k:(c.units.l[j]) ∈ c.units.l:=Ad9 d
  have v:=u4 hx h k
  have hT':T.length≤59700000000000:=by omega
  rw[Fn d,ct,Ab d,ct,Cq (e:=UnitD.av) (sz:=22) (fun _=>rfl) d,ct,Br (e:=UnitD.av) (sz:=22) (fun _=>rfl) d,show((beq 0 0)&&((beq ((UnitD.av c.units.l[j]).length) 22)&&(beq 22 22)))=true from rfl,ct]
  have s:=fun bad=>a_ hF hx hN h f m (j+1) fuel (T++D3 (O9 (Bh c) c.units.l[j])) bad (by omega) (by omega) (by rw[Adw];omega)
  rw[A3 d,Ad5,Aez,Aeb,Yr,←Aea]
  rw[Dx,ct,show ble 22 (UnitD.av c.units.l[j]).length=true from rfl,ct,Bx,show take 22 (UnitD.av c.units.l[j])=UnitD.av c.units.l[j] from rfl,sB hF hx hN (h.i.u _ k) (Ready.ks h _ k) (h.kn.2.1 _ k) (h.un _ (Aef.2 ⟨_,k,rfl⟩)) (Bl h.bn _) (by omega),Oy (by omega)]
  refine(s _).trans ?_
  simp only[Ael]
theorem bA (hF:FI R N) (hx:Bp) (hN:1000000000<N) (h:Ready c) (f:Fc c=true):∀ (m j fuel:Nat) (T:Lu) (bad:Bool),j+m=c.lines.l.length→m<fuel→T.length+300000000000*(m+(c.units.l.length+(c.stores.l.length+(c.ties.l.length+c.outs.l.length))))≤60000000000000 →
  Et N K (c.lines.l.flatMap LineD.av) c.lines.l.length a c.av fuel (c.lines.l.length:Int) (j:Int) T bad =
   K (T++((c.lines.l.drop j).map (Ry (Bh c))++(c.units.l.map (O9 (Bh c))++(c.stores.l.map (H3 (Bh c))++(c.ties.l.map (Wf (Bh c))++(c.outs.l.map (Qp (Cl c) (Bt c))))))).flatMap D3) (bad||((c.lines.l.drop j).any Rz||(c.units.l.any M1||(c.stores.l.any Ij||(c.ties.l.any Ph||(c.outs.l.any Gz))))))
 | 0,j,fuel+1,T,bad,n,_,hT=>by
  rw[Et];unfold I3
  have q:=h.cnt
  rw[F9 (by omega),cf,show c.lines.l.drop j=[] from A5 (by omega),Aem,Ae2]
  rw[Dd]
  refine(a_ (a:=a) hF hx hN h f c.units.l.length 0 N T bad (by omega) (by omega) (by omega)).trans ?_
  rw[Aeg,Aew];rfl
 | m+1,j,fuel+1,T,bad,n,t,hT=>by
  rw[Et];unfold I3
  have d:j<c.lines.l.length:=by omega
  have q:=h.cnt
  have k:(c.lines.l[j]) ∈ c.lines.l:=Ad9 d
  have u:=uZ hx h k
  have hT':T.length≤59700000000000:=by omega
  rw[Fn d,ct,Ab d,ct,Cq (e:=LineD.av) (sz:=12) (fun _=>rfl) d,ct,Br (e:=LineD.av) (sz:=12) (fun _=>rfl) d,show((beq 0 0)&&((beq ((LineD.av c.lines.l[j]).length) 12)&&(beq 12 12)))=true from rfl,ct]
  have s:=fun bad=>bA hF hx hN h f m (j+1) fuel (T++D3 (Ry (Bh c) c.lines.l[j])) bad (by omega) (by omega) (by rw[Adw];omega)
  rw[A3 d,Ad5,Aez,Aeb,Yr,←Aea]
  rw[Dx,ct,show ble 12 (LineD.av c.lines.l[j]).length=true from rfl,ct,Bx,show take 12 (LineD.av c.lines.l[j])=LineD.av c.lines.l[j] from rfl,rz hF hx hN (h.i.l _ k) (h.kn.1 _ k).1 (h.kn.1 _ k).2 (h.ln _ (Aef.2 ⟨_,k,rfl⟩)) (Bl h.bn _) (Bl h.bn _) (by omega),Oy (by omega)]
  refine(s _).trans ?_
  simp only[Ael]
theorem bB (hF:FI R N) (hx:Bp) (hN:1000000000<N) (h:Ready c) (k:Fc c=true):∀ (m j fuel:Nat) (T:Lu) (bad:Bool),j+m=c.buses.l.length→m<fuel→T.length+300000000000*(m+(c.lines.l.length+(c.units.l.length+(c.stores.l.length+(c.ties.l.length+c.outs.l.length)))))≤60000000000000 →
  Cz N K (c.buses.l.flatMap BusD.av) c.buses.l.length a c.av fuel (c.buses.l.length:Int) (j:Int) T bad =
   K (T++((c.buses.l.drop j).map WU++(c.lines.l.map (Ry (Bh c))++(c.units.l.map (O9 (Bh c))++(c.stores.l.map (H3 (Bh c))++(c.ties.l.map (Wf (Bh c))++(c.outs.l.map (Qp (Cl c) (Bt c)))))))).flatMap D3) (bad||((c.buses.l.drop j).any LB||(c.lines.l.any Rz||(c.units.l.any M1||(c.stores.l.any Ij||(c.ties.l.any Ph||(c.outs.l.any Gz)))))))
 | 0,j,fuel+1,T,bad,t,_,hT=>by
  rw[Cz];unfold I4
  have u:=h.cnt
  rw[F9 (by omega),cf,show c.buses.l.drop j=[] from A5 (by omega),Aem,Ae2]
  rw[C1]
  refine(bA (a:=a) hF hx hN h k c.lines.l.length 0 N T bad (by omega) (by omega) (by omega)).trans ?_
  rw[Aeg,Aew];rfl
 | m+1,j,fuel+1,T,bad,t,x,hT=>by
  rw[Cz];unfold I4
  have f:j<c.buses.l.length:=by omega
  have u:=h.cnt
  have n:(c.buses.l[j]) ∈ c.buses.l:=Ad9 f
  have y:=wO hx h n
  have hT':T.length≤59700000000000:=by omega
  rw[Fn f,ct,Ab f,ct,Cq (e:=BusD.av) (sz:=3) (fun _=>rfl) f,ct,Br (e:=BusD.av) (sz:=3) (fun _=>rfl) f,show((beq 0 0)&&((beq ((BusD.av c.buses.l[j]).length) 3)&&(beq 3 3)))=true from rfl,ct]
  have v:=fun bad=>bB hF hx hN h k m (j+1) fuel (T++D3 (WU c.buses.l[j])) bad (by omega) (by omega) (by rw[Adw];omega)
  rw[A3 f,Ad5,Aez,Aeb,Yr,←Aea]
  have hI:=h.i.b _ n
  have hs:=hI.s
  have q:(c.buses.l[j]).name.length≤16:=h.bn _ (Aef.2 ⟨_,n,rfl⟩)
  rw[tM (by omega) (by decide),ct]
  show Am N [.str (c.buses.l[j]).name,.str Pu] 2 false true _ _ _=_
  refine Cr (ws:=[(c.buses.l[j]).name,Pu]) rfl rfl (by simp[q,Pu]) (by simp) hN (by simp only[Adw,Adx,Ady];omega) ?_
  have z:(Ef [(c.buses.l[j]).name,Pu]).length≤100:=by
   have:=Yi (ws:=[(c.buses.l[j]).name,Pu]) (B:=16) (by simp[q,Pu])
   simp only[Adx,Ady] at this;omega
  show A6 1 ((c.buses.l[j]).demand.av 1 Fh::_) _=_
  rw[Bn,A4]
  refine D2 rfl rfl hF hx hI.d.1 hI.d.2 hN (by simp only[Adw,Adx,Ady];omega) ?_
  have A:(Ef ((c.buses.l[j]).demand.l.map tx)).length≤31*(c.buses.l[j]).demand.l.length:=Jj hx hI.d.1
  have C:=hI.d.2
  refine Cr (ws:=[lq]) rfl rfl (by decide) (by simp) hN (by simp only[Adw,Adx,Ady];omega) ?_
  have D:(Ef [lq]).length≤20:=by decide
  show Ai N [.int .i64 (c.buses.l[j]).shed] 1 false true _ _ _=_
  refine D2 (l:=[(c.buses.l[j]).shed]) rfl rfl hF hx (by simp[*]) (by simp) hN (by simp only[Adw,Adx,Ady];omega) ?_
  have F:(Ef ([(c.buses.l[j]).shed].map tx)).length≤100:=by
   have:=Jj (l:=[(c.buses.l[j]).shed]) hx (by simp[*])
   simp only[Adx,Ady] at this;omega
  rw[show ∀ X:Lu,X.length≤140000000000000→ble (X.length+1) 140737488355328=true from fun X h=>by simp;omega,ct]
  ·rw[Oy (by omega)]
   have eB:((bad||Ap (c.buses.l[j]).demand.l)||Ap [(c.buses.l[j]).shed])=(bad||LB c.buses.l[j]):=by unfold LB;simp[Ap,Ael]
   rw[eB]
   refine Agl ?_ ((v (bad||LB c.buses.l[j])).trans ?_)
   ·refine congrArg (fun X=>Cz N K _ _ _ _ fuel _ _ X _) ?_
    rw[D3]
    unfold WU
    simp only[Aeb,I8,Aea]
    simp[Ef,o7]
   ·simp only[Ael]
  ·simp only[Adw,Adx,Ady];omega
theorem sE (hF:FI R N) (hx:Bp) (hN:1000000000<N) (h:Ready c) (d:Fc c=true):He N c.av a [] false K=K (Pa c) (G0 c):=by
 rw[V8];unfold M8
 have e:=h.cnt
 have f:=h.i.h
 have j:=uY hx h
 rw[tM (by simp) (by decide),ct,Dc]
 show Ai N [.int .i64 c.hours] 1 false true KZ _ _=_
 refine D2 (l:=[c.hours]) rfl rfl hF hx (by simp[*]) (by simp) hN (by decide) ?_
 have k:(Ef ([c.hours].map tx)).length≤100:=by
  have:=Jj (l:=[c.hours]) hx (by simp[*])
  simp only[Adx,Ady] at this;omega
 have m:KZ.length≤20:=by decide
 refine Cr (ws:=[Mh]) rfl rfl (by decide) (by simp) hN (by simp only[Adw];omega) ?_
 have n:(Ef [Mh]).length≤20:=by decide
 rw[Tp]
 refine D2 rfl rfl hF hx h.i.r.1 h.i.r.2 hN (by simp only[Adw];omega) ?_
 have q:(Ef (c.reserve.l.map tx)).length≤31*c.reserve.l.length:=Jj hx h.i.r.1
 have s:=h.i.r.2
 rw[show ∀ X:Lu,X.length≤140000000000000→ble (X.length+1) 140737488355328=true from fun X h=>by simp;omega,ct]
 ·have eB:((false||Ap [c.hours])||Ap c.reserve.l)=(Wg c.hours||Ap c.reserve.l):=by simp[Ap]
  have eW:(((KZ++Ef ([c.hours].map tx))++Ef [Mh])++Ef (c.reserve.l.map tx))++[10]=D3 (PH c):=by
   rw[D3];unfold PH
   rw[Aeb,I8]
   simp[Ef]
  rw[Bi,eB,eW]
  refine(bB (a:=a) hF hx hN h d c.buses.l.length 0 N _ _ (by omega) (by omega) (by omega)).trans ?_
  rw[Aeg]
  unfold G0
  rw[Ael];rfl
 ·simp only[Adw];omega
end
end Gx.Ct
