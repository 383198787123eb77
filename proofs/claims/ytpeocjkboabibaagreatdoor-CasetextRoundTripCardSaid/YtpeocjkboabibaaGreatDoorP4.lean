/- A part of the proof; each theorem says what it holds. -/
import Derived.Laws.BitsLemmas
import Derived.Laws.RangeAny
import Derived.Laws.RangeString
import Derived.Lib.ItoaLen
import Derived.Lib.AtoiAllCases
import Derived.Lib.IndexMore
import Derived.Test.YtpeocjkboabibaaGreatDoorP3
set_option linter.unusedVariables false
set_option linter.defProp false
set_option linter.unusedSimpArgs false
open Nat (ble beq)
open List (take drop replicate)
open Go.IntKind (wrap)
namespace Gx.Cf
open Go Go.Proofs
section
variable{R:Type}
def U8{a:Int}(h:-9223372036854775808<=a/\a<=9223372036854775807):wrap .i64 a=a:=wrap_i64 a h
def K6{lo hi n:Int}(h:lo<=n/\n<=hi):G6 lo hi n=true:=by unfold G6;simp;omega
structure LineG(i:Nat)(fr tx H:Int)(x:LineD):Prop where
 name:x.name=[108,A3k.getD i 0]
 fr:x.fr=fr
 tx:x.tl=tx
 re:(O1 x.re&&decide (x.re.num>0))=true
 smin:(O1 x.smin&&decide (x.smin.num<=0))=true
 smax:(O1 x.smax&&decide (x.smax.num>=0))=true
 lim:G6 0 1048576 x.limit=true
 em:G6 x.limit 1048576 x.emer=true
 aw:x.away.l.length<=1
 awr:∀ y∈x.away.l,0<=y/\y<H
def Acd{f:FracD}(h:1<=f.den/\f.den<=1048576/\-1048576<=f.num/\f.num<=1048576):O1 f=true:=by unfold O1;rw[K6 (by omega),K6 (by omega)];rfl
def B'{B:List Int}:take (B.length*1) (A4 B)=B.flatMap D5:=by rw[A5m,A44 (by rw[Lj];exact A49 _),Bn]
def g8{N:Nat}{l:List Int}{t o:Bool}(e:l.length<=9223372036854775807){i:Nat}(hi:i<16)(fr tx:Int){H:Int}(hH:1<=H/\H<=24)(k:Nat)(T:k<=l.length):
  ∃(x:LineD)(M:Nat),LineG i fr tx H x/\M<=l.length/\∀ K:LA->Int->O R,Yk N (i:Int) fr tx H (A4 l) l.length t o (k:Int) K=K x.av (M:Int):=by
 obtain⟨y2,ky2,y20,y21,q,s⟩:=nx (R:=R) (N:=N) (t:=t) (o:=o) e 4 (by omega) (by omega) k T
 obtain⟨y4,ky4,y40,y41,u,v⟩:=nx (R:=R) (N:=N) (t:=t) (o:=o) e 2 (by omega) (by omega) ky2 q
 obtain⟨y6,ky6,y60,y61,y,z⟩:=nx (R:=R) (N:=N) (t:=t) (o:=o) e 40 (by omega) (by omega) ky4 u
 obtain⟨y8,ky8,y80,y81,A,C⟩:=nx (R:=R) (N:=N) (t:=t) (o:=o) e 20 (by omega) (by omega) ky6 y
 obtain⟨y10,ky10,y100,y101,d,f⟩:=nx (R:=R) (N:=N) (t:=t) (o:=o) e 5 (by omega) (by omega) ky8 A
 by_cases S:y10=4
 ·have e4:(y10==4)=true:=by simpa using S
  obtain⟨y12,ky12,y120,y121,j,D⟩:=nx (R:=R) (N:=N) (t:=t) (o:=o) e 4 (by omega) (by omega) ky10 d
  obtain⟨y14,ky14,y140,y141,m,F⟩:=nx (R:=R) (N:=N) (t:=t) (o:=o) e 2 (by omega) (by omega) ky12 j
  obtain⟨y16,ky16,y160,y161,n,G⟩:=nx (R:=R) (N:=N) (t:=t) (o:=o) e 4 (by omega) (by omega) ky14 m
  obtain⟨B,kB,I,L,hkB,hB⟩:=qy (R:=R) (N:=N) (t:=t) (o:=o) e H hH.1 (by omega) ky16 n
  refine⟨⟨[108,A3k.getD i 0],fr,tx,⟨1+y2,1+y4⟩,⟨0 - y12,1+y14⟩,⟨y16,1⟩,4+y6,4+y6+y8,.of B false false⟩,kB,⟨rfl,rfl,rfl,?_,?_,?_,K6 (by simp only;omega),K6 (by simp only;omega),I,L⟩,hkB,fun K=>?_⟩
  ·rw[Acd (by simp only;omega)];simp;omega
  ·rw[Acd (by simp only;omega)];simp;omega
  ·rw[Acd (by simp only;omega)];simp;omega
  ·rw[AZ];unfold CM
   rw[X9 hi,s,v,z,C,f,e4,ct,D,F,G,hB,B',U8 (a:=1+y2) (by omega),U8 (a:=1+y4) (by omega),U8 (a:=0 - y12) (by omega),U8 (a:=1+y14) (by omega),U8 (a:=4+y6) (by omega),U8 (a:=4+y6+y8) (by omega)]
   rfl
 ·have e4:(y10==4)=false:=by simpa using S
  obtain⟨B,kB,I,L,hkB,hB⟩:=qy (R:=R) (N:=N) (t:=t) (o:=o) e H hH.1 (by omega) ky10 d
  refine⟨⟨[108,A3k.getD i 0],fr,tx,⟨1+y2,1+y4⟩,⟨0,1⟩,⟨0,1⟩,4+y6,4+y6+y8,.of B false false⟩,kB,⟨rfl,rfl,rfl,?_,?_,?_,K6 (by simp only;omega),K6 (by simp only;omega),I,L⟩,hkB,fun K=>?_⟩
  ·rw[Acd (by simp only;omega)];simp;omega
  ·rw[Acd (by simp only;omega)];simp
  ·rw[Acd (by simp only;omega)];simp
  ·rw[AZ];unfold CM
   rw[X9 hi,s,v,z,C,f,e4,cf,hB,B',U8 (a:=1+y2) (by omega),U8 (a:=1+y4) (by omega),U8 (a:=4+y6) (by omega),U8 (a:=4+y6+y8) (by omega)]
   rfl
structure UnitG(i:Nat)(nb H:Int)(u:UnitD):Prop where
 name:u.name=[117,A3k.getD i 0]
 bus:0<=u.bus/\u.bus<nb
 min:G6 0 1048576 u.min=true
 max:G6 u.min 1048576 u.max=true
 sl:1<=u.segs.l.length/\u.segs.l.length<=8
 sok:u.segs.l.all nA=true
 sord:ke u.segs.l=true
 ssum:(kc 0 u.segs.l==wrap .i64 (u.max - u.min))=true
 noLoad:G6 0 1048576 u.noLoad=true
 rampUp:G6 0 1048576 u.rampUp=true
 rampDown:G6 0 1048576 u.rampDown=true
 startRamp:G6 u.min u.max u.startRamp=true
 stopRamp:G6 u.min u.max u.stopRamp=true
 upTime:G6 0 24 u.upTime=true
 downTime:G6 0 24 u.downTime=true
 startTime:G6 0 24 u.startTime=true
 hotCost:G6 0 1048576 u.hotCost=true
 coldCost:G6 0 1048576 u.coldCost=true
 hotHours:G6 0 24 u.hotHours=true
 reserve:G6 0 1048576 u.reserve=true
 reservePrice:G6 0 1048576 u.reservePrice=true
 aw:u.away.l.length<=1
 awr:∀ y∈u.away.l,0<=y/\y<H
 state:G6 0 2 u.state=true
 starting:(u.state != 1||u.startTime != 0)=true
 hours:G6 1 48 u.hours=true
 started:(u.state != 1||decide (u.hours<=u.startTime))=true
 output:cond (u.state==2) (G6 u.min u.max u.output) (G6 0 0 u.output)=true
def Ace{s:SegD}:∀{S:List SegD},ke S=true->(∀ x∈S,x.price<=s.price)->ke (S++[s])=true
|[],_,_=>xG s
|[a],_,h=>by
  rw[A5i,A50,WU,xG]
  have:=h a (by simp);simp;omega
|a::b::r,d,h=>by
  rw[WU]at d
  simp only[A47]at d
  rw[A5i,A5i,WU,d.1]
  have:=Ace (S:=b::r) d.2 (fun x hx=>h x (by rcases A5b.1 hx with e|e<;>simp[e]))
  simpa using this
def Acf{s:SegD}:∀{S:List SegD}{a:Int},kc a (S++[s])=wrap .i64 (kc a S+s.width)
|[],a=>rfl
|x::r,a=>by rw[A5i,kc,kc];exact Acf
def Axj(S:List SegD):(S.flatMap SegD.av).length=S.length*2:=by
 induction S with
|nil=>rfl
|cons e r d=>rw[A5r,A41,d,LQ];simp;omega
def qz{S:List SegD}{n:Nat}(h:n=S.length):take (n*2) (S.flatMap SegD.av)=S.flatMap SegD.av:=A44 (by rw[Axj,h];exact A49 _)
def UN{N:Nat}{l:List Int}{t o:Bool}(d:l.length<=9223372036854775807){i:Nat}{nb H bus mn noLoad:Int}(hb:0<=bus/\bus<nb)(hmn:0<=mn/\mn<8)(hno:0<=noLoad/\noLoad<20)(hH:1<=H/\H<=24):∀(n fuel:Nat)(p:Int)(k:Nat)(M:Int)(S:List SegD),n<fuel->k<=l.length->S.length+n<=2->1<=S.length+n->(∀ x∈S,x.price<=p/\nA x=true)->ke S=true->kc 0 S=M - mn->0<=M - mn->M - mn<=15*S.length->-10<=p->p<=20+10*S.length ->
  ∃(u:UnitD)(k':Nat),UnitG i nb H u/\k'<=l.length/\∀ K:LA->Int->O R,G7 N K H (A4 l) l.length t o [117,A3k.getD i 0] bus mn noLoad fuel p (n:Int) (k:Int) M S.length (S.flatMap SegD.av)=K u.av (k':Int)
| 0,fuel+1,p,k,M,S,_,hk,hS,hS1,hp,ho,hw,hM0,hM1,_,_=>by
  obtain⟨y16,ky16,y160,y161,q,Y⟩:=nx (R:=R) (N:=N) (t:=t) (o:=o) d 20 (by omega) (by omega) k hk
  obtain⟨y18,ky18,y180,y181,s,hy18⟩:=nx (R:=R) (N:=N) (t:=t) (o:=o) d 20 (by omega) (by omega) ky16 q
  obtain⟨y20,ky20,y200,y201,v,hy20⟩:=nx (R:=R) (N:=N) (t:=t) (o:=o) d (M - mn+1) (by omega) (by omega) ky18 s
  obtain⟨y22,ky22,y220,y221,y,hy22⟩:=nx (R:=R) (N:=N) (t:=t) (o:=o) d (M - mn+1) (by omega) (by omega) ky20 v
  obtain⟨y24,ky24,y240,y241,z,hy24⟩:=nx (R:=R) (N:=N) (t:=t) (o:=o) d 3 (by omega) (by omega) ky22 y
  obtain⟨y26,ky26,y260,y261,A,hy26⟩:=nx (R:=R) (N:=N) (t:=t) (o:=o) d 3 (by omega) (by omega) ky24 z
  obtain⟨y28,ky28,y280,y281,C,hy28⟩:=nx (R:=R) (N:=N) (t:=t) (o:=o) d 2 (by omega) (by omega) ky26 A
  obtain⟨y30,ky30,y300,y301,D,hy30⟩:=nx (R:=R) (N:=N) (t:=t) (o:=o) d 30 (by omega) (by omega) ky28 C
  obtain⟨y32,ky32,y320,y321,F,hy32⟩:=nx (R:=R) (N:=N) (t:=t) (o:=o) d 30 (by omega) (by omega) ky30 D
  obtain⟨y34,ky34,y340,y341,G,hy34⟩:=nx (R:=R) (N:=N) (t:=t) (o:=o) d 4 (by omega) (by omega) ky32 F
  obtain⟨y36,ky36,y360,y361,I,hy36⟩:=nx (R:=R) (N:=N) (t:=t) (o:=o) d 8 (by omega) (by omega) ky34 G
  obtain⟨y38,ky38,y380,y381,L,hy38⟩:=nx (R:=R) (N:=N) (t:=t) (o:=o) d 4 (by omega) (by omega) ky36 I
  obtain⟨B,kB,b1,b2,hkB,hB⟩:=qy (R:=R) (N:=N) (t:=t) (o:=o) d H hH.1 (by omega) ky38 L
  obtain⟨y43,ky43,y430,y431,T,hy43⟩:=nx (R:=R) (N:=N) (t:=t) (o:=o) d (2+y28) (by omega) (by omega) kB hkB
  obtain⟨y46,ky46,y460,y461,j,hy46⟩:=nx (R:=R) (N:=N) (t:=t) (o:=o) d 4 (by omega) (by omega) ky43 T
  have i43:Ac y43 3=true:=Acb y430 (by omega)
  obtain⟨x45,hx45,hst⟩:∃ x45:Int,(∀ f:Int->O R,Ax .i64 (drop (0+((Int.toNat y43)*1)) [.int .i64 (0:Int),.int .i64 (2:Int),.int .i64 (1:Int)]) f=f x45)/\(x45=0\/x45=2\/(x45=1/\y28=1)):=by
   have e:[.int .i64 (0:Int),.int .i64 (2:Int),.int .i64 (1:Int)]=A4 [0,2,1]:=rfl
   refine⟨([0,2,1]:List Int).getD y43.toNat 0,fun f=>by rw[e,Aux (by simp;omega)],?_⟩
   have:y43=0\/y43=1\/y43=2:=by omega
   rcases this with rfl|rfl|rfl
   ·left;rfl
   ·right;left;rfl
   ·right;right;exact⟨rfl,by omega⟩
  have wM:wrap .i64 (wrap .i64 (M - mn)+1)=M - mn+1:=by rw[U8 (a:=M - mn) (by omega),U8 (by omega)]
  have head:∀ K:LA->Int->O R,G7 N K H (A4 l) l.length t o [117,A3k.getD i 0] bus mn noLoad (fuel+1) p ((0:Nat):Int) (k:Int) M S.length (S.flatMap SegD.av) =
    Qe N K (A4 l) l.length t o (ky46:Int) [117,A3k.getD i 0] bus mn M S.length noLoad y16 y18 y24 y26 y28 y30 y34 y36 y38 B.length x45 (S.flatMap SegD.av) (A4 B) (mn+y20) (mn+y22) (y30+y32) (cond (x45==1) 1 (1+y46)):=fun K=>by
   rw[G7];unfold Ud
   rw[show decide (((0:Nat):Int)>0)=false from rfl,cf,wM,Y,hy18,hy20,hy22,hy24,hy26,hy28,hy30,hy32,hy34,hy36,hy38,hB,U8 (a:=2+y28) (by omega),hy43,i43,ct,hx45,hy46,U8 (a:=mn+y20) (by omega),U8 (a:=mn+y22) (by omega),U8 (a:=y30+y32) (by omega),U8 (a:=1+y46) (by omega)]
   cases x45==1<;>rfl
  have hhr:1<=(cond (x45==1) (1:Int) (1+y46))/\(cond (x45==1) (1:Int) (1+y46))<=4:=by cases x45==1<;>simp<;>omega
  have hst1:x45=1->cond (x45==1) (1:Int) (1+y46)=1:=by intro e;subst e;rfl
  have sall:S.all nA=true:=by rw[A5n];exact fun x hx=>(hp x hx).2
  have ssum:(kc 0 S==wrap .i64 (M - mn))=true:=by rw[U8 (a:=M - mn) (by omega),hw];simp
  have starting:(x45 != 1||y28 != 0)=true:=by
   rcases hst with h|h|⟨h,h'⟩
   ·rw[h];rfl
   ·rw[h];rfl
   ·rw[h,h'];rfl
  have started:(x45 != 1||decide ((cond (x45==1) (1:Int) (1+y46))<=y28))=true:=by
   rcases hst with h|h|⟨h,h'⟩
   ·rw[h];rfl
   ·rw[h];rfl
   ·rw[h,h'];rfl
  have stR:G6 0 2 x45=true:=K6 (by omega)
  by_cases m:x45=2
  ·obtain⟨y48,ky48,y480,y481,U,hy48⟩:=nx (R:=R) (N:=N) (t:=t) (o:=o) d (M - mn+1) (by omega) (by omega) ky46 j
   refine⟨⟨[117,A3k.getD i 0],bus,mn,M,.of S false false,noLoad,y16,y18,mn+y20,mn+y22,y24,y26,y28,y30,y30+y32,y34,y36,y38,.of B false false,x45,cond (x45==1) 1 (1+y46),mn+y48⟩,ky48,
    ⟨rfl,hb,K6 (by simp only;omega),K6 (by simp only;omega),by simp only[Sl.l];omega,sall,ho,ssum,K6 (by simp only;omega),K6 (by simp only;omega),K6 (by simp only;omega),K6 (by simp only;omega),K6 (by simp only;omega),K6 (by simp only;omega),K6 (by simp only;omega),K6 (by simp only;omega),K6 (by simp only;omega),K6 (by simp only;omega),K6 (by simp only;omega),K6 (by simp only;omega),K6 (by simp only;omega),b1,b2,stR,starting,K6 (by simp only;omega),started,?_⟩,U,fun K=>?_⟩
   ·have:(x45==2)=true:=by simpa using m
    simp only[this,cond_true];exact K6 (by omega)
   ·rw[head];unfold Qe
    have:(x45==2)=true:=by simpa using m
    rw[this,ct,wM,hy48,U8 (a:=mn+y48) (by omega),qz rfl,B']
    rfl
  ·refine⟨⟨[117,A3k.getD i 0],bus,mn,M,.of S false false,noLoad,y16,y18,mn+y20,mn+y22,y24,y26,y28,y30,y30+y32,y34,y36,y38,.of B false false,x45,cond (x45==1) 1 (1+y46),0⟩,ky46,
    ⟨rfl,hb,K6 (by simp only;omega),K6 (by simp only;omega),by simp only[Sl.l];omega,sall,ho,ssum,K6 (by simp only;omega),K6 (by simp only;omega),K6 (by simp only;omega),K6 (by simp only;omega),K6 (by simp only;omega),K6 (by simp only;omega),K6 (by simp only;omega),K6 (by simp only;omega),K6 (by simp only;omega),K6 (by simp only;omega),K6 (by simp only;omega),K6 (by simp only;omega),K6 (by simp only;omega),b1,b2,stR,starting,K6 (by simp only;omega),started,?_⟩,j,fun K=>?_⟩
   ·have:(x45==2)=false:=by simpa using m
    simp only[this,cond_false];exact K6 (by omega)
   ·rw[head];unfold Qe
    have:(x45==2)=false:=by simpa using m
    rw[this,cf,qz rfl,B']
    rfl
| n+1,fuel+1,p,k,M,S,hf,hk,hS,hS1,hp,ho,hw,hM0,hM1,hp0,hp1=>by
  obtain⟨y12,ky12,y120,y121,V,hy12⟩:=nx (R:=R) (N:=N) (t:=t) (o:=o) d 15 (by omega) (by omega) k hk
  obtain⟨y14,ky14,y140,y141,X,hy14⟩:=nx (R:=R) (N:=N) (t:=t) (o:=o) d 10 (by omega) (by omega) ky12 V
  obtain⟨u,k',g1,g2,g3⟩:=UN (N:=N) (t:=t) (o:=o) (i:=i) (nb:=nb) (H:=H) (bus:=bus) (mn:=mn) (noLoad:=noLoad) d hb hmn hno hH n fuel (p+y14) ky14 (M+(1+y12)) (S++[(⟨1+y12,p⟩:SegD)]) (by omega) X (by simp;omega) (by simp;omega) (by
   intro x hx
   rcases A5d.1 hx with h|h
   ·have:=hp x h;exact⟨by omega,this.2⟩
   ·simp at h;subst h
    refine⟨by simp only;omega,?_⟩
    unfold nA;rw[K6 (by simp only;omega),K6 (by simp only;omega)];rfl) (Ace ho fun x hx=>(hp x hx).1) (by rw[Acf,hw,U8 (by simp only;omega)];simp only;omega) (by omega) (by simp;omega) (by omega) (by simp;omega)
  refine⟨u,k',g1,g2,fun K=>?_⟩
  rw[G7];unfold Ud
  have c3:(ble (S.length+1) 140737488355328&&ble ((S.length+1)*16) 140737488355328)=true:=by rw[G5,G5];simp;omega
  have c5:take (S.length*2) (S.flatMap SegD.av)++[.int .i64 (1+y12),.int .i64 p]=(S++[(⟨1+y12,p⟩:SegD)]).flatMap SegD.av:=by rw[qz rfl];simp[SegD.av]
  have wn:wrap .i64 (((n+1:Nat):Int) - 1)=(n:Int):=wZ (by omega)
  rw[show decide (((n+1:Nat):Int)>0)=true from decide_eq_true (by omega),ct,hy12,c3,ct,hy14,U8 (a:=1+y12) (by omega),U8 (a:=p+y14) (by omega),wn,U8 (a:=M+(1+y12)) (by omega),c5]
  have:=g3 K
  rw[A41]at this
  exact this
def qt{N:Nat}{l:List Int}{t o:Bool}(hN:8<=N)(e:l.length<=9223372036854775807){i:Nat}(hi:i<16){nb H:Int}(C:1<=nb/\nb<=1000)(hH:1<=H/\H<=24)(k:Nat)(D:k<=l.length):
  ∃(u:UnitD)(v:Nat),UnitG i nb H u/\v<=l.length/\∀ K:LA->Int->O R,Yl N (i:Int) nb H (A4 l) l.length t o (k:Int) K=K u.av (v:Int):=by
 obtain⟨y2,ky2,y20,y21,f,x⟩:=nx (R:=R) (N:=N) (t:=t) (o:=o) e nb (by omega) (by omega) k D
 obtain⟨y4,ky4,y40,y41,j,y⟩:=nx (R:=R) (N:=N) (t:=t) (o:=o) e 8 (by omega) (by omega) ky2 f
 obtain⟨y6,ky6,y60,y61,m,z⟩:=nx (R:=R) (N:=N) (t:=t) (o:=o) e 20 (by omega) (by omega) ky4 j
 obtain⟨y8,ky8,y80,y81,q,A⟩:=nx (R:=R) (N:=N) (t:=t) (o:=o) e 20 (by omega) (by omega) ky6 m
 obtain⟨y10,ky10,y100,y101,d,s⟩:=nx (R:=R) (N:=N) (t:=t) (o:=o) e 2 (by omega) (by omega) ky8 q
 obtain⟨n,hn⟩:∃ n:Nat,1+y10=(n:Int):=⟨(1+y10).toNat,by omega⟩
 obtain⟨u,v,F,G,I⟩:=UN (R:=R) (N:=N) (l:=l) (t:=t) (o:=o) e (i:=i) (nb:=nb) (H:=H) (bus:=y2) (mn:=y4) (noLoad:=y6) ⟨y20,y21⟩ ⟨y40,y41⟩ ⟨y60,y61⟩ hH n N (y8 - 2) ky10 y4 [] (by omega) d (by simp;omega) (by simp;omega) (by simp) Aiz (by simp[kc]) (by omega) (by simp) (by omega) (by simp;omega)
 refine⟨u,v,F,G,fun K=>?_⟩
 rw[SP];unfold CN
 rw[X9 hi,x,y,z,A,s,U8 (a:=y8 - 2) (by omega),U8 (a:=1+y10) (by omega),hn]
 simpa using I K
structure OutG(i:Nat)(nl nu:Nat)(x:OutD):Prop where
 name:x.name=[111,A3k.getD i 0]
 ll:x.lines.l.length=1\/x.lines.l.length=2
 lr:∀ y∈x.lines.l,0<=y/\y<(nl:Int)
 la:zK x.lines.l=true
 ml:x.moves.l.length<=nu
 mc:((x.moves.l.length:Int)==0||x.corr)=true
 mr:∀ m∈x.moves.l,0<=m.unit/\m.unit<(nu:Int)
 ma:zK (x.moves.l.map (·.unit))=true
 mi:x.moves.l.all Ai1=true
def Ake{s:Int}:∀{S:List Int},zK S=true->(∀ x∈S,x<s)->zK (S++[s])=true
|[],_,_=>mV s
|[a],_,h=>by
  rw[A5i,A50,TB,mV]
  have:=h a (by simp);simp;omega
|a::b::r,d,h=>by
  rw[TB]at d
  simp only[A47]at d
  rw[A5i,A5i,TB,d.1]
  have:=Ake (S:=b::r) d.2 (fun x hx=>h x (by rcases A5b.1 hx with e|e<;>simp[e]))
  simpa using this
def Au3(S:List MoveD):(S.flatMap MoveD.av).length=S.length*3:=by
 induction S with
|nil=>rfl
|cons e r d=>rw[A5r,A41,d,Uk];simp;omega
def rA{N:Nat}{l:List Int}{t o:Bool}(s:l.length<=9223372036854775807){i nl nu:Nat}(u:nu<=16){B:List Int}(hB1:B.length=1\/B.length=2)(hB2:∀ y∈B,0<=y/\y<(nl:Int))(hB3:zK B=true):∀(m j fuel:Nat)(k:Nat)(S:List MoveD),j+m=nu->m<fuel->k<=l.length->S.length<=j->(∀ x∈S,0<=x.unit/\x.unit<(j:Int))->zK (S.map (·.unit))=true->S.all Ai1=true ->
  ∃(x:OutD)(q:Nat),OutG i nl nu x/\q<=l.length/\∀ K:LA->Int->O R,Gj N K (nu:Int) (A4 l) l.length t o [111,A3k.getD i 0] B.length (A4 B) fuel (j:Int) (k:Int) S.length (S.flatMap MoveD.av)=K x.av (q:Int)
|0,j,fuel+1,k,S,M,_,C,hS,hr,A,hi=>by
  have D:j=nu:=by omega
  subst D
  refine⟨⟨[111,A3k.getD i 0],.of B false false,true,.of S false false⟩,k,⟨rfl,hB1,hB2,hB3,hS,by simp,hr,A,hi⟩,C,fun K=>?_⟩
  rw[Gj];unfold Ka
  rw[Fk (A49 _),cf,B',A44 (by rw[Au3];exact A49 _)]
  rfl
| m+1,j,fuel+1,k,S,M,X,C,hS,hr,A,hi=>by
  obtain⟨y10,ky10,y100,y101,d,e⟩:=nx (R:=R) (N:=N) (t:=t) (o:=o) s 2 (by omega) (by omega) k C
  by_cases L:y10=1
  ·obtain⟨y12,ky12,y120,y121,f,v⟩:=nx (R:=R) (N:=N) (t:=t) (o:=o) s 8 (by omega) (by omega) ky10 d
   obtain⟨y14,ky14,y140,y141,n,z⟩:=nx (R:=R) (N:=N) (t:=t) (o:=o) s 8 (by omega) (by omega) ky12 f
   obtain⟨x,q,F,G,I⟩:=rA (N:=N) (t:=t) (o:=o) (i:=i) (nl:=nl) (nu:=nu) s u hB1 hB2 hB3 m (j+1) fuel ky14 (S++[(⟨j,y12,y14⟩:MoveD)]) (by omega) (by omega) n (by simp;omega) (by
    intro x hx
    rcases A5d.1 hx with h|h
    ·have:=hr x h;omega
    ·simp at h;subst h;simp only;omega) (by
    rw[A6t];exact Ake A (by
     intro x hx
     simp only[A5o]at hx
     obtain⟨y,T,rfl⟩:=hx
     exact(hr y T).2)) (by
    rw[List.all_append,hi]
    simp only[A5s,A55,A64,A52]
    unfold Ai1;rw[K6 (by simp only;omega),K6 (by simp only;omega)];rfl)
   refine⟨x,q,F,G,fun K=>?_⟩
   rw[Gj];unfold Ka
   have e1:(y10==1)=true:=by simpa using L
   have U:(ble (S.length+1) 140737488355328&&ble ((S.length+1)*24) 140737488355328)=true:=by rw[G5,G5];simp;omega
   have V:take (S.length*3) (S.flatMap MoveD.av)++[.int .i64 (j:Int),.int .i64 y12,.int .i64 y14]=(S++[(⟨j,y12,y14⟩:MoveD)]).flatMap MoveD.av:=by
    rw[A44 (by rw[Au3];exact A49 _)];simp[MoveD.av]
   rw[Er (by omega),ct,e,e1,ct,v,z,U,ct,V,G9 (by omega)]
   have:=I K
   rw[A41]at this
   exact this
  ·obtain⟨x,q,F,G,I⟩:=rA (N:=N) (t:=t) (o:=o) (i:=i) (nl:=nl) (nu:=nu) s u hB1 hB2 hB3 m (j+1) fuel ky10 S (by omega) (by omega) d (by omega) (by intro x hx;have:=hr x hx;omega) A hi
   refine⟨x,q,F,G,fun K=>?_⟩
   rw[Gj];unfold Ka
   have e1:(y10==1)=false:=by simpa using L
   rw[Er (by omega),ct,e,e1,cf,G9 (by omega),I]
def Acg{N:Nat}{l:List Int}{t o:Bool}(hN:64<=N)(m:l.length<=9223372036854775807){i nl nu:Nat}(j:nu<=16){B:List Int}(hB1:B.length=1\/B.length=2)(hB2:∀ y∈B,0<=y/\y<(nl:Int))(hB3:zK B=true)(k:Nat)(q:k<=l.length):
  ∃(x:OutD)(f:Nat),OutG i nl nu x/\f<=l.length/\∀ K:LA->Int->O R,Gk N K (nu:Int) (A4 l) l.length t o [111,A3k.getD i 0] (k:Int) B.length (A4 B)=K x.av (f:Int):=by
 obtain⟨y8,ky8,y80,y81,d,e⟩:=nx (R:=R) (N:=N) (t:=t) (o:=o) m 2 (by omega) (by omega) k q
 by_cases n:y8=1
 ·obtain⟨x,f,s,u,v⟩:=rA (R:=R) (N:=N) (t:=t) (o:=o) (i:=i) (nl:=nl) (nu:=nu) m j hB1 hB2 hB3 nu 0 N ky8 [] (by omega) (by omega) d (by simp) (by simp) Aen rfl
  refine⟨x,f,s,u,fun K=>?_⟩
  unfold Gk Ou
  have e1:(y8==1)=true:=by simpa using n
  rw[e,e1,ct]
  simpa using v K
 ·refine⟨⟨[111,A3k.getD i 0],.of B false false,false,.of [] false false⟩,ky8,⟨rfl,hB1,hB2,hB3,by simp[Sl.l],by simp[Sl.l],by simp[Sl.l],Aen,rfl⟩,d,fun K=>?_⟩
  unfold Gk Ou
  have e1:(y8==1)=false:=by simpa using n
  rw[e,e1,cf,B']
  rfl
def Akf{N:Nat}{l:List Int}{t o:Bool}(hN:64<=N)(n:l.length<=9223372036854775807){i nl nu:Nat}(hi:i<16)(M:1<=nl/\nl<=1000)(q:nu<=16)(k:Nat)(S:k<=l.length):
  ∃(x:OutD)(d:Nat),OutG i nl nu x/\d<=l.length/\∀ K:LA->Int->O R,Su N (i:Int) (nl:Int) (nu:Int) (A4 l) l.length t o (k:Int) K=K x.av (d:Int):=by
 obtain⟨y2,ky2,y20,y21,s,j⟩:=nx (R:=R) (N:=N) (t:=t) (o:=o) n (nl:Int) (by omega) (by omega) k S
 obtain⟨y4,ky4,y40,y41,e,m⟩:=nx (R:=R) (N:=N) (t:=t) (o:=o) n (nl:Int) (by omega) (by omega) ky2 s
 have one:∀ D,D<=l.length->∃(x:OutD)(d:Nat),OutG i nl nu x/\d<=l.length/\∀ K:LA->Int->O R,Gk N K (nu:Int) (A4 l) l.length t o [111,A3k.getD i 0] (D:Int) 1 [.int .i64 y2]=K x.av (d:Int):=fun D F =>
  Acg (i:=i) (nl:=nl) hN n q (B:=[y2]) (.inl rfl) (by intro y u;simp at u;subst u;exact⟨y20,y21⟩) (mV _) D F
 by_cases G:y4>y2
 ·obtain⟨y6,ky6,y60,y61,f,v⟩:=nx (R:=R) (N:=N) (t:=t) (o:=o) n 3 (by omega) (by omega) ky4 e
  by_cases L:y6=2
  ·obtain⟨x,d,z,A,C⟩:=Acg (R:=R) (N:=N) (t:=t) (o:=o) (i:=i) (nl:=nl) (nu:=nu) hN n q (B:=[y2,y4]) (.inr rfl) (by intro y u;simp at u;rcases u with rfl|rfl<;>omega) (by rw[TB,mV];simp;omega) ky6 f
   refine⟨x,d,z,A,fun K=>?_⟩
   rw[Ov];unfold Lc
   have e1:decide (y4>y2)=true:=by simpa using G
   have I:(y6==2)=true:=by simpa using L
   rw[X9 hi,j,m,e1,v,I]
   simpa[A4]using C K
  ·obtain⟨x,d,z,A,C⟩:=one ky6 f
   refine⟨x,d,z,A,fun K=>?_⟩
   rw[Ov];unfold Lc
   have e1:decide (y4>y2)=true:=by simpa using G
   have I:(y6==2)=false:=by simpa using L
   rw[X9 hi,j,m,e1,v,I]
   exact C K
 ·obtain⟨x,d,z,A,C⟩:=one ky4 e
  refine⟨x,d,z,A,fun K=>?_⟩
  rw[Ov];unfold Lc
  have e1:decide (y4>y2)=false:=by simpa using G
  rw[X9 hi,j,m,e1]
  exact C K
def bH(f:Bool)(H:Nat)(res:List Int)(bs:List BusD)(ls:List LineD)(us:List UnitD)(ss:List StoreD)(ts:List TieD)(os:List OutD):CaseD:=⟨(H:Int),.of res false f,.of bs false f,.of ls false f,.of us false f,.of ss false f,.of ts false f,.of os false f⟩
structure BusG(i H:Nat)(b:BusD):Prop where
 name:b.name=[98,A3k.getD i 0]
 dl:b.demand.l.length=H
 dr:∀ x∈b.demand.l,0<=x/\x<14
 shed:0<=b.shed/\b.shed<300
structure StoreG(nb:Nat)(x:StoreD):Prop where
 name:x.name=[115,48]
 bus:0<=x.bus/\x.bus<(nb:Int)
 cap:0<=x.capacity/\x.capacity<20
 ini:0<=x.initial/\x.initial<=x.capacity
 fin:0<=x.final/\x.final<=x.capacity
 ch:0<=x.charge/\x.charge<8
 dis:0<=x.discharge/\x.discharge<8
 eff:1<=x.eff.num/\x.eff.num<=4/\x.eff.den=4
structure TieG(nb H:Nat)(x:TieD):Prop where
 name:x.name=[116,48]
 bus:0<=x.bus/\x.bus<(nb:Int)
 il:x.imp.l.length=H
 ir:∀ y∈x.imp.l,0<=y/\y<12
 el:x.exp.l.length=H
 er:∀ y∈x.exp.l,0<=y/\y<12
 pl:x.price.l.length=H
 pr:∀ y∈x.price.l,0<=y/\y<40
structure LineH(nb:Nat)(i:Nat)(H:Int)(x:LineD):Prop where
 g:LineG i x.fr x.tl H x
 fr:0<=x.fr/\x.fr<(nb:Int)
 tx:0<=x.tl/\x.tl<(nb:Int)
 ne:x.fr≠x.tl
structure BaseG(H:Nat)(res:List Int)(bs:List BusD)(ls:List LineD)(us:List UnitD)(ss:List StoreD)(ts:List TieD):Prop where
 h:1<=H/\H<=3
 rl:res.length=H
 rr:∀ x∈res,0<=x/\x<5
 bl:1<=bs.length/\bs.length<=4
 bg:∀ i (h:i<bs.length),BusG i H bs[i]
 ll:ls.length<=7
 lg:∀ i (h:i<ls.length),LineH bs.length i H ls[i]
 ul:1<=us.length/\us.length<=3
 ug:∀ i (h:i<us.length),UnitG i bs.length H us[i]
 sl:ss.length<=1
 sg:∀ x∈ss,StoreG bs.length x
 tl:ts.length<=1
 tg:∀ x∈ts,TieG bs.length H x
structure OutsG(nl nu:Nat)(os:List OutD):Prop where
 l:os.length<=3
 g:∀ i (h:i<os.length),OutG i nl nu os[i]
def Ar0{N:Nat}(hN:4096<=N){f:Bool}{H:Nat}{res:List Int}{bs:List BusD}{ls:List LineD}{us:List UnitD}{ss:List StoreD}{ts:List TieD}{os:List OutD}(b:BaseG H res bs ls us ss ts)(g:OutsG ls.length us.length os):Small (bH f H res bs ls us ss ts os) N:=by
 have h:=b.h;have rl:=b.rl;have bl:=b.bl;have ll:=b.ll;have ul:=b.ul;have sl:=b.sl;have tl:=b.tl;have ol:=g.l
 have fit:∀ n:Nat,n<=100->Xc n N:=fun n hn=>⟨by omega,by omega⟩
 refine⟨by omega,fit _ (by simp only[bH,Sl.l];omega),fit _ (by simp only[bH,Sl.l];omega),fit _ (by simp only[bH,Sl.l];omega),fit _ (by simp only[bH,Sl.l];omega),fit _ (by simp only[bH,Sl.l];omega),fit _ (by simp only[bH,Sl.l];omega),fit _ (by simp only[bH,Sl.l];omega),
  fun x hx=>?_,fun x hx=>?_,fun x hx=>?_,fun x hx=>?_,fun x hx=>?_,fun x hx=>?_,fun x hx=>?_,fun x hx=>?_,fun x hx=>?_,fun x hx=>?_,by simp only[bH,Sl.l];omega⟩
 all_goals simp only[bH,Sl.l]at hx
 ·obtain⟨i,hi,rfl⟩:=A5q hx;have:=(b.bg i hi).dl;exact fit _ (by omega)
 ·obtain⟨i,hi,rfl⟩:=A5q hx;have:=(b.lg i hi).g.aw;exact fit _ (by omega)
 ·obtain⟨i,hi,rfl⟩:=A5q hx;have:=(b.ug i hi).sl;exact fit _ (by omega)
 ·obtain⟨i,hi,rfl⟩:=A5q hx;have:=(b.ug i hi).aw;exact fit _ (by omega)
 ·have:=(b.tg x hx).il;exact fit _ (by omega)
 ·have:=(b.tg x hx).el;exact fit _ (by omega)
 ·have:=(b.tg x hx).pl;exact fit _ (by omega)
 ·obtain⟨i,hi,rfl⟩:=A5q hx;have:=(g.g i hi).ll;exact fit _ (by omega)
 ·obtain⟨i,hi,rfl⟩:=A5q hx;have:=(g.g i hi).ml;exact fit _ (by omega)
 ·obtain⟨i,hi,rfl⟩:=A5q hx;have:=(g.g i hi).ml;omega
def FQ{α:Type}{e:α->LA}{sz:Nat}(d:∀ a,(e a).length=sz)(l:List α):(l.flatMap e).length=l.length*sz:=by
 induction l with
|nil=>simp
|cons a r f=>rw[A5r,A41,f,d,A42,A62];omega
def C0{α:Type}{e:α->LA}{sz n:Nat}(d:∀ a,(e a).length=sz)(l:List α)(hn:n=l.length):take (n*sz) (l.flatMap e)=l.flatMap e:=A44 (by rw[FQ d,hn];exact A49 _)
def T4{B:List Int}{n:Nat}(h:n=B.length):take (n*1) (A4 B)=B.flatMap D5:=by rw[h];exact B'
def fK{α:Type}{P:Nat->α->Prop}{l:List α}{x:α}(h:∀ i (h:i<l.length),P i l[i])(hx:P l.length x):∀ i (h:i<(l++[x]).length),P i (l++[x])[i]:=by
 intro i hi
 by_cases d:i<l.length
 ·rw[List.getElem_append_left d];exact h i d
 ·have:i=l.length:=by simp at hi;omega
  subst this
  simpa using hx
def An4{p:Mu}(h:(Ky p==0)=true):p=none:=by
 rcases p with _|⟨x,e,d⟩
 ·rfl
 ·simp[Ky]at h;exact absurd h d
def Agl{N:Nat}{l:List Int}{o:Bool}(hN:4096<=N)(q:l.length<=9223372036854775807){H:Nat}{res:List Int}{bs:List BusD}{ls:List LineD}{us:List UnitD}{ss:List StoreD}{ts:List TieD}(b:BaseG H res bs ls us ss ts):∀(n fuel k:Nat)(os:List OutD),n<fuel->k<=l.length->os.length+n<=3->OutsG ls.length us.length os->(os=[]\/fJ (bH true H res bs ls us ss ts os)=none) ->
  ∃ d,OutsG ls.length us.length d/\(d=[]\/fJ (bH true H res bs ls us ss ts d)=none)/\∀ K:LA->O R,Kk N K (A4 l) l.length o (H:Int) res.length bs.length ls.length us.length ss.length ts.length (A4 res) (bs.flatMap BusD.av) (ls.flatMap LineD.av) (us.flatMap UnitD.av) (ss.flatMap StoreD.av) (ts.flatMap TieD.av) fuel (n:Int) (k:Int) os.length (os.flatMap OutD.av)=K (bH false H res bs ls us ss ts d).av
|0,fuel+1,k,os,_,s,_,g,j=>by
  refine⟨os,g,j,fun K=>?_⟩
  rw[Kk];unfold EQ
  rw[show decide (((0:Nat):Int)>0)=false from rfl,T4 rfl,C0 Kj _ rfl,C0 D9 _ rfl,C0 Gw _ rfl,C0 I8 _ rfl,C0 Hf _ rfl,C0 Ip _ rfl]
  rfl
| n+1,fuel+1,k,os,F,s,hn,g,j=>by
  by_cases u:ls.length=0
  ·refine⟨os,g,j,fun K=>?_⟩
   rw[Kk];unfold EQ
   rw[show decide ((ls.length:Int)>0)=false from decide_eq_false (by omega),show decide (((n+1:Nat):Int)>0)=true from decide_eq_true (by omega),T4 rfl,C0 Kj _ rfl,C0 D9 _ rfl,C0 Gw _ rfl,C0 I8 _ rfl,C0 Hf _ rfl,C0 Ip _ rfl]
   rfl
  ·have v:=b.ul;have y:=b.ll
   obtain⟨x,m,gx,e,hx⟩:=Akf (R:=R) (N:=N) (t:=false) (o:=o) (by omega) q (i:=os.length) (nl:=ls.length) (nu:=us.length) (by omega) (by omega) (by omega) k s
   have g':OutsG ls.length us.length (os++[x]):=⟨by simp;omega,fK g.g gx⟩
   have sm:=Ar0 (f:=true) hN b g'
   have wn:wrap .i64 (((n+1:Nat):Int) - 1)=(n:Int):=wZ (by omega)
   have step:∀ K:LA->O R,Kk N K (A4 l) l.length o (H:Int) res.length bs.length ls.length us.length ss.length ts.length (A4 res) (bs.flatMap BusD.av) (ls.flatMap LineD.av) (us.flatMap UnitD.av) (ss.flatMap StoreD.av) (ts.flatMap TieD.av) (fuel+1) ((n+1:Nat):Int) (k:Int) os.length (os.flatMap OutD.av) =
     cond (Ky (fJ (bH true H res bs ls us ss ts (os++[x])))==0)
      (Kk N K (A4 l) l.length o (H:Int) res.length bs.length ls.length us.length ss.length ts.length (A4 res) (bs.flatMap BusD.av) (ls.flatMap LineD.av) (us.flatMap UnitD.av) (ss.flatMap StoreD.av) (ts.flatMap TieD.av) fuel (n:Int) (m:Int) (os++[x]).length ((os++[x]).flatMap OutD.av))
      (Kk N K (A4 l) l.length o (H:Int) res.length bs.length ls.length us.length ss.length ts.length (A4 res) (bs.flatMap BusD.av) (ls.flatMap LineD.av) (us.flatMap UnitD.av) (ss.flatMap StoreD.av) (ts.flatMap TieD.av) fuel (n:Int) (m:Int) os.length (os.flatMap OutD.av)):=fun K=>by
    rw[Kk];unfold EQ XA
    have c1:(ble (0+os.length) 140737488355328&&ble ((0+os.length)*72) 140737488355328)=true:=by rw[G5,G5];simp;omega
    have z:(ble ((0+os.length)+1) 140737488355328&&ble (((0+os.length)+1)*72) 140737488355328)=true:=by rw[G5,G5];simp;omega
    have A:take ((0+os.length)*4) (take (os.length*4) (os.flatMap OutD.av))++take 4 (setCells [.str ([]:Lu),.nsl,.bool false,.nsl] 0 (take 4 x.av))=(os++[x]).flatMap OutD.av:=by
     rw[A5j,C0 Ip _ rfl,C0 Ip _ rfl]
     simp only[A6n,A5r,A69,A5h]
     rfl
    have C:take (((0+os.length)+1)*4) ((os++[x]).flatMap OutD.av)=(os++[x]).flatMap OutD.av:=C0 Ip _ (by simp)
    have D:(0+os.length)+1=(os++[x]).length:=by simp
    rw[show decide ((ls.length:Int)>0)=true from decide_eq_true (by omega),show decide (((n+1:Nat):Int)>0)=true from decide_eq_true (by omega)]
    simp only[beq_self_eq_true,cond_true]
    rw[hx,show((beq 0 0)&&((beq (List.length x.av) 4)&&(beq 4 4)))=true from rfl,ct,c1,ct,show ble 4 (List.length x.av)=true from rfl,ct,show((beq (List.length (take 4 x.av)) 4)&&(ble 4 4))=true from rfl,ct,z,ct,A,C,D,T4 rfl,C0 Kj _ rfl,C0 D9 _ rfl,C0 Gw _ rfl,C0 I8 _ rfl,C0 Hf _ rfl]
    refine A7p (y5 (R:=R) (N:=N) (c:=bH true H res bs ls us ss ts (os++[x])) (o:=true) sm hN) ?_
    rw[Azx,show((beq 3 3)&&((ble 3 3)&&(!false)))=true from rfl,ct,wn]
   cases hq:Ky (fJ (bH true H res bs ls us ss ts (os++[x])))==0 with
   |true =>
    obtain⟨d,a1,a2,a3⟩:=Agl hN q b n fuel m (os++[x]) (by omega) e (by simp;omega) g' (.inr (An4 hq))
    exact⟨d,a1,a2,fun K=>by rw[step,hq,ct,a3]⟩
   |false =>
    obtain⟨d,a1,a2,a3⟩:=Agl hN q b n fuel m os (by omega) e (by omega) g j
    exact⟨d,a1,a2,fun K=>by rw[step,hq,cf,a3]⟩
def FR(c:CaseD):Prop:=∃(H:Nat)(res:List Int)(bs:List BusD)(ls:List LineD)(us:List UnitD)(ss:List StoreD)(ts:List TieD)(os:List OutD),
 BaseG H res bs ls us ss ts/\OutsG ls.length us.length os/\(os=[]\/fJ (bH true H res bs ls us ss ts os)=none)/\c=bH false H res bs ls us ss ts os
def Apy{N:Nat}{l:List Int}{o:Bool}(hN:4096<=N)(e:l.length<=9223372036854775807){H:Nat}{res:List Int}{bs:List BusD}{ls:List LineD}{us:List UnitD}{ss:List StoreD}{ts:List TieD}(b:BaseG H res bs ls us ss ts)(k:Nat)(f:k<=l.length):
  ∃ c,FR c/\∀ K:LA->O R,XB N K (A4 l) l.length o (H:Int) res.length bs.length ls.length us.length ss.length (A4 res) (bs.flatMap BusD.av) (ls.flatMap LineD.av) (us.flatMap UnitD.av) (ss.flatMap StoreD.av) (k:Int) ts.length (ts.flatMap TieD.av)=K c.av:=by
 obtain⟨y,j,y0,y1,d,m⟩:=nx (R:=R) (N:=N) (t:=false) (o:=o) e 4 (by omega) (by omega) k f
 obtain⟨n,hn⟩:∃ n:Nat,y=(n:Int):=⟨y.toNat,by omega⟩
 subst hn
 obtain⟨os,a1,a2,a3⟩:=Agl (R:=R) (o:=o) hN e b n N j [] (by omega) d (by simp;omega) ⟨by simp,by simp⟩ (.inl rfl)
 refine⟨_,⟨H,res,bs,ls,us,ss,ts,os,b,a1,a2,rfl⟩,fun K=>?_⟩
 unfold XB dT
 rw[m]
 simpa using a3 K
def Apz{N:Nat}{l:List Int}{o:Bool}(hN:4096<=N)(n:l.length<=9223372036854775807){H:Nat}{res:List Int}{bs:List BusD}{ls:List LineD}{us:List UnitD}{ss:List StoreD}(b:BaseG H res bs ls us ss [])(k:Nat)(U:k<=l.length):
  ∃ c,FR c/\∀ K:LA->O R,LV N K (bs.length:Int) (A4 l) l.length o (H:Int) res.length bs.length ls.length us.length (A4 res) (bs.flatMap BusD.av) (ls.flatMap LineD.av) (us.flatMap UnitD.av) (k:Int) ss.length (ss.flatMap StoreD.av)=K c.av:=by
 have Y:=b.bl;have hH:=b.h
 obtain⟨y50,u,y500,y501,f,j⟩:=nx (R:=R) (N:=N) (t:=false) (o:=o) n 3 (by omega) (by omega) k U
 by_cases T:y50=2
 ·have z:(y50==2)=true:=by simpa using T
  obtain⟨y52,A,y520,y521,v,y⟩:=nx (R:=R) (N:=N) (t:=false) (o:=o) n (bs.length:Int) (by omega) (by omega) u f
  obtain⟨B1,V,d,C,D,hB1⟩:=NV (R:=R) (N:=N) (m:=H) (t:=false) (o:=o) (by omega) n 12 (by omega) (by omega) (by omega) A v
  obtain⟨B2,k2,q,F,G,hB2⟩:=NV (R:=R) (N:=N) (m:=H) (t:=false) (o:=o) (by omega) n 12 (by omega) (by omega) (by omega) V D
  obtain⟨B3,X,s,I,L,hB3⟩:=NV (R:=R) (N:=N) (m:=H) (t:=false) (o:=o) (by omega) n 40 (by omega) (by omega) (by omega) k2 G
  obtain⟨c,M,S⟩:=Apy (R:=R) (o:=o) hN n (ts:=[⟨[116,48],y52,.of B1 false false,.of B2 false false,.of B3 false false⟩]) ⟨b.h,b.rl,b.rr,b.bl,b.bg,b.ll,b.lg,b.ul,b.ug,b.sl,b.sg,by simp,by
   intro x hx;simp at hx;subst hx
   exact⟨rfl,⟨y520,y521⟩,d,C,q,F,s,I⟩⟩ X L
  refine⟨c,M,fun K=>?_⟩
  unfold LV PE
  rw[j,z,ct,y,hB1,hB2,hB3,T4 d.symm,T4 q.symm,T4 s.symm,<-S K,<-d]
  simp only[d]
  have e:List.flatMap TieD.av [⟨[116,48],y52,.of B1 false false,.of B2 false false,.of B3 false false⟩]=[.str ([116,48]:Lu),.int .i64 y52,.imm (B1.flatMap D5) H 1 false false,.imm (B2.flatMap D5) H 1 false false,.imm (B3.flatMap D5) H 1 false false]:=by
   simp[TieD.av,Sl.av,d,q,s]
  rw[e];rfl
 ·have z:(y50==2)=false:=by simpa using T
  obtain⟨c,M,S⟩:=Apy (R:=R) (o:=o) hN n b u f
  refine⟨c,M,fun K=>?_⟩
  unfold LV PE
  rw[j,z,cf,<-S K];rfl
def Ap0{N:Nat}{l:List Int}{o:Bool}(hN:4096<=N)(d:l.length<=9223372036854775807){H:Nat}{res:List Int}{bs:List BusD}{ls:List LineD}(h:1<=H/\H<=3)(rl:res.length=H)(rr:∀ x∈res,0<=x/\x<5)(bl:1<=bs.length/\bs.length<=4)(bg:∀ i (h:i<bs.length),BusG i H bs[i])(ll:ls.length<=7)(lg:∀ i (h:i<ls.length),LineH bs.length i H ls[i]):
  ∀(n fuel k:Nat)(us:List UnitD),n<fuel->k<=l.length->us.length+n<=3->1<=us.length+n->(∀ i (h:i<us.length),UnitG i bs.length H us[i]) ->
  ∃ c,FR c/\∀ K:LA->O R,Te N K (bs.length:Int) (A4 l) l.length o (H:Int) res.length bs.length (A4 res) (bs.flatMap BusD.av) fuel (n:Int) (k:Int) ls.length us.length (ls.flatMap LineD.av) (us.flatMap UnitD.av)=K c.av
| 0,fuel+1,k,us,_,U,hn,V,ug=>by
  obtain⟨y34,j,y340,y341,e,f⟩:=nx (R:=R) (N:=N) (t:=false) (o:=o) d 3 (by omega) (by omega) k U
  by_cases h2:y34=2
  ·have X:(y34==2)=true:=by simpa using h2
   obtain⟨y36,Y,y360,y361,m,q⟩:=nx (R:=R) (N:=N) (t:=false) (o:=o) d (bs.length:Int) (by omega) (by omega) j e
   obtain⟨y38,k38,y380,y381,s,v⟩:=nx (R:=R) (N:=N) (t:=false) (o:=o) d 20 (by omega) (by omega) Y m
   obtain⟨y40,k40,y400,y401,y,z⟩:=nx (R:=R) (N:=N) (t:=false) (o:=o) d 8 (by omega) (by omega) k38 s
   obtain⟨y42,k42,y420,y421,A,C⟩:=nx (R:=R) (N:=N) (t:=false) (o:=o) d 8 (by omega) (by omega) k40 y
   obtain⟨y44,k44,y440,y441,D,F⟩:=nx (R:=R) (N:=N) (t:=false) (o:=o) d 4 (by omega) (by omega) k42 A
   obtain⟨y46,k46,y460,y461,G,I⟩:=nx (R:=R) (N:=N) (t:=false) (o:=o) d (y38+1) (by omega) (by omega) k44 D
   obtain⟨y48,k48,y480,y481,L,M⟩:=nx (R:=R) (N:=N) (t:=false) (o:=o) d (y38+1) (by omega) (by omega) k46 G
   obtain⟨c,S,T⟩:=Apz (R:=R) (o:=o) hN d (us:=us) (ss:=[⟨[115,48],y36,y38,y46,y48,y40,y42,⟨1+y44,4⟩⟩]) ⟨h,rl,rr,bl,bg,ll,lg,⟨by omega,by omega⟩,ug,by simp,by
    intro x hx;simp at hx;subst hx
    exact⟨rfl,⟨y360,y361⟩,⟨y380,y381⟩,⟨y460,by simp only;omega⟩,⟨y480,by simp only;omega⟩,⟨y400,y401⟩,⟨y420,y421⟩,by simp only;omega,by simp only;omega,rfl⟩,by simp,by simp⟩ k48 L
   refine⟨c,S,fun K=>?_⟩
   rw[Te];unfold ER
   rw[show decide (((0:Nat):Int)>0)=false from rfl,cf,f,X,ct,q,v,z,C,F,U8 (a:=y38+1) (by omega),I,M,U8 (a:=1+y44) (by omega),<-T K]
   rfl
  ·have X:(y34==2)=false:=by simpa using h2
   obtain⟨c,S,T⟩:=Apz (R:=R) (o:=o) hN d (us:=us) (ss:=[]) ⟨h,rl,rr,bl,bg,ll,lg,⟨by omega,by omega⟩,ug,by simp,by simp,by simp,by simp⟩ j e
   refine⟨c,S,fun K=>?_⟩
   rw[Te];unfold ER
   rw[show decide (((0:Nat):Int)>0)=false from rfl,cf,f,X,cf,<-T K]
   rfl
|n+1,fuel+1,k,us,hf,U,hn,V,ug=>by
  obtain⟨u,k1,gu,hk1,hu⟩:=qt (R:=R) (N:=N) (t:=false) (o:=o) (by omega) d (i:=us.length) (by omega) (nb:=(bs.length:Int)) (H:=(H:Int)) (by omega) (by omega) k U
  obtain⟨c,S,T⟩:=Ap0 (o:=o) hN d h rl rr bl bg ll lg n fuel k1 (us++[u]) (by omega) hk1 (by simp;omega) (by simp;omega) (fK (P:=fun i u=>UnitG i bs.length H u) ug gu)
  refine⟨c,S,fun K=>?_⟩
  rw[Te];unfold ER
  have wn:wrap .i64 (((n+1:Nat):Int) - 1)=(n:Int):=wZ (by omega)
  have c2:(ble (us.length+1) 140737488355328&&ble ((us.length+1)*216) 140737488355328)=true:=by rw[G5,G5];simp;omega
  have c3:take (us.length*22) (us.flatMap UnitD.av)++u.av=(us++[u]).flatMap UnitD.av:=by rw[C0 Gw _ rfl];simp
  rw[show decide (((n+1:Nat):Int)>0)=true from decide_eq_true (by omega),ct,hu,show((beq (List.length u.av) 22)&&(ble 22 22))=true from rfl,ct,c2,ct,wn,<-T K,<-c3,A41]
  rfl
def Axk{N:Nat}{l:List Int}{o:Bool}(hN:4096<=N)(s:l.length<=9223372036854775807){H:Nat}{res:List Int}{bs:List BusD}(h:1<=H/\H<=3)(rl:res.length=H)(rr:∀ x∈res,0<=x/\x<5)(bl:1<=bs.length/\bs.length<=4)(bg:∀ i (h:i<bs.length),BusG i H bs[i]):
  ∀(n fuel k:Nat)(ls:List LineD),n<fuel->k<=l.length->ls.length+n<=7->(∀ i (h:i<ls.length),LineH bs.length i H ls[i]) ->
  ∃ c,FR c/\∀ K:LA->O R,Tf N K (bs.length:Int) (A4 l) l.length o (H:Int) res.length bs.length (A4 res) (bs.flatMap BusD.av) fuel (n:Int) (k:Int) ls.length (ls.flatMap LineD.av)=K c.av:=by
 have fin:∀(k:Nat)(ls:List LineD),k<=l.length->ls.length<=7->(∀ i (h:i<ls.length),LineH bs.length i H ls[i])->∃ c,FR c/\∀ K:LA->O R,(Ag N (3:Int) (A4 l) l.length false o (k:Int) fun y22 y23=>Te N K (bs.length:Int) (A4 l) l.length o (H:Int) res.length bs.length (A4 res) (bs.flatMap BusD.av) N (wrap .i64 ((1:Int)+y22)) y23 ls.length 0 (ls.flatMap LineD.av) [])=K c.av:=by
  intro k ls q ll lg
  obtain⟨y,C,y0,y1,d,I⟩:=nx (R:=R) (N:=N) (t:=false) (o:=o) s 3 (by omega) (by omega) k q
  obtain⟨n,hn⟩:∃ n:Nat,1+y=(n:Int):=⟨(1+y).toNat,by omega⟩
  obtain⟨c,j,m⟩:=Ap0 (R:=R) (o:=o) hN s h rl rr bl bg ll lg n N C [] (by omega) d (by simp;omega) (by simp;omega) (by simp)
  refine⟨c,j,fun K=>?_⟩
  rw[I,U8 (a:=1+y) (by omega),hn]
  simpa using m K
 intro n
 induction n with
|zero =>
  intro fuel k ls L q hn lg
  obtain⟨c,j,m⟩:=fin k ls q (by omega) lg
  refine⟨c,j,fun K=>?_⟩
  obtain⟨fuel,rfl⟩:∃ f,fuel=f+1:=⟨fuel - 1,by omega⟩
  rw[Tf];unfold ES
  rw[show decide (((0:Nat):Int)>0)=false from rfl,<-m K]
  rfl
| succ n M =>
  intro fuel k ls L q hn lg
  obtain⟨fuel,rfl⟩:∃ f,fuel=f+1:=⟨fuel - 1,by omega⟩
  by_cases S:bs.length=1
  ·obtain⟨c,j,m⟩:=fin k ls q (by omega) lg
   refine⟨c,j,fun K=>?_⟩
   rw[Tf];unfold ES
   rw[show decide (((n+1:Nat):Int)>0)=true from decide_eq_true (by omega),show decide ((bs.length:Int)>1)=false from decide_eq_false (by omega),<-m K]
   rfl
  ·obtain⟨y26,D,y260,y261,u,v⟩:=nx (R:=R) (N:=N) (t:=false) (o:=o) s (bs.length:Int) (by omega) (by omega) k q
   obtain⟨y28,F,y280,y281,z,A⟩:=nx (R:=R) (N:=N) (t:=false) (o:=o) s ((bs.length:Int) - 1) (by omega) (by omega) D u
   have tm:∃ tx:Int,Int.tmod (y26+1+y28) (bs.length:Int)=tx/\0<=tx/\tx<(bs.length:Int)/\y26≠tx:=by
    refine⟨_,rfl,Int.tmod_nonneg _ (by omega),A97 _ (by omega),?_⟩
    by_cases G:y26+1+y28<(bs.length:Int)
    ·rw[Int.tmod_eq_of_lt (by omega) G];omega
    ·have:Int.tmod (y26+1+y28) (bs.length:Int)=y26+1+y28 - (bs.length:Int):=by
      have e:y26+1+y28=(y26+1+y28 - (bs.length:Int))+1*(bs.length:Int):=by omega
      rw[Int.tmod_eq_emod_of_nonneg (by omega)]
      conv=>lhs;rw[e]
      rw[Int.add_mul_emod_self_right,Int.emod_eq_of_lt (by omega) (by omega)]
     rw[this];omega
   obtain⟨tx,T,t0,t1,tne⟩:=tm
   obtain⟨x,C,gx,d,hx⟩:=g8 (R:=R) (N:=N) (t:=false) (o:=o) s (i:=ls.length) (by omega) y26 tx (H:=(H:Int)) (by omega) F z
   obtain⟨c,j,m⟩:=M fuel C (ls++[x]) (by omega) d (by simp;omega) (fK (P:=fun i x=>LineH bs.length i H x) lg ⟨by rw[gx.fr,gx.tx];exact gx,by rw[gx.fr];exact⟨y260,y261⟩,by rw[gx.tx];exact⟨t0,t1⟩,by rw[gx.fr,gx.tx];exact tne⟩)
   refine⟨c,j,fun K=>?_⟩
   rw[Tf];unfold ES W_
   have wn:wrap .i64 (((n+1:Nat):Int) - 1)=(n:Int):=wZ (by omega)
   have U:(ble (ls.length+1) 140737488355328&&ble ((ls.length+1)*120) 140737488355328)=true:=by rw[G5,G5];simp;omega
   have V:take (ls.length*12) (ls.flatMap LineD.av)++x.av=(ls++[x]).flatMap LineD.av:=by rw[C0 D9 _ rfl];simp
   rw[show decide (((n+1:Nat):Int)>0)=true from decide_eq_true (by omega),show decide ((bs.length:Int)>1)=true from decide_eq_true (by omega)]
   simp only[beq_self_eq_true,cond_true]
   rw[v,U8 (a:=(bs.length:Int) - 1) (by omega),A,show((bs.length:Int)==0)=false from beq_eq_false_iff_ne.2 (by omega),cf,U8 (a:=y26+1) (by omega),U8 (a:=y26+1+y28) (by omega),T,hx,show((beq (List.length x.av) 12)&&(ble 12 12))=true from rfl,ct,U,ct,wn,<-m K,<-V,A41]
   rfl
def Ap1{N:Nat}{l:List Int}{o:Bool}(hN:4096<=N)(e:l.length<=9223372036854775807){H:Nat}{res:List Int}{bs:List BusD}(h:1<=H/\H<=3)(rl:res.length=H)(rr:∀ x∈res,0<=x/\x<5)(bl:1<=bs.length/\bs.length<=4)(bg:∀ i (h:i<bs.length),BusG i H bs[i]):
  ∀(m j fuel k:Nat)(ls:List LineD),j+1+m=bs.length->m<fuel->k<=l.length->ls.length=j->(∀ i (h:i<ls.length),LineH bs.length i H ls[i]) ->
  ∃ c,FR c/\∀ K:LA->O R,BH N K (A4 l) l.length o (H:Int) res.length bs.length (A4 res) (bs.flatMap BusD.av) fuel (bs.length:Int) ((j+1:Nat):Int) (k:Int) ls.length (ls.flatMap LineD.av)=K c.av
|0,j,fuel+1,k,ls,C,_,q,f,lg=>by
  obtain⟨y,s,y0,y1,d,u⟩:=nx (R:=R) (N:=N) (t:=false) (o:=o) e 5 (by omega) (by omega) k q
  obtain⟨n,hn⟩:∃ n:Nat,y=(n:Int):=⟨y.toNat,by omega⟩
  subst hn
  obtain⟨c,v,z⟩:=Axk (R:=R) (o:=o) hN e h rl rr bl bg n N s ls (by omega) d (by omega) lg
  refine⟨c,v,fun K=>?_⟩
  rw[BH];unfold PF
  rw[Fk (by omega),cf,u];exact z K
|m+1,j,fuel+1,k,ls,C,G,q,f,lg=>by
  obtain⟨y,s,y0,y1,d,u⟩:=nx (R:=R) (N:=N) (t:=false) (o:=o) e ((j+1:Nat):Int) (by omega) (by omega) k q
  obtain⟨x,k2,gx,A,hx⟩:=g8 (R:=R) (N:=N) (t:=false) (o:=o) e (i:=ls.length) (by omega) y ((j+1:Nat):Int) (H:=(H:Int)) (by omega) s d
  obtain⟨c,v,z⟩:=Ap1 (o:=o) hN e h rl rr bl bg m (j+1) fuel k2 (ls++[x]) (by omega) (by omega) A (by simp[f]) (fK (P:=fun i x=>LineH bs.length i H x) lg ⟨by rw[gx.fr,gx.tx];exact gx,by rw[gx.fr];omega,by rw[gx.tx];omega,by rw[gx.fr,gx.tx];omega⟩)
  refine⟨c,v,fun K=>?_⟩
  rw[BH];unfold PF
  have D:(ble (ls.length+1) 140737488355328&&ble ((ls.length+1)*120) 140737488355328)=true:=by rw[G5,G5];simp;omega
  have F:take (ls.length*12) (ls.flatMap LineD.av)++x.av=(ls++[x]).flatMap LineD.av:=by rw[C0 D9 _ rfl];simp
  rw[Er (by omega),ct,u,hx,show((beq (List.length x.av) 12)&&(ble 12 12))=true from rfl,ct,D,ct,G9 (by omega),<-z K,<-F,A41]
  rfl
def Ap2{N:Nat}{l:List Int}{o:Bool}(hN:4096<=N)(q:l.length<=9223372036854775807){H:Nat}{res:List Int}(h:1<=H/\H<=3)(rl:res.length=H)(rr:∀ x∈res,0<=x/\x<5):
  ∀(n fuel k:Nat)(bs:List BusD),n<fuel->k<=l.length->bs.length+n<=4->1<=bs.length+n->(∀ i (h:i<bs.length),BusG i H bs[i]) ->
  ∃ c,FR c/\∀ K:LA->O R,Pf N K (A4 l) l.length o res.length (A4 res) fuel (n:Int) (k:Int) (H:Int) bs.length (bs.flatMap BusD.av)=K c.av
|0,fuel+1,k,bs,_,A,hn,C,bg=>by
  obtain⟨c,f,j⟩:=Ap1 (R:=R) (o:=o) hN q h rl rr ⟨by omega,by omega⟩ bg (bs.length - 1) 0 N k [] (by omega) (by omega) A rfl (by simp)
  refine⟨c,f,fun K=>?_⟩
  rw[Pf];unfold ET
  rw[show decide (((0:Nat):Int)>0)=false from rfl,cf,<-j K]
  rfl
| n+1,fuel+1,k,bs,V,A,hn,C,bg=>by
  obtain⟨B,M,z,S,D,hB⟩:=NV (R:=R) (N:=N) (m:=H) (t:=false) (o:=o) (by omega) q 14 (by omega) (by omega) (by omega) k A
  obtain⟨y12,u,y120,y121,d,e⟩:=nx (R:=R) (N:=N) (t:=false) (o:=o) q 2 (by omega) (by omega) M D
  have wn:wrap .i64 (((n+1:Nat):Int) - 1)=(n:Int):=wZ (by omega)
  have I:(ble (bs.length+1) 140737488355328&&ble ((bs.length+1)*48) 140737488355328)=true:=by rw[G5,G5];simp;omega
  have T:∀ s:Int,take (bs.length*3) (bs.flatMap BusD.av)++[.str [98,A3k.getD bs.length 0],.imm (B.flatMap D5) H 1 false false,.int .i64 s]=(bs++[(⟨[98,A3k.getD bs.length 0],.of B false false,s⟩:BusD)]).flatMap BusD.av:=fun s=>by
   rw[C0 Kj _ rfl];simp[BusD.av,Sl.av,z]
  have go:∀(s:Int)(kk:Nat),0<=s->s<300->kk<=l.length->∃ c,FR c/\∀ K:LA->O R,Pf N K (A4 l) l.length o res.length (A4 res) fuel (n:Int) (kk:Int) (H:Int) (bs.length+1) (take (bs.length*3) (bs.flatMap BusD.av)++[.str [98,A3k.getD bs.length 0],.imm (B.flatMap D5) H 1 false false,.int .i64 s])=K c.av:=by
   intro s kk U s1 F
   have gb:BusG bs.length H (⟨[98,A3k.getD bs.length 0],.of B false false,s⟩:BusD):=⟨rfl,z,S,U,s1⟩
   obtain⟨c,f,j⟩:=Ap2 (o:=o) hN q h rl rr n fuel kk (bs++[(⟨[98,A3k.getD bs.length 0],.of B false false,s⟩:BusD)]) (by omega) F (by simp;omega) (by simp;omega) (fK (P:=fun i x=>BusG i H x) bg gb)
   refine⟨c,f,fun K=>?_⟩
   rw[T,<-j K,A41]
   rfl
  by_cases L:y12=1
  ·have e1:(y12==1)=true:=by simpa using L
   obtain⟨y14,G,y140,y141,v,y⟩:=nx (R:=R) (N:=N) (t:=false) (o:=o) q 200 (by omega) (by omega) u d
   obtain⟨c,f,j⟩:=go (100+y14) G (by omega) (by omega) v
   refine⟨c,f,fun K=>?_⟩
   rw[Pf];unfold ET
   rw[show decide (((n+1:Nat):Int)>0)=true from decide_eq_true (by omega),ct,X9 (by omega),hB,e,e1,ct,y,I,ct,wn,U8 (a:=100+y14) (by omega),T4 z.symm,j]
  ·have e1:(y12==1)=false:=by simpa using L
   obtain⟨c,f,j⟩:=go 0 u (by omega) (by omega) d
   refine⟨c,f,fun K=>?_⟩
   rw[Pf];unfold ET
   rw[show decide (((n+1:Nat):Int)>0)=true from decide_eq_true (by omega),ct,X9 (by omega),hB,e,e1,cf,I,ct,wn,T4 z.symm,j]
def Agm{N:Nat}{l:List Int}{n:Nat}{t o:Bool}(hn:n=l.length)(hN:4096<=N)(d:l.length<=9223372036854775807):∃ c,FR c/\∀ K:LA->O R,IR N (A4 l) n t o K=K c.av:=by
 subst hn
 obtain⟨y1,u,y10,y11,e,f⟩:=nx (R:=R) (N:=N) (t:=false) (o:=o) d 3 (by omega) (by omega) 0 (by omega)
 obtain⟨H,hH⟩:∃ H:Nat,1+y1=(H:Int):=⟨(1+y1).toNat,by omega⟩
 obtain⟨B,k2,s,v,j,hB⟩:=NV (R:=R) (N:=N) (m:=H) (t:=false) (o:=o) (by omega) d 5 (by omega) (by omega) (by omega) u e
 obtain⟨y6,x,y60,y61,k,q⟩:=nx (R:=R) (N:=N) (t:=false) (o:=o) d 4 (by omega) (by omega) k2 j
 obtain⟨m,y⟩:∃ m:Nat,1+y6=(m:Int):=⟨(1+y6).toNat,by omega⟩
 obtain⟨c,A,C⟩:=Ap2 (R:=R) (o:=o) hN d (H:=H) (by omega) s v m N x [] (by omega) k (by simp;omega) (by simp;omega) (by simp)
 refine⟨c,A,fun K=>?_⟩
 rw[sO];unfold nF
 rw[wH];unfold Aeb
 have z:Ag N 3 (A4 l) l.length false o 0=Ag (R:=R) N 3 (A4 l) l.length false o ((0:Nat):Int):=rfl
 rw[z,f,U8 (a:=1+y1) (by omega),hH,hB,q,U8 (a:=1+y6) (by omega),y,<-C K,s]
 rfl
def oc{N:Nat}{s:Lu}{K:Bool->O R}(hs:s.length<4611686018427387904):∀(m j fuel:Nat),j+m=s.length->m<fuel ->
  BP N K s fuel (s.length:Int) (j:Int)=K ((s.drop j).all Aq7)
|0,j,fuel+1,d,_=>by
  rw[BP];unfold PV
  rw[Fk (by omega),cf,Va (by omega)];rfl
| m+1,j,fuel+1,d,q=>by
  rw[BP];unfold PV
  have h:j<s.length:=by omega
  rw[Er h,ct,Aa h,ct,G9 (by omega),oc hs m (j+1) fuel (by omega) (by omega),N6 h,A5s,Aeo h]
  unfold Aq7 WE
  generalize s[j].toNat=v
  generalize (s.drop (j+1)).all _=r
  by_cases e:97<=v<;>by_cases f:v<=122<;>by_cases k:48<=v<;>by_cases l:v<=57<;>by_cases n:v=95 <;>
   simp[e,f,k,l,show((v:Int)<97)↔¬ 97<=v by omega,show((v:Int)<48)↔¬ 48<=v by omega,show((122:Int)<v)↔¬ v<=122 by omega,show((57:Int)<v)↔¬ v<=57 by omega,show((v:Int) != 95)=!decide (v=95) by(by_cases v=95<;>simp_all<;>omega),n]
def P7{N:Nat}{s:Lu}{K:Bool->O R}(hN:64<=N):Me N s K=K (A9 s):=by
 rw[s7];unfold nz XW eO
 unfold A9
 by_cases d:1<=s.length
 ·by_cases e:s.length<=16
  ·have f:=oc (R:=R) (N:=N) (s:=s) (K:=K) (by omega) s.length 0 N (by omega) (by omega)
   simp only[A5k,A7s]at f
   rw[f]
   have j:Ac 0 s.length=true:=Aa (i:=0) (by omega)
   rw[j]
   simp only[d,e,show(decide ((s.length:Int)<1))=false by simp;omega,show(decide ((s.length:Int)>16))=false by simp;omega,decide_true,cond_true,cond_false,beq_self_eq_true]
   cases s==[99,111,114,114,101,99,116,105,118,101]
   ·unfold WE
    generalize (List.getD s 0 0).toNat=v
    by_cases k:97<=v<;>by_cases l:v<=122<;>simp[k,l,show((v:Int)<97)↔¬ 97<=v by omega,show((122:Int)<v)↔¬ v<=122 by omega]
   ·simp
  ·simp[d,e,show((s.length:Int)<1)↔¬ 1<=s.length by omega,show((16:Int)<s.length)↔¬ s.length<=16 by omega]
 ·simp[d,show((s.length:Int)<1)↔¬ 1<=s.length by omega]
end
end Gx.Cf
namespace Gx.Ct
open Go Go.Proofs Gx.Cf
section
variable{R:Type}{N:Nat}
def Ch(l:List Ap):take (l.length*1) (Au l)=Au l:=by rw[A5m,A44 (by simp[Au])]
def Ep(l:List Ap)(w:Ap):Au l++[.str w]=Au (l++[w]):=by simp[Au]
def Rj{n:Nat}(h:n<=2000000000):((ble n 140737488355328)&&(ble (n*16) 140737488355328))=true:=by simp;omega
def Ach{l:List Ap}{d c:Bool}(hN:64<=N)(f:l.length<=1000000):∀(m j fuel:Nat),j+m=l.length->m<fuel ->
  ∃ v:Int,(decide (v>=0)=!(l.drop j).all A9)/\∀ K:Int->O R,Bf N K (Au l) l.length d c fuel (l.length:Int) (j:Int)=K v
|0,j,fuel+1,k,_=>by
  refine⟨-1,by rw[Bo (by omega)];rfl,fun K=>?_⟩
  rw[Bf];unfold Cz
  rw[Fk (by omega),cf]
| m+1,j,fuel+1,k,n=>by
  have h:j<l.length:=by omega
  obtain⟨v,v1,v2⟩:=Ach (l:=l) (d:=d) (c:=c) hN f m (j+1) fuel (by omega) (by omega)
  have st:∀ K:Int->O R,Bf N K (Au l) l.length d c (fuel+1) (l.length:Int) (j:Int)=cond (!A9 l[j]) (K (j:Int)) (K v):=fun K=>by
   rw[Bf];unfold Cz
   rw[Er h,ct,Aa h,ct,A45,A5m,Gn h,UI]
   unfold RU
   rw[P7 hN,Q8 (by omega),v2]
  cases e:A9 l[j]with
  |false=>exact⟨(j:Int),by rw[Bm h,A5s,e];simp,fun K=>by rw[st,e];rfl⟩
  |true=>exact⟨v,by rw[v1,Bm h,A5s,e];rfl,fun K=>by rw[st,e];rfl⟩
def An5{l:List Ap}{n:Nat}{d c:Bool}{K:Bool->O R}(hN:1000000000<N)(hn:n=l.length)(e:l.length<=1000000):A3 N (Au l) n d c K=K (!l.all A9):=by
 subst hn
 rw[Iu];unfold Fm
 rw[It];unfold Di
 obtain⟨v,v1,v2⟩:=Ach (R:=R) (N:=N) (l:=l) (d:=false) (c:=c) (by omega) e l.length 0 N (by omega) (by omega)
 refine(v2 _).trans ?_
 show K (decide (v>=0))=_
 rw[v1,A5k]
def Akg{l:List Ap}{w:Ap}{d f:Bool}(k:l.length<=1000000):∀(m j fuel:Nat),j+m=l.length->m<fuel ->
  ∃ v:Int,(decide (v>=0)=(l.drop j).contains w)/\∀ K:Int->O R,Bb N K (Au l) l.length d f w fuel (l.length:Int) (j:Int)=K v
|0,j,fuel+1,n,_=>by
  refine⟨-1,by rw[Bo (by omega)];rfl,fun K=>?_⟩
  rw[Bb];unfold Bv
  rw[Fk (by omega),cf]
| m+1,j,fuel+1,n,q=>by
  have h:j<l.length:=by omega
  obtain⟨v,v1,v2⟩:=Akg (l:=l) (w:=w) (d:=d) (f:=f) k m (j+1) fuel (by omega) (by omega)
  by_cases e:w=l[j]
  ·refine⟨(j:Int),by rw[Bm h,A75,e];simp,fun K=>?_⟩
   rw[Bb];unfold Bv
   rw[Er h,ct,Aa h,ct,A45,A5m,Gn h,show(w==l[j])=true by simpa using e,ct]
  ·refine⟨v,by rw[v1,Bm h,A75,show(w==l[j])=false by simpa using e,A56],fun K=>?_⟩
   rw[Bb];unfold Bv
   rw[Er h,ct,Aa h,ct,A45,A5m,Gn h,show(w==l[j])=false by simpa using e,cf,Q8 (by omega),v2]
def Ha{l:List Ap}{w:Ap}{n:Nat}{d f:Bool}{K:Bool->O R}(hN:1000000000<N)(hn:n=l.length)(e:l.length<=1000000):Am N (Au l) n d f w K=K (l.contains w):=by
 subst hn
 rw[Ko];unfold Hc
 rw[Hb];unfold Dr
 obtain⟨v,v1,v2⟩:=Akg (R:=R) (N:=N) (l:=l) (w:=w) (d:=false) (f:=f) e l.length 0 N (by omega) (by omega)
 refine(v2 _).trans ?_
 show K (decide (v>=0))=_
 rw[v1,A5k]
def g_(l:List Ap)(j:Nat):take j (Au l)=Au (l.take j):=by unfold Au;rw[A96]
def GO{l:List Ap}{j:Nat}(h:j<l.length):j=(l.take j).length:=(A9g (by omega)).symm
def rB{l:List Ap}{j:Nat}(h:j<l.length):((decide ((0:Int)<=(0:Int)))&&((decide (0<=(j:Int)))&&((decide ((j:Int)<=(l.length:Int)))&&(decide ((l.length:Int)<=(l.length:Int))))))=true:=by simp;omega
def UP{l:List Ap}{j:Nat}(h:j<l.length):D8 (l.take j) (l.drop j)=((l.take j).contains l[j]||D8 (l.take (j+1)) (l.drop (j+1))):=by rw[Bm h,D8,A81,A46 h];rfl
def Ap3{l:List Ap}{k7:Int->O R}{K:Int->O R}{n1 n2 n3 n4 n5:Nat}{s1 s2 s3 s4 s5:LA}{ar:Int}(hN:1000000000<N)(d:l.length<=1000000):∀(m j fuel:Nat),j+m=l.length->m<fuel ->
  To N k7 K l.length n1 n2 n3 n4 n5 (Au l) s1 s2 s3 s4 s5 fuel ar (l.length:Int) (j:Int)=cond (D8 (l.take j) (l.drop j)) (K 10) (k7 (wrap .i64 (ar+1)))
|0,j,fuel+1,e,_=>by
  rw[To];unfold IY
  rw[Fk (by omega),cf,Bo (by omega)];rfl
|m+1,j,fuel+1,e,k=>by
  rw[To];unfold IY
  have h:j<l.length:=by omega
  have f:=Ap3 (l:=l) (k7:=k7) (K:=K) (n1:=n1) (n2:=n2) (n3:=n3) (n4:=n4) (n5:=n5) (s1:=s1) (s2:=s2) (s3:=s3) (s4:=s4) (s5:=s5) (ar:=ar) hN d m (j+1) fuel (by omega) (by omega)
  rw[UP h,Er h,ct,Aa h,ct,A5j,A45,A5m,Gn h,rB h,ct,g_,Ha hN (GO h) (by rw[<-GO h];omega),Q8 (by omega),f]
  cases (l.take j).contains l[j]<;>rfl
def Akh{l:List Ap}{k7:Int->O R}{K:Int->O R}{n1 n2 n3 n4 n5:Nat}{s1 s2 s3 s4 s5:LA}{ar:Int}(hN:1000000000<N)(d:l.length<=1000000):∀(m j fuel:Nat),j+m=l.length->m<fuel ->
  Pz N k7 K l.length n1 n2 n3 n4 n5 (Au l) s1 s2 s3 s4 s5 fuel ar (l.length:Int) (j:Int)=cond (D8 (l.take j) (l.drop j)) (K 10) (k7 (wrap .i64 (ar+1)))
|0,j,fuel+1,e,_=>by
  rw[Pz];unfold DO
  rw[Fk (by omega),cf,Bo (by omega)];rfl
|m+1,j,fuel+1,e,k=>by
  rw[Pz];unfold DO
  have h:j<l.length:=by omega
  have f:=Akh (l:=l) (k7:=k7) (K:=K) (n1:=n1) (n2:=n2) (n3:=n3) (n4:=n4) (n5:=n5) (s1:=s1) (s2:=s2) (s3:=s3) (s4:=s4) (s5:=s5) (ar:=ar) hN d m (j+1) fuel (by omega) (by omega)
  rw[UP h,Er h,ct,Aa h,ct,A5j,A45,A5m,Gn h,rB h,ct,g_,Ha hN (GO h) (by rw[<-GO h];omega),Q8 (by omega),f]
  cases (l.take j).contains l[j]<;>rfl
def Aki{l:List Ap}{k7:Int->O R}{K:Int->O R}{n1 n2 n3 n4 n5:Nat}{s1 s2 s3 s4 s5:LA}{ar:Int}(hN:1000000000<N)(d:l.length<=1000000):∀(m j fuel:Nat),j+m=l.length->m<fuel ->
  P0 N k7 K l.length n1 n2 n3 n4 n5 (Au l) s1 s2 s3 s4 s5 fuel ar (l.length:Int) (j:Int)=cond (D8 (l.take j) (l.drop j)) (K 10) (k7 (wrap .i64 (ar+1)))
|0,j,fuel+1,e,_=>by
  rw[P0];unfold DP
  rw[Fk (by omega),cf,Bo (by omega)];rfl
|m+1,j,fuel+1,e,k=>by
  rw[P0];unfold DP
  have h:j<l.length:=by omega
  have f:=Aki (l:=l) (k7:=k7) (K:=K) (n1:=n1) (n2:=n2) (n3:=n3) (n4:=n4) (n5:=n5) (s1:=s1) (s2:=s2) (s3:=s3) (s4:=s4) (s5:=s5) (ar:=ar) hN d m (j+1) fuel (by omega) (by omega)
  rw[UP h,Er h,ct,Aa h,ct,A5j,A45,A5m,Gn h,rB h,ct,g_,Ha hN (GO h) (by rw[<-GO h];omega),Q8 (by omega),f]
  cases (l.take j).contains l[j]<;>rfl
def Akj{l:List Ap}{k7:Int->O R}{K:Int->O R}{n1 n2 n3 n4 n5:Nat}{s1 s2 s3 s4 s5:LA}{ar:Int}(hN:1000000000<N)(d:l.length<=1000000):∀(m j fuel:Nat),j+m=l.length->m<fuel ->
  P1 N k7 K l.length n1 n2 n3 n4 n5 (Au l) s1 s2 s3 s4 s5 fuel ar (l.length:Int) (j:Int)=cond (D8 (l.take j) (l.drop j)) (K 10) (k7 (wrap .i64 (ar+1)))
|0,j,fuel+1,e,_=>by
  rw[P1];unfold DQ
  rw[Fk (by omega),cf,Bo (by omega)];rfl
|m+1,j,fuel+1,e,k=>by
  rw[P1];unfold DQ
  have h:j<l.length:=by omega
  have f:=Akj (l:=l) (k7:=k7) (K:=K) (n1:=n1) (n2:=n2) (n3:=n3) (n4:=n4) (n5:=n5) (s1:=s1) (s2:=s2) (s3:=s3) (s4:=s4) (s5:=s5) (ar:=ar) hN d m (j+1) fuel (by omega) (by omega)
  rw[UP h,Er h,ct,Aa h,ct,A5j,A45,A5m,Gn h,rB h,ct,g_,Ha hN (GO h) (by rw[<-GO h];omega),Q8 (by omega),f]
  cases (l.take j).contains l[j]<;>rfl
def Akk{l:List Ap}{k7:Int->O R}{K:Int->O R}{n1 n2 n3 n4 n5:Nat}{s1 s2 s3 s4 s5:LA}{ar:Int}(hN:1000000000<N)(d:l.length<=1000000):∀(m j fuel:Nat),j+m=l.length->m<fuel ->
  P2 N k7 K l.length n1 n2 n3 n4 n5 (Au l) s1 s2 s3 s4 s5 fuel ar (l.length:Int) (j:Int)=cond (D8 (l.take j) (l.drop j)) (K 10) (k7 (wrap .i64 (ar+1)))
|0,j,fuel+1,e,_=>by
  rw[P2];unfold DR
  rw[Fk (by omega),cf,Bo (by omega)];rfl
|m+1,j,fuel+1,e,k=>by
  rw[P2];unfold DR
  have h:j<l.length:=by omega
  have f:=Akk (l:=l) (k7:=k7) (K:=K) (n1:=n1) (n2:=n2) (n3:=n3) (n4:=n4) (n5:=n5) (s1:=s1) (s2:=s2) (s3:=s3) (s4:=s4) (s5:=s5) (ar:=ar) hN d m (j+1) fuel (by omega) (by omega)
  rw[UP h,Er h,ct,Aa h,ct,A5j,A45,A5m,Gn h,rB h,ct,g_,Ha hN (GO h) (by rw[<-GO h];omega),Q8 (by omega),f]
  cases (l.take j).contains l[j]<;>rfl
def Akl{l:List Ap}{k7:Int->O R}{K:Int->O R}{n1 n2 n3 n4 n5:Nat}{s1 s2 s3 s4 s5:LA}{ar:Int}(hN:1000000000<N)(d:l.length<=1000000):∀(m j fuel:Nat),j+m=l.length->m<fuel ->
  P3 N k7 K l.length n1 n2 n3 n4 n5 (Au l) s1 s2 s3 s4 s5 fuel ar (l.length:Int) (j:Int)=cond (D8 (l.take j) (l.drop j)) (K 10) (k7 (wrap .i64 (ar+1)))
|0,j,fuel+1,e,_=>by
  rw[P3];unfold DS
  rw[Fk (by omega),cf,Bo (by omega)];rfl
|m+1,j,fuel+1,e,k=>by
  rw[P3];unfold DS
  have h:j<l.length:=by omega
  have f:=Akl (l:=l) (k7:=k7) (K:=K) (n1:=n1) (n2:=n2) (n3:=n3) (n4:=n4) (n5:=n5) (s1:=s1) (s2:=s2) (s3:=s3) (s4:=s4) (s5:=s5) (ar:=ar) hN d m (j+1) fuel (by omega) (by omega)
  rw[UP h,Er h,ct,Aa h,ct,A5j,A45,A5m,Gn h,rB h,ct,g_,Ha hN (GO h) (by rw[<-GO h];omega),Q8 (by omega),f]
  cases (l.take j).contains l[j]<;>rfl
def GP(X1 X2 X3 X4 X5 X6:List Ap)(i:Nat):List Ap:=[[],X1,X2,X3,X4,X5,X6].getD i []
section
variable{X1 X2 X3 X4 X5 X6:List Ap}{K:Int->O R}(hN:1000000000<N)(hX:∀ i,(GP X1 X2 X3 X4 X5 X6 i).length<=1000)
include hN hX
def Akm:∀(m i fuel:Nat),i+m=7->m<fuel->D1 N K X1.length X2.length X3.length X4.length X5.length X6.length (Au X1) (Au X2) (Au X3) (Au X4) (Au X5) (Au X6) fuel (i:Int)=cond ((List.range' i m).any fun i=>D8 [] (GP X1 X2 X3 X4 X5 X6 i)) (K 10) (K 0)
|0,i,fuel+1,hi,_=>by
  rw[D1];unfold Zv
  rw[decide_eq_false (show ¬ (i:Int)<7 by omega),cf];rfl
| m+1,i,fuel+1,hi,j=>by
  have e:=Akm m (i+1) fuel (by omega) (by omega)
  rw[D1];unfold Zv
  have f:i=0\/i=1\/i=2\/i=3\/i=4\/i=5\/i=6:=by omega
  rw[A8a,A6h]
  rcases f with rfl|rfl|rfl|rfl|rfl|rfl|rfl
  ·obtain⟨M,rfl⟩:∃ M,N=M+1:=⟨N - 1,by omega⟩
   exact e
  ·have d:=hX 1
   refine A7p (Ap3 (l:=X1) hN (by simp only[GP]at d;exact A6k d (by decide)) _ 0 N (A5j _) (by simp only[GP]at d;exact A6d d (by omega))) ?_
   rw[show wrap .i64 (((1:Nat):Int)+1)=(((1:Nat)+1:Nat):Int)from rfl,e]
   show cond (D8 [] X1) _ _=cond (D8 [] X1||_) _ _
   cases D8 [] X1<;>rfl
  ·have d:=hX 2
   refine A7p (Akh (l:=X2) hN (by simp only[GP]at d;exact A6k d (by decide)) _ 0 N (A5j _) (by simp only[GP]at d;exact A6d d (by omega))) ?_
   rw[show wrap .i64 (((2:Nat):Int)+1)=(((2:Nat)+1:Nat):Int)from rfl,e]
   show cond (D8 [] X2) _ _=cond (D8 [] X2||_) _ _
   cases D8 [] X2<;>rfl
  ·have d:=hX 3
   refine A7p (Aki (l:=X3) hN (by simp only[GP]at d;exact A6k d (by decide)) _ 0 N (A5j _) (by simp only[GP]at d;exact A6d d (by omega))) ?_
   rw[show wrap .i64 (((3:Nat):Int)+1)=(((3:Nat)+1:Nat):Int)from rfl,e]
   show cond (D8 [] X3) _ _=cond (D8 [] X3||_) _ _
   cases D8 [] X3<;>rfl
  ·have d:=hX 4
   refine A7p (Akj (l:=X4) hN (by simp only[GP]at d;exact A6k d (by decide)) _ 0 N (A5j _) (by simp only[GP]at d;exact A6d d (by omega))) ?_
   rw[show wrap .i64 (((4:Nat):Int)+1)=(((4:Nat)+1:Nat):Int)from rfl,e]
   show cond (D8 [] X4) _ _=cond (D8 [] X4||_) _ _
   cases D8 [] X4<;>rfl
  ·have d:=hX 5
   refine A7p (Akk (l:=X5) hN (by simp only[GP]at d;exact A6k d (by decide)) _ 0 N (A5j _) (by simp only[GP]at d;exact A6d d (by omega))) ?_
   rw[show wrap .i64 (((5:Nat):Int)+1)=(((5:Nat)+1:Nat):Int)from rfl,e]
   show cond (D8 [] X5) _ _=cond (D8 [] X5||_) _ _
   cases D8 [] X5<;>rfl
  ·have d:=hX 6
   refine A7p (Akl (l:=X6) hN (by simp only[GP]at d;exact A6k d (by decide)) _ 0 N (A5j _) (by simp only[GP]at d;exact A6d d (by omega))) ?_
   rw[show wrap .i64 (((6:Nat):Int)+1)=(((6:Nat)+1:Nat):Int)from rfl,e]
   show cond (D8 [] X6) _ _=cond (D8 [] X6||_) _ _
   cases D8 [] X6<;>rfl
def Akn:∀(m i fuel:Nat),i+m=7->m<fuel->Ml N K X1.length X2.length X3.length X4.length X5.length X6.length (Au X1) (Au X2) (Au X3) (Au X4) (Au X5) (Au X6) fuel (i:Int)=cond ((List.range' i m).all fun i=>(GP X1 X2 X3 X4 X5 X6 i).all A9) (D1 N K X1.length X2.length X3.length X4.length X5.length X6.length (Au X1) (Au X2) (Au X3) (Au X4) (Au X5) (Au X6) N 0) (K 9)
|0,i,fuel+1,hi,_=>by
  rw[Ml];unfold IZ
  rw[decide_eq_false (show ¬ (i:Int)<7 by omega),cf];rfl
| m+1,i,fuel+1,hi,k=>by
  have d:=Akn m (i+1) fuel (by omega) (by omega)
  have step:∀(l:List Ap)(n:Nat)(c:LA),GP X1 X2 X3 X4 X5 X6 i=l->c=Au l->n=l.length->A3 N c n false true (fun ca=>cond ca (K 9) (Ml N K X1.length X2.length X3.length X4.length X5.length X6.length (Au X1) (Au X2) (Au X3) (Au X4) (Au X5) (Au X6) fuel (wrap .i64 ((i:Int)+1))))=cond (l.all A9&&(List.range' (i+1) m).all fun i=>(GP X1 X2 X3 X4 X5 X6 i).all A9) (D1 N K X1.length X2.length X3.length X4.length X5.length X6.length (Au X1) (Au X2) (Au X3) (Au X4) (Au X5) (Au X6) N 0) (K 9):=fun l n c e1 e e3=>by
   have f:=hX i
   rw[e1]at f
   subst e
   rw[An5 hN e3 (by omega),Q8 (by omega),d]
   cases l.all A9<;>rfl
  rw[Ml];unfold IZ
  have j:i=0\/i=1\/i=2\/i=3\/i=4\/i=5\/i=6:=by omega
  rw[A8a,A5s]
  rcases j with rfl|rfl|rfl|rfl|rfl|rfl|rfl
  ·exact step [] 0 [] rfl rfl rfl
  ·exact step X1 _ _ rfl (Ch _) rfl
  ·exact step X2 _ _ rfl (Ch _) rfl
  ·exact step X3 _ _ rfl (Ch _) rfl
  ·exact step X4 _ _ rfl (Ch _) rfl
  ·exact step X5 _ _ rfl (Ch _) rfl
  ·exact step X6 _ _ rfl (Ch _) rfl
end
variable{c:CaseD}{b:Bool}
def Ap4{X1 X2 X3 X4 X5:List Ap}{K:Int->O R}(f:c.outs.l.length<=1000000000):∀(m j fuel:Nat)(A:List Ap),j+m=c.outs.l.length->m<fuel->A.length=j ->
  Tp N K (c.outs.l.flatMap OutD.av) c.outs.l.length b X1.length X2.length X3.length X4.length X5.length (Au X1) (Au X2) (Au X3) (Au X4) (Au X5) fuel (c.outs.l.length:Int) (j:Int) A.length (Au A)=Ml N K X1.length X2.length X3.length X4.length X5.length (A++(c.outs.l.drop j).map OutD.name).length (Au X1) (Au X2) (Au X3) (Au X4) (Au X5) (Au (A++(c.outs.l.drop j).map OutD.name)) N 0
|0,j,fuel+1,A,k,_,hA=>by
  rw[Tp];unfold I_
  rw[Fk (by omega),cf,show c.outs.l.drop j=[]from Bo (by omega),A5v,A5h]
|m+1,j,fuel+1,A,k,n,hA=>by
  rw[Tp];unfold I_
  have h:j<c.outs.l.length:=by omega
  rw[Er h,ct,Aa h,ct,Cd (e:=OutD.av) (sz:=4) (fun _=>rfl) h,ct,Bp (e:=OutD.av) (sz:=4) (fun _=>rfl) h,show((beq 0 0)&&((beq ((OutD.av c.outs.l[j]).length) 4)&&(beq 4 4)))=true from rfl,ct,show ∀ F:Ap->O R,Gv (OutD.av c.outs.l[j]) F=F (c.outs.l[j]).name from fun _=>rfl,Rj (by omega),ct,Q8 (by omega),Ch,Ep,Bm h,A5c]
  have d:=Ap4 (X1:=X1) (X2:=X2) (X3:=X3) (X4:=X4) (X5:=X5) (K:=K) f m (j+1) fuel (A++[(c.outs.l[j]).name]) (by omega) (by omega) (by simp[hA])
  rw[A41,A5w]at d
  refine d.trans ?_
  rw[A5e];rfl
def Ap5{X1 X2 X3 X4:List Ap}{K:Int->O R}(f:c.ties.l.length<=1000000000):∀(m j fuel:Nat)(A:List Ap),j+m=c.ties.l.length->m<fuel->A.length=j ->
  Tq N K (c.ties.l.flatMap TieD.av) c.ties.l.length b c.av X1.length X2.length X3.length X4.length (Au X1) (Au X2) (Au X3) (Au X4) fuel (c.ties.l.length:Int) (j:Int) A.length (Au A)=Tp N K (c.outs.l.flatMap OutD.av) c.outs.l.length b X1.length X2.length X3.length X4.length (A++(c.ties.l.drop j).map TieD.name).length (Au X1) (Au X2) (Au X3) (Au X4) (Au (A++(c.ties.l.drop j).map TieD.name)) N (c.outs.l.length:Int) 0 0 []
|0,j,fuel+1,A,k,_,hA=>by
  rw[Tq];unfold JA
  rw[Fk (by omega),cf,show c.ties.l.drop j=[]from Bo (by omega),A5v,A5h,Ix]
|m+1,j,fuel+1,A,k,n,hA=>by
  rw[Tq];unfold JA
  have h:j<c.ties.l.length:=by omega
  rw[Er h,ct,Aa h,ct,Cd (e:=TieD.av) (sz:=5) (fun _=>rfl) h,ct,Bp (e:=TieD.av) (sz:=5) (fun _=>rfl) h,show((beq 0 0)&&((beq ((TieD.av c.ties.l[j]).length) 5)&&(beq 5 5)))=true from rfl,ct,show ∀ F:Ap->O R,Gv (TieD.av c.ties.l[j]) F=F (c.ties.l[j]).name from fun _=>rfl,Rj (by omega),ct,Q8 (by omega),Ch,Ep,Bm h,A5c]
  have d:=Ap5 (X1:=X1) (X2:=X2) (X3:=X3) (X4:=X4) (K:=K) f m (j+1) fuel (A++[(c.ties.l[j]).name]) (by omega) (by omega) (by simp[hA])
  rw[A41,A5w]at d
  refine d.trans ?_
  rw[A5e];rfl
def Aci{X1 X2 X3:List Ap}{K:Int->O R}(f:c.stores.l.length<=1000000000):∀(m j fuel:Nat)(A:List Ap),j+m=c.stores.l.length->m<fuel->A.length=j ->
  Tr N K (c.stores.l.flatMap StoreD.av) c.stores.l.length b c.av X1.length X2.length X3.length (Au X1) (Au X2) (Au X3) fuel (c.stores.l.length:Int) (j:Int) A.length (Au A)=Tq N K (c.ties.l.flatMap TieD.av) c.ties.l.length b c.av X1.length X2.length X3.length (A++(c.stores.l.drop j).map StoreD.name).length (Au X1) (Au X2) (Au X3) (Au (A++(c.stores.l.drop j).map StoreD.name)) N (c.ties.l.length:Int) 0 0 []
|0,j,fuel+1,A,k,_,hA=>by
  rw[Tr];unfold JB
  rw[Fk (by omega),cf,show c.stores.l.drop j=[]from Bo (by omega),A5v,A5h,Lm]
|m+1,j,fuel+1,A,k,n,hA=>by
  rw[Tr];unfold JB
  have h:j<c.stores.l.length:=by omega
  rw[Er h,ct,Aa h,ct,Cd (e:=StoreD.av) (sz:=9) (fun _=>rfl) h,ct,Bp (e:=StoreD.av) (sz:=9) (fun _=>rfl) h,show((beq 0 0)&&((beq ((StoreD.av c.stores.l[j]).length) 9)&&(beq 9 9)))=true from rfl,ct,show ∀ F:Ap->O R,Gv (StoreD.av c.stores.l[j]) F=F (c.stores.l[j]).name from fun _=>rfl,Rj (by omega),ct,Q8 (by omega),Ch,Ep,Bm h,A5c]
  have d:=Aci (X1:=X1) (X2:=X2) (X3:=X3) (K:=K) f m (j+1) fuel (A++[(c.stores.l[j]).name]) (by omega) (by omega) (by simp[hA])
  rw[A41,A5w]at d
  refine d.trans ?_
  rw[A5e];rfl
def Ako{X1 X2:List Ap}{K:Int->O R}(f:c.units.l.length<=1000000000):∀(m j fuel:Nat)(A:List Ap),j+m=c.units.l.length->m<fuel->A.length=j ->
  Ts N K (c.units.l.flatMap UnitD.av) c.units.l.length b c.av X1.length X2.length (Au X1) (Au X2) fuel (c.units.l.length:Int) (j:Int) A.length (Au A)=Tr N K (c.stores.l.flatMap StoreD.av) c.stores.l.length b c.av X1.length X2.length (A++(c.units.l.drop j).map UnitD.name).length (Au X1) (Au X2) (Au (A++(c.units.l.drop j).map UnitD.name)) N (c.stores.l.length:Int) 0 0 []
|0,j,fuel+1,A,k,_,hA=>by
  rw[Ts];unfold JC
  rw[Fk (by omega),cf,show c.units.l.drop j=[]from Bo (by omega),A5v,A5h,Hl]
|m+1,j,fuel+1,A,k,n,hA=>by
  rw[Ts];unfold JC
  have h:j<c.units.l.length:=by omega
  rw[Er h,ct,Aa h,ct,Cd (e:=UnitD.av) (sz:=22) (fun _=>rfl) h,ct,Bp (e:=UnitD.av) (sz:=22) (fun _=>rfl) h,show((beq 0 0)&&((beq ((UnitD.av c.units.l[j]).length) 22)&&(beq 22 22)))=true from rfl,ct,show ∀ F:Ap->O R,Gv (UnitD.av c.units.l[j]) F=F (c.units.l[j]).name from fun _=>rfl,Rj (by omega),ct,Q8 (by omega),Ch,Ep,Bm h,A5c]
  have d:=Ako (X1:=X1) (X2:=X2) (K:=K) f m (j+1) fuel (A++[(c.units.l[j]).name]) (by omega) (by omega) (by simp[hA])
  rw[A41,A5w]at d
  refine d.trans ?_
  rw[A5e];rfl
def Akp{X1:List Ap}{K:Int->O R}(f:c.lines.l.length<=1000000000):∀(m j fuel:Nat)(A:List Ap),j+m=c.lines.l.length->m<fuel->A.length=j ->
  Tt N K (c.lines.l.flatMap LineD.av) c.lines.l.length b c.av X1.length (Au X1) fuel (c.lines.l.length:Int) (j:Int) A.length (Au A)=Ts N K (c.units.l.flatMap UnitD.av) c.units.l.length b c.av X1.length (A++(c.lines.l.drop j).map LineD.name).length (Au X1) (Au (A++(c.lines.l.drop j).map LineD.name)) N (c.units.l.length:Int) 0 0 []
|0,j,fuel+1,A,k,_,hA=>by
  rw[Tt];unfold JD
  rw[Fk (by omega),cf,show c.lines.l.drop j=[]from Bo (by omega),A5v,A5h,F2]
|m+1,j,fuel+1,A,k,n,hA=>by
  rw[Tt];unfold JD
  have h:j<c.lines.l.length:=by omega
  rw[Er h,ct,Aa h,ct,Cd (e:=LineD.av) (sz:=12) (fun _=>rfl) h,ct,Bp (e:=LineD.av) (sz:=12) (fun _=>rfl) h,show((beq 0 0)&&((beq ((LineD.av c.lines.l[j]).length) 12)&&(beq 12 12)))=true from rfl,ct,show ∀ F:Ap->O R,Gv (LineD.av c.lines.l[j]) F=F (c.lines.l[j]).name from fun _=>rfl,Rj (by omega),ct,Q8 (by omega),Ch,Ep,Bm h,A5c]
  have d:=Akp (X1:=X1) (K:=K) f m (j+1) fuel (A++[(c.lines.l[j]).name]) (by omega) (by omega) (by simp[hA])
  rw[A41,A5w]at d
  refine d.trans ?_
  rw[A5e];rfl
def Akq{K:Int->O R}(f:c.buses.l.length<=1000000000):∀(m j fuel:Nat)(A:List Ap),j+m=c.buses.l.length->m<fuel->A.length=j ->
  Tu N K (c.buses.l.flatMap BusD.av) c.buses.l.length b c.av fuel (c.buses.l.length:Int) (j:Int) A.length (Au A)=Tt N K (c.lines.l.flatMap LineD.av) c.lines.l.length b c.av (A++(c.buses.l.drop j).map BusD.name).length (Au (A++(c.buses.l.drop j).map BusD.name)) N (c.lines.l.length:Int) 0 0 []
|0,j,fuel+1,A,k,_,hA=>by
  rw[Tu];unfold JE
  rw[Fk (by omega),cf,show c.buses.l.drop j=[]from Bo (by omega),A5v,A5h,Ef]
|m+1,j,fuel+1,A,k,n,hA=>by
  rw[Tu];unfold JE
  have h:j<c.buses.l.length:=by omega
  rw[Er h,ct,Aa h,ct,Cd (e:=BusD.av) (sz:=3) (fun _=>rfl) h,ct,Bp (e:=BusD.av) (sz:=3) (fun _=>rfl) h,show((beq 0 0)&&((beq ((BusD.av c.buses.l[j]).length) 3)&&(beq 3 3)))=true from rfl,ct,show ∀ F:Ap->O R,Gv (BusD.av c.buses.l[j]) F=F (c.buses.l[j]).name from fun _=>rfl,Rj (by omega),ct,Q8 (by omega),Ch,Ep,Bm h,A5c]
  have d:=Akq (K:=K) f m (j+1) fuel (A++[(c.buses.l[j]).name]) (by omega) (by omega) (by simp[hA])
  rw[A41,A5w]at d
  refine d.trans ?_
  rw[A5e];rfl
def An6{K:Int->O R}(hN:1000000000<N)(d:F4 c=true):fA N c.av b K=K (I7 c):=by
 unfold F4 at d
 simp only[A47,decide_eq_true_eq]at d
 obtain⟨c1,j,k,m,n,q⟩:=d
 rw[oS];unfold gV
 rw[Ca]
 refine(Akq (A:=[]) (by omega) c.buses.l.length 0 N (by omega) (by omega) rfl).trans ?_
 refine(Akp (A:=[]) (by omega) c.lines.l.length 0 N (by omega) (by omega) rfl).trans ?_
 refine(Ako (A:=[]) (by omega) c.units.l.length 0 N (by omega) (by omega) rfl).trans ?_
 refine(Aci (A:=[]) (by omega) c.stores.l.length 0 N (by omega) (by omega) rfl).trans ?_
 refine(Ap5 (A:=[]) (by omega) c.ties.l.length 0 N (by omega) (by omega) rfl).trans ?_
 refine(Ap4 (A:=[]) (by omega) c.outs.l.length 0 N (by omega) (by omega) rfl).trans ?_
 simp only[A5k,A50]
 show Ml N K (Bl c).length (Ce c).length (Bw c).length (Xd c).length (kQ c).length (kR c).length (Au (Bl c)) (Au (Ce c)) (Au (Bw c)) (Au (Xd c)) (Au (kQ c)) (Au (kR c)) N 0=_
 have hX:∀ i,(GP (Bl c) (Ce c) (Bw c) (Xd c) (kQ c) (kR c) i).length<=1000:=fun i=>by
  have:i=0\/i=1\/i=2\/i=3\/i=4\/i=5\/i=6\/7<=i:=by omega
  rcases this with rfl|rfl|rfl|rfl|rfl|rfl|rfl|h
  all_goals first
   |(simp[GP,Bl,Ce,Bw,Xd,kQ,kR];omega)
   |(simp[GP];done)
   |(unfold GP;rw[A5f,A6x (by simpa using h)];simp)
 refine(Akn hN hX 7 0 N (by omega) (by omega)).trans ?_
 have e:=Akm (K:=K) hN hX 7 0 N (by omega) (by omega)
 rw[show D1 N K (Bl c).length (Ce c).length (Bw c).length (Xd c).length (kQ c).length (kR c).length (Au (Bl c)) (Au (Ce c)) (Au (Bw c)) (Au (Xd c)) (Au (kQ c)) (Au (kR c)) N 0=_ from e]
 have e1:((List.range' 0 7).all fun i=>(GP (Bl c) (Ce c) (Bw c) (Xd c) (kQ c) (kR c) i).all A9)=(B5 c).all fun l=>l.all A9:=by simp[GP,B5,List.range']
 have f:((List.range' 0 7).any fun i=>D8 [] (GP (Bl c) (Ce c) (Bw c) (Xd c) (kQ c) (kR c) i))=(B5 c).any (D8 []):=by simp[GP,B5,List.range',D8]
 rw[e1,f]
 unfold I7
 cases (B5 c).all fun l=>l.all A9 with
|false=>rfl
|true=>cases (B5 c).any (D8 [])<;>rfl
end
end Gx.Ct
namespace Gx.Ct
open Go Go.Proofs Gx.Cf
section
variable{R:Type}{N:Nat}{c:CaseD}{b:Bool}
def od(o:OutD):Bool:=o.corr||o.moves.l.isEmpty
def y9{K:Lu->Int->O R}(d:c.outs.l.length<=1000):∀(m j fuel:Nat),j+m=c.outs.l.length->m<fuel ->
  U7 N K (c.outs.l.flatMap OutD.av) c.outs.l.length b c.av fuel (c.outs.l.length:Int) (j:Int) =
   cond ((c.outs.l.drop j).all od) (Lg N c.av b false fun h o p=>cond o (K ([]:Lu) 3) (cond (decide ((h:Int)>1048576)) (K ([]:Lu) 8) (Option.bind (CB (p.take (h*1))) fun q=>K q 0))) (K [] 16)
|0,j,fuel+1,f,_=>by
  rw[U7];unfold DT
  rw[Fk (by omega),cf,Bo (by omega),A55,Fl,ct,Cs];rfl
| m+1,j,fuel+1,f,n=>by
  rw[U7];unfold DT
  have h:j<c.outs.l.length:=by omega
  have k:=y9 (K:=K) d m (j+1) fuel (by omega) (by omega)
  rw[Er h,ct,Aa h,ct,Cd (e:=OutD.av) (sz:=4) (fun _=>rfl) h,ct,Bp (e:=OutD.av) (sz:=4) (fun _=>rfl) h,show((beq 0 0)&&((beq ((OutD.av c.outs.l[j]).length) 4)&&(beq 4 4)))=true from rfl,ct,Q8 (by omega),k,Bm h,A5s,
   show ∀ F:Bool->O R,QY (drop 2 (OutD.av c.outs.l[j])) F=F (c.outs.l[j]).corr from fun _=>rfl]
  have rm:∀ F:LA->Nat->O R,A5 3 (drop 3 (OutD.av c.outs.l[j])) F=F ((c.outs.l[j]).moves.l.flatMap MoveD.av) (c.outs.l[j]).moves.l.length:=fun F=>by
   show A5 3 ((c.outs.l[j]).moves.av 3 MoveD.av::_) F=_
   rw[A6]
  rw[rm]
  unfold od
  cases (c.outs.l[j]).corr with
  |true=>rfl
  |false =>
   show cond (decide ((((c.outs.l[j]).moves.l.length:Nat):Int)>0)) _ _=_
   cases s:(c.outs.l[j]).moves.l with
   |nil=>rfl
   |cons x r=>rw[decide_eq_true (by simp)];rfl
def tK {K:Lu->Int->O R} (hx:B9) (t:∀ z,Ams (tx z)) (hN:20000000000000<N) (hI:CaseI 20000000000000 c):JY N c.av b K=K (tt c) (Vk c):=by
 have fin:∀ e:Int,Vk c=e->e≠0->K [] e=K (tt c) (Vk c):=fun e d j=>by unfold tt;rw[d,if_neg j]
 rw[jj];unfold YJ
 rw[Fl,ct,Cs,Aj7]
 cases d:F4 c with
|false=>exact fin 8 (by unfold Vk;rw[if_pos d]) (by decide)
| true =>
  have u:=d
  unfold F4 at u
  simp only[A47,decide_eq_true_eq]at u
  have E1:Vk c=if c.hours<1\/c.hours>24 then 3 else if Wq c=false then 4 else if I7 c≠0 then I7 c else if Kf c=false then 12 else if Fp c=false then 16 else if Hd c then 3 else if (Nh c).length>1048576 then 8 else 0:=by
   unfold Vk;rw[if_neg (by rw[d];decide)]
  show Ax .i64 c.av _=_
  rw[Es]
  by_cases j:c.hours<1
  ·rw[decide_eq_true j];exact fin 3 (by rw[E1,if_pos (.inl j)]) (by decide)
  ·rw[decide_eq_false j,show((false:Bool)==false)=true from rfl,ct,Es]
   show cond (decide (c.hours>24)) _ _=_
   by_cases m:c.hours>24
   ·rw[decide_eq_true m];exact fin 3 (by rw[E1,if_pos (.inr m)]) (by decide)
   ·have E2:Vk c=if Wq c=false then 4 else if I7 c≠0 then I7 c else if Kf c=false then 12 else if Fp c=false then 16 else if Hd c then 3 else if (Nh c).length>1048576 then 8 else 0:=by
     rw[E1,if_neg (fun h=>h.elim j m)]
    rw[decide_eq_false m,cf]
    unfold JM RW
    rw[Fl,ct,Cs,Aj8 (by omega) (by omega) (by omega)]
    cases v:Wq c with
    |false=>exact fin 4 (by rw[E2,if_pos v]) (by decide)
    | true =>
     have E3:Vk c=if I7 c≠0 then I7 c else if Kf c=false then 12 else if Fp c=false then 16 else if Hd c then 3 else if (Nh c).length>1048576 then 8 else 0:=by
      rw[E2,if_neg (by rw[v];decide)]
     rw[show(!true)=false from rfl,cf,ct,An6 (by omega) d]
     by_cases f:I7 c=0
     ·have E4:Vk c=if Kf c=false then 12 else if Fp c=false then 16 else if Hd c then 3 else if (Nh c).length>1048576 then 8 else 0:=by
       rw[E3,if_neg (fun h=>h f)]
      rw[f,show((0:Int) != 0)=false from rfl,cf,ct,Anz hN d hI.o]
      cases n:Kf c with
      |false=>exact fin 12 (by rw[E4,if_pos n]) (by decide)
      | true =>
       have E5:Vk c=if Fp c=false then 16 else if Hd c then 3 else if (Nh c).length>1048576 then 8 else 0:=by
        rw[E4,if_neg (by rw[n];decide)]
       rw[show(!true)=false from rfl,cf,Ix]
       refine(y9 (by omega) c.outs.l.length 0 N (by omega) (by omega)).trans ?_
       rw[A5k,show c.outs.l.all od=Fp c from rfl]
       cases x:Fp c with
       |false=>exact fin 16 (by rw[E5,if_pos x]) (by decide)
       | true =>
        have E6:Vk c=if Hd c then 3 else if (Nh c).length>1048576 then 8 else 0:=by
         rw[E5,if_neg (by rw[x];decide)]
        rw[ct]
        have k:∀ l∈B5 c,∀ s∈l,A9 s=true:=by
         unfold I7 at f
         split at f
         ·rename_i y
          simp only[A5n]at y
          exact y
         ·cases f
        have rd:Ready 20000000000000 c:=⟨hI,fun l D s hs=>by
         have:=k l D s hs
         unfold A9 at this
         simp only[A47,decide_eq_true_eq]at this
         exact this.2.1,n,d⟩
        rw[Anx hx hN rd]
        cases A:Hd c with
        |true=>exact fin 3 (by rw[E6,if_pos A]) (by decide)
        | false =>
         have E7:Vk c=if (Nh c).length>1048576 then 8 else 0:=by
          rw[E6,if_neg (by rw[A];decide)]
         rw[cf]
         obtain⟨C,F⟩:=(Aue ⟨hI,t,k,n⟩).out
         by_cases q:(Nh c).length>1048576
         ·have:=C.2 q
          rw[decide_eq_true (show(((Kg [] (EI c)).length:Nat):Int)>1048576 by omega)]
          exact fin 8 (by rw[E7,if_pos q]) (by decide)
         ·have G:¬ (Kg [] (EI c)).length>1048576:=fun h=>q (C.1 h)
          have e:=F (by omega)
          have E8:Vk c=0:=by rw[E7,if_neg q]
          rw[decide_eq_false (show ¬ (((Kg [] (EI c)).length:Nat):Int)>1048576 by omega),cf,Agd,jL,e]
          unfold tt;rw[E8,if_pos rfl];rfl
     ·rw[show(I7 c != 0)=true by simp[f],ct]
      exact fin (I7 c) (by rw[E3,if_pos f]) f
end
end Gx.Ct
namespace Gx.Ct
open Go Go.Proofs Gx.Cf
section
variable{R:Type}{N:Nat}
def oe{c:CaseD}{b:Bool}{K:Bool->O R}(e:c.ties.l.length<=1000000):∀(m j fuel:Nat)(ok:Bool),j+m=c.ties.l.length->m<fuel ->
  Q6 N K (c.ties.l.flatMap TieD.av) c.ties.l.length b c.av fuel ok (c.ties.l.length:Int) (j:Int)=K (ok&&(c.ties.l.drop j).all (Arw c))
|0,j,fuel+1,ok,f,_=>by
  rw[Q6];unfold Y1
  rw[Fk (by omega),cf,Bo (by omega),A55,A64]
| m+1,j,fuel+1,ok,f,s=>by
  rw[Q6];unfold Y1
  have h:j<c.ties.l.length:=by omega
  rw[Er h,ct,Aa h,ct,Cd Hf h,ct,Bp Hf h,show((beq 0 0)&&((beq ((TieD.av c.ties.l[j]).length) 5)&&(beq 5 5)))=true from rfl,ct,Q8 (by omega),Bm h,A5s]
  have d:=fun ok=>oe (c:=c) (b:=b) (K:=K) e m (j+1) fuel ok (by omega) (by omega)
  have k:∀ F:LA->Nat->O R,A5 1 (drop 2 (TieD.av c.ties.l[j])) F=F (A4 c.ties.l[j].imp.l) c.ties.l[j].imp.l.length:=fun F=>by
   show A5 1 (c.ties.l[j].imp.av 1 D5::_) F=_
   rw[A6,Bn]
  have n:∀ F:LA->Nat->O R,A5 1 (drop 3 (TieD.av c.ties.l[j])) F=F (A4 c.ties.l[j].exp.l) c.ties.l[j].exp.l.length:=fun F=>by
   show A5 1 (c.ties.l[j].exp.av 1 D5::_) F=_
   rw[A6,Bn]
  have q:∀ F:LA->Nat->O R,A5 1 (drop 4 (TieD.av c.ties.l[j])) F=F (A4 c.ties.l[j].price.l) c.ties.l[j].price.l.length:=fun F=>by
   show A5 1 (c.ties.l[j].price.av 1 D5::_) F=_
   rw[A6,Bn]
  cases ok with
  |false=>exact(d false).trans (by simp)
  | true =>
   rw[show((true:Bool)==true)=true from rfl,ct,k,Es]
   show cond (EJ c c.ties.l[j].imp==true) _ _=_
   unfold Arw
   cases EJ c c.ties.l[j].imp with
   |false=>exact(d false).trans (by simp)
   | true =>
    rw[show((true:Bool)==true)=true from rfl,ct,n,Es]
    show cond (EJ c c.ties.l[j].exp==true) _ _=_
    cases EJ c c.ties.l[j].exp with
    |false=>exact(d false).trans (by simp)
    |true =>
     rw[show((true:Bool)==true)=true from rfl,ct,q,Es]
     exact d (EJ c c.ties.l[j].price)
def jk{c:CaseD}{b:Bool}{K:Bool->O R}(f:c.buses.l.length<=1000000)(d:c.ties.l.length<=1000000)(hN:1000000<N):∀(m j fuel:Nat)(ok:Bool),j+m=c.buses.l.length->m<fuel ->
  M5 N K (c.buses.l.flatMap BusD.av) c.buses.l.length b c.av fuel ok (c.buses.l.length:Int) (j:Int)=K (ok&&((c.buses.l.drop j).all (fun x=>EJ c x.demand)&&c.ties.l.all (Arw c)))
|0,j,fuel+1,ok,k,_=>by
  rw[M5];unfold Y2
  rw[Fk (by omega),cf,show c.buses.l.drop j=[]from Bo (by omega),A55,Lm]
  refine(oe (b:=b) (K:=K) d c.ties.l.length 0 N ok (by omega) (by omega)).trans ?_
  rfl
| m+1,j,fuel+1,ok,k,q=>by
  rw[M5];unfold Y2
  have h:j<c.buses.l.length:=by omega
  rw[Er h,ct,Aa h,ct,Cd Kj h,ct,Bp Kj h,show((beq 0 0)&&((beq ((BusD.av c.buses.l[j]).length) 3)&&(beq 3 3)))=true from rfl,ct,Q8 (by omega),Bm h,A5s]
  have e:=fun ok=>jk (c:=c) (b:=b) (K:=K) f d hN m (j+1) fuel ok (by omega) (by omega)
  have n:∀ F:LA->Nat->O R,A5 1 (drop 1 (BusD.av c.buses.l[j])) F=F (A4 c.buses.l[j].demand.l) c.buses.l[j].demand.l.length:=fun F=>by
   show A5 1 (c.buses.l[j].demand.av 1 D5::_) F=_
   rw[A6,Bn]
  cases ok with
  |false=>exact(e false).trans (by simp)
  |true =>
   rw[show((true:Bool)==true)=true from rfl,ct,n,Es]
   refine(e (EJ c c.buses.l[j].demand)).trans ?_
   congr 1
   simp[A6b]
def Agn{c:CaseD}{t:Bool}{K:Bool->O R}(d:c.buses.l.length<=1000000)(e:c.ties.l.length<=1000000)(hN:1000000<N):LW N c.av t K=K (Wq c):=by
 rw[dU];unfold PG
 rw[K_,Es,Ca]
 exact jk (b:=t) (K:=K) d e hN c.buses.l.length 0 N _ (by omega) (by omega)
def FS{i:Int}{n:Nat}{F:Bool->O R}:LX N i (n:Int) F=F (El i n):=by
 rw[xM];unfold Afm El
 show cond (decide (0<=i)==true) (F (decide (i<(n:Int)))) (F false)=_
 cases decide (0<=i)<;>rfl
def Acj{l:List Ap}{w:Ap}{d f:Bool}(k:l.length<=1000000):∀(m j fuel:Nat),j+m=l.length->m<fuel ->
  ∃ v:Int,(decide (v>=0)=(l.drop j).contains w)/\∀ K:Int->O R,Oh N K (Au l) l.length d f w fuel (j:Int)=K v
|0,j,fuel+1,n,_=>by
  refine⟨-1,by rw[Bo (by omega)];rfl,fun K=>?_⟩
  rw[Oh];unfold Y3
  rw[Fk (by omega),cf]
| m+1,j,fuel+1,n,q=>by
  have h:j<l.length:=by omega
  obtain⟨v,v1,v2⟩:=Acj (l:=l) (w:=w) (d:=d) (f:=f) k m (j+1) fuel (by omega) (by omega)
  by_cases e:l[j]=w
  ·refine⟨(j:Int),by rw[Bm h,A75,e];simp,fun K=>?_⟩
   rw[Oh];unfold Y3
   rw[Er h,ct,Aa h,ct,A45,A5m,Gn h,show(l[j]==w)=true by simp[e],ct]
  ·refine⟨v,by rw[v1,Bm h,A75,show(w==l[j])=false by simpa using fun h=>e h.symm,A56],fun K=>?_⟩
   rw[Oh];unfold Y3
   rw[Er h,ct,Aa h,ct,A45,A5m,Gn h,show(l[j]==w)=false by simp[e],cf,Q8 (by omega),v2]
end
end Gx.Ct
namespace Gx.Ct
open Go Go.Proofs Gx.Cf
section
variable{R:Type}{N:Nat}{c:CaseD}{b:Bool}{K:Bool->O R}
def oh{o:OutD}{k4:Bool->Int->Int->O R}{C:LA}{D:Nat}{f ac:Int}(k:o.moves.l.length<=1000000000):∀(m j fuel:Nat)(ok:Bool),j+m=o.moves.l.length->m<fuel ->
  Uo N k4 K C D b f (o.moves.l.flatMap MoveD.av) o.moves.l.length c.av fuel ok ac (o.moves.l.length:Int) (j:Int)=k4 (ok&&(o.moves.l.drop j).all fun m=>El m.unit c.units.l.length) f (wrap .i64 (ac+1))
|0,j,fuel+1,ok,n,_=>by
  rw[Uo];unfold C_
  rw[Fk (by omega),cf,Bo (by omega),A55,A64]
| m+1,j,fuel+1,ok,n,q=>by
  rw[Uo];unfold C_
  have h:j<o.moves.l.length:=by omega
  have e:take 3 (drop (Int.toNat (j:Int)*3) (o.moves.l.flatMap MoveD.av))=[.int .i64 (o.moves.l[j]).unit,.int .i64 (o.moves.l[j]).up,.int .i64 (o.moves.l[j]).down]:=Bp (e:=MoveD.av) (sz:=3) (fun _=>rfl) h
  rw[Er h,ct,Aa h,ct,Cd (e:=MoveD.av) (sz:=3) (fun _=>rfl) h,ct,e,show(!b||A0 [AV.int .i64 (o.moves.l[j]).unit,.int .i64 (o.moves.l[j]).up,.int .i64 (o.moves.l[j]).down])=true by cases b<;>rfl,ct,Q8 (by omega),Bm h,
   show((beq ([AV.int .i64 (o.moves.l[j]).unit,.int .i64 (o.moves.l[j]).up,.int .i64 (o.moves.l[j]).down].length) 3)&&((ble 3 3)&&(!false)))=true from rfl,ct,A5s]
  have d:=fun ok=>oh (k4:=k4) (C:=C) (D:=D) (f:=f) (ac:=ac) k m (j+1) fuel ok (by omega) (by omega)
  cases ok with
  |false=>exact(d false).trans rfl
  |true =>
   rw[show((true:Bool)==true)=true from rfl,ct,show ∀ F:Int->O R,Ax .i64 (setCells [Bbz,Bbz,Bbz] 0 [AV.int .i64 (o.moves.l[j]).unit,.int .i64 (o.moves.l[j]).up,.int .i64 (o.moves.l[j]).down]) F=F (o.moves.l[j]).unit from fun _=>rfl,F2,FS]
   exact d (El (o.moves.l[j]).unit c.units.l.length)
def y_{o:OutD}{k4:Bool->Int->Int->O R}{C:LA}{D:Nat}{f ac:Int}(hN:1000000000<N)(d:o.moves.l.length<=1000000000)(k:o.lines.l.length<=1000000000):∀(m j fuel:Nat)(ok:Bool),j+m=o.lines.l.length->m<fuel ->
  Ph N k4 K C D b f (A4 o.lines.l) o.lines.l.length c.av fuel ok ac (o.lines.l.length:Int) (j:Int) o.av=k4 (ok&&((o.lines.l.drop j).all (fun l=>El l c.lines.l.length)&&o.moves.l.all fun m=>El m.unit c.units.l.length)) f (wrap .i64 (ac+1))
|0,j,fuel+1,ok,n,_=>by
  rw[Ph];unfold C'
  rw[Fk (by omega),cf,show o.lines.l.drop j=[]from Bo (by omega),A55]
  show A5 3 (o.moves.av 3 MoveD.av::_) _=_
  rw[A6]
  refine(oh d o.moves.l.length 0 N ok (by omega) (by omega)).trans ?_
  rw[A5k,A52]
| m+1,j,fuel+1,ok,n,q=>by
  rw[Ph];unfold C'
  have h:j<o.lines.l.length:=by omega
  have e:=fun ok=>y_ (k4:=k4) (C:=C) (D:=D) (f:=f) (ac:=ac) hN d k m (j+1) fuel ok (by omega) (by omega)
  rw[Er h,ct,Aa h,ct,KZ h,Q8 (by omega),Bm h,A5s]
  cases ok with
  |false=>exact(e false).trans rfl
  |true =>
   rw[show((true:Bool)==true)=true from rfl,ct,Ef,FS]
   refine(e (El o.lines.l[j] c.lines.l.length)).trans ?_
   rw[A52,A6b]
def tL(hN:1000000000<N)(f:c.outs.l.length<=1000)(hI:∀ o∈c.outs.l,OutI 1000000000 o):∀(m j fuel:Nat)(ok:Bool),j+m=c.outs.l.length->m<fuel ->
  Jn N K (c.outs.l.flatMap OutD.av) c.outs.l.length b c.av fuel ok (c.outs.l.length:Int) (j:Int)=K (ok&&(c.outs.l.drop j).all (Yd c))
|0,j,fuel+1,ok,k,_=>by
  rw[Jn];unfold DA
  rw[Fk (by omega),cf,Bo (by omega),A55,A64]
|m+1,j,fuel+1,ok,k,n=>by
  rw[Jn];unfold DA
  have h:j<c.outs.l.length:=by omega
  have d:=hI _ (A5g h)
  rw[Er h,ct,Aa h,ct,Cd (e:=OutD.av) (sz:=4) (fun _=>rfl) h,ct,Bp (e:=OutD.av) (sz:=4) (fun _=>rfl) h,show((beq 0 0)&&((beq ((OutD.av c.outs.l[j]).length) 4)&&(beq 4 4)))=true from rfl,ct]
  show A5 1 ((c.outs.l[j]).lines.av 1 D5::_) _=_
  rw[A6,Bn]
  refine(y_ hN d.m.2 d.l (c.outs.l[j]).lines.l.length 0 N ok (by omega) (by have:=d.l;omega)).trans ?_
  rw[Q8 (by omega),A5k]
  refine(tL hN f hI m (j+1) fuel _ (by omega) (by omega)).trans ?_
  rw[Bm h,A5s]
  unfold Yd
  simp only[A6b]
def tM(hN:1000000000<N)(f:c.ties.l.length<=1000)(hr:∀(ok:Bool)(fuel:Nat),1000<fuel->Jn N K (c.outs.l.flatMap OutD.av) c.outs.l.length b c.av fuel ok (c.outs.l.length:Int) 0=K (ok&&c.outs.l.all (Yd c))):∀(m j fuel:Nat)(ok:Bool),j+m=c.ties.l.length->m<fuel ->
  Lr N K (c.buses.l.length:Int) (c.ties.l.flatMap TieD.av) c.ties.l.length b c.av fuel ok (c.ties.l.length:Int) (j:Int)=K (ok&&((c.ties.l.drop j).all (fun t=>El t.bus c.buses.l.length)&&c.outs.l.all (Yd c)))
|0,j,fuel+1,ok,k,_=>by
  rw[Lr];unfold DB
  rw[Fk (by omega),cf,show c.ties.l.drop j=[]from Bo (by omega),A55,Ix,A52]
  exact hr ok N (by omega)
| m+1,j,fuel+1,ok,k,n=>by
  rw[Lr];unfold DB
  have h:j<c.ties.l.length:=by omega
  have d:=fun ok=>tM hN f hr m (j+1) fuel ok (by omega) (by omega)
  rw[Er h,ct,Aa h,ct,Cd (e:=TieD.av) (sz:=5) (fun _=>rfl) h,ct,Bp (e:=TieD.av) (sz:=5) (fun _=>rfl) h,show((beq 0 0)&&((beq ((TieD.av c.ties.l[j]).length) 5)&&(beq 5 5)))=true from rfl,ct,Q8 (by omega),Bm h,A5s]
  cases ok with
  |false=>exact(d false).trans rfl
  |true =>
   rw[show((true:Bool)==true)=true from rfl,ct]
   rw[show ∀ F:Int->O R,Ax .i64 (drop 1 (c.ties.l[j]).av) F=F (c.ties.l[j]).bus from fun _=>rfl,FS]
   refine(d (El (c.ties.l[j]).bus c.buses.l.length)).trans ?_
   rw[A52,A6b]
def jl(hN:1000000000<N)(f:c.stores.l.length<=1000)(hr:∀(ok:Bool)(fuel:Nat),1000<fuel->Lr N K (c.buses.l.length:Int) (c.ties.l.flatMap TieD.av) c.ties.l.length b c.av fuel ok (c.ties.l.length:Int) 0=K (ok&&(c.ties.l.all (fun t=>El t.bus c.buses.l.length)&&c.outs.l.all (Yd c)))):∀(m j fuel:Nat)(ok:Bool),j+m=c.stores.l.length->m<fuel ->
  Ls N K (c.buses.l.length:Int) (c.stores.l.flatMap StoreD.av) c.stores.l.length b c.av fuel ok (c.stores.l.length:Int) (j:Int)=K (ok&&((c.stores.l.drop j).all (fun s=>El s.bus c.buses.l.length)&&(c.ties.l.all (fun t=>El t.bus c.buses.l.length)&&c.outs.l.all (Yd c))))
|0,j,fuel+1,ok,k,_=>by
  rw[Ls];unfold DC
  rw[Fk (by omega),cf,show c.stores.l.drop j=[]from Bo (by omega),A55,Lm,A52]
  exact hr ok N (by omega)
| m+1,j,fuel+1,ok,k,n=>by
  rw[Ls];unfold DC
  have h:j<c.stores.l.length:=by omega
  have d:=fun ok=>jl hN f hr m (j+1) fuel ok (by omega) (by omega)
  rw[Er h,ct,Aa h,ct,Cd (e:=StoreD.av) (sz:=9) (fun _=>rfl) h,ct,Bp (e:=StoreD.av) (sz:=9) (fun _=>rfl) h,show((beq 0 0)&&((beq ((StoreD.av c.stores.l[j]).length) 9)&&(beq 9 9)))=true from rfl,ct,Q8 (by omega),Bm h,A5s]
  cases ok with
  |false=>exact(d false).trans rfl
  |true =>
   rw[show((true:Bool)==true)=true from rfl,ct]
   rw[show ∀ F:Int->O R,Ax .i64 (drop 1 (c.stores.l[j]).av) F=F (c.stores.l[j]).bus from fun _=>rfl,FS]
   refine(d (El (c.stores.l[j]).bus c.buses.l.length)).trans ?_
   rw[A52,A6b]
def oi(hN:1000000000<N)(f:c.units.l.length<=1000)(hr:∀(ok:Bool)(fuel:Nat),1000<fuel->Ls N K (c.buses.l.length:Int) (c.stores.l.flatMap StoreD.av) c.stores.l.length b c.av fuel ok (c.stores.l.length:Int) 0=K (ok&&(c.stores.l.all (fun s=>El s.bus c.buses.l.length)&&(c.ties.l.all (fun t=>El t.bus c.buses.l.length)&&c.outs.l.all (Yd c))))):∀(m j fuel:Nat)(ok:Bool),j+m=c.units.l.length->m<fuel ->
  Lt N K (c.buses.l.length:Int) (c.units.l.flatMap UnitD.av) c.units.l.length b c.av fuel ok (c.units.l.length:Int) (j:Int)=K (ok&&((c.units.l.drop j).all (fun u=>El u.bus c.buses.l.length&&El u.state 3)&&(c.stores.l.all (fun s=>El s.bus c.buses.l.length)&&(c.ties.l.all (fun t=>El t.bus c.buses.l.length)&&c.outs.l.all (Yd c)))))
|0,j,fuel+1,ok,k,_=>by
  rw[Lt];unfold DD
  rw[Fk (by omega),cf,show c.units.l.drop j=[]from Bo (by omega),A55,Hl,A52]
  exact hr ok N (by omega)
| m+1,j,fuel+1,ok,k,n=>by
  rw[Lt];unfold DD
  have h:j<c.units.l.length:=by omega
  have d:=fun ok=>oi hN f hr m (j+1) fuel ok (by omega) (by omega)
  rw[Er h,ct,Aa h,ct,Cd (e:=UnitD.av) (sz:=22) (fun _=>rfl) h,ct,Bp (e:=UnitD.av) (sz:=22) (fun _=>rfl) h,show((beq 0 0)&&((beq ((UnitD.av c.units.l[j]).length) 22)&&(beq 22 22)))=true from rfl,ct,Q8 (by omega),Bm h,A5s]
  cases ok with
  |false=>exact(d false).trans rfl
  | true =>
   rw[show((true:Bool)==true)=true from rfl,ct]
   rw[show ∀ F:Int->O R,Ax .i64 (drop 1 (c.units.l[j]).av) F=F (c.units.l[j]).bus from fun _=>rfl,FS]
   show cond (El (c.units.l[j]).bus c.buses.l.length==true) _ _=_
   cases El (c.units.l[j]).bus c.buses.l.length with
   |false=>exact(d false).trans rfl
   |true =>
    rw[show((true:Bool)==true)=true from rfl,ct,show ∀ F:Int->O R,Ax .i64 (drop 19 (c.units.l[j]).av) F=F (c.units.l[j]).state from fun _=>rfl,show(3:Int)=((3:Nat):Int)from rfl,FS]
    refine(d (El (c.units.l[j]).state 3)).trans ?_
    rw[A52,A52,A6b]
def oq(hN:1000000000<N)(f:c.lines.l.length<=1000)(hr:∀(ok:Bool)(fuel:Nat),1000<fuel->Lt N K (c.buses.l.length:Int) (c.units.l.flatMap UnitD.av) c.units.l.length b c.av fuel ok (c.units.l.length:Int) 0=K (ok&&(c.units.l.all (fun u=>El u.bus c.buses.l.length&&El u.state 3)&&(c.stores.l.all (fun s=>El s.bus c.buses.l.length)&&(c.ties.l.all (fun t=>El t.bus c.buses.l.length)&&c.outs.l.all (Yd c)))))):∀(m j fuel:Nat)(ok:Bool),j+m=c.lines.l.length->m<fuel ->
  Pi N K (c.lines.l.flatMap LineD.av) c.lines.l.length b c.av fuel (c.buses.l.length:Int) ok (c.lines.l.length:Int) (j:Int)=K (ok&&((c.lines.l.drop j).all (fun l=>El l.fr c.buses.l.length&&El l.tl c.buses.l.length)&&(c.units.l.all (fun u=>El u.bus c.buses.l.length&&El u.state 3)&&(c.stores.l.all (fun s=>El s.bus c.buses.l.length)&&(c.ties.l.all (fun t=>El t.bus c.buses.l.length)&&c.outs.l.all (Yd c))))))
|0,j,fuel+1,ok,k,_=>by
  rw[Pi];unfold DE
  rw[Fk (by omega),cf,show c.lines.l.drop j=[]from Bo (by omega),A55,F2,A52]
  exact hr ok N (by omega)
| m+1,j,fuel+1,ok,k,n=>by
  rw[Pi];unfold DE
  have h:j<c.lines.l.length:=by omega
  have d:=fun ok=>oq hN f hr m (j+1) fuel ok (by omega) (by omega)
  rw[Er h,ct,Aa h,ct,Cd (e:=LineD.av) (sz:=12) (fun _=>rfl) h,ct,Bp (e:=LineD.av) (sz:=12) (fun _=>rfl) h,show((beq 0 0)&&((beq ((LineD.av c.lines.l[j]).length) 12)&&(beq 12 12)))=true from rfl,ct,Q8 (by omega),Bm h,A5s]
  cases ok with
  |false=>exact(d false).trans rfl
  | true =>
   rw[show((true:Bool)==true)=true from rfl,ct]
   rw[show ∀ F:Int->O R,Ax .i64 (drop 1 (c.lines.l[j]).av) F=F (c.lines.l[j]).fr from fun _=>rfl,FS]
   show cond (El (c.lines.l[j]).fr c.buses.l.length==true) _ _=_
   cases El (c.lines.l[j]).fr c.buses.l.length with
   |false=>exact(d false).trans rfl
   |true =>
    rw[show((true:Bool)==true)=true from rfl,ct,show ∀ F:Int->O R,Ax .i64 (drop 2 (c.lines.l[j]).av) F=F (c.lines.l[j]).tl from fun _=>rfl,FS]
    refine(d (El (c.lines.l[j]).tl c.buses.l.length)).trans ?_
    rw[A52,A52,A6b]
def Akr(hN:1000000000<N)(d:F4 c=true)(hI:∀ o∈c.outs.l,OutI 1000000000 o):JW N c.av b K=K (Kf c):=by
 unfold F4 at d
 simp only[A47,decide_eq_true_eq]at d
 obtain⟨c1,n,q,v,x,y⟩:=d
 rw[j4];unfold XC
 rw[Ca,Ef]
 have f:∀(ok:Bool)(fuel:Nat),1000<fuel->Jn N K (c.outs.l.flatMap OutD.av) c.outs.l.length b c.av fuel ok (c.outs.l.length:Int) 0=K (ok&&c.outs.l.all (Yd c)):=fun ok fuel e=>tL hN (by omega) hI c.outs.l.length 0 fuel ok (by omega) (by omega)
 have j:∀(ok:Bool)(fuel:Nat),1000<fuel->Lr N K (c.buses.l.length:Int) (c.ties.l.flatMap TieD.av) c.ties.l.length b c.av fuel ok (c.ties.l.length:Int) 0=K (ok&&(c.ties.l.all (fun t=>El t.bus c.buses.l.length)&&c.outs.l.all (Yd c))):=fun ok fuel e=>tM hN (by omega) f c.ties.l.length 0 fuel ok (by omega) (by omega)
 have k:∀(ok:Bool)(fuel:Nat),1000<fuel->Ls N K (c.buses.l.length:Int) (c.stores.l.flatMap StoreD.av) c.stores.l.length b c.av fuel ok (c.stores.l.length:Int) 0=K (ok&&(c.stores.l.all (fun s=>El s.bus c.buses.l.length)&&(c.ties.l.all (fun t=>El t.bus c.buses.l.length)&&c.outs.l.all (Yd c)))):=fun ok fuel e=>jl hN (by omega) j c.stores.l.length 0 fuel ok (by omega) (by omega)
 have m:∀(ok:Bool)(fuel:Nat),1000<fuel->Lt N K (c.buses.l.length:Int) (c.units.l.flatMap UnitD.av) c.units.l.length b c.av fuel ok (c.units.l.length:Int) 0=K (ok&&(c.units.l.all (fun u=>El u.bus c.buses.l.length&&El u.state 3)&&(c.stores.l.all (fun s=>El s.bus c.buses.l.length)&&(c.ties.l.all (fun t=>El t.bus c.buses.l.length)&&c.outs.l.all (Yd c))))):=fun ok fuel e=>oi hN (by omega) k c.units.l.length 0 fuel ok (by omega) (by omega)
 exact oq hN (by omega) m c.lines.l.length 0 N true (by omega) (by omega)
end
end Gx.Ct
namespace Gx.Ct
open Go Go.Proofs Gx.Cf
section
variable{R:Type}{N:Nat}{c:CaseD}{b:Bool}{K:Nat->LA->O R}
def O'(f:c.buses.l.length<=1000000000):∀(m j fuel:Nat)(A:List Ap),j+m=c.buses.l.length->m<fuel->A.length=j ->
  H8 N K b c.av fuel A.length (j:Int) (Au A)=K (A++(c.buses.l.drop j).map BusD.name).length (Au (A++(c.buses.l.drop j).map BusD.name))
|0,j,fuel+1,A,k,_,hA=>by
  rw[H8];unfold Qr
  rw[Ca,Fk (by omega),cf,show c.buses.l.drop j=[]from Bo (by omega),A5v,A5h]
|m+1,j,fuel+1,A,k,n,hA=>by
  rw[H8];unfold Qr
  have h:j<c.buses.l.length:=by omega
  rw[Ca,Er h,ct,Ca,Aa h,ct,A45,Bt (e:=BusD.av) (sz:=3) (fun _=>rfl) _ _ h,show ∀ F:Ap->O R,Gv (BusD.av c.buses.l[j]++(c.buses.l.drop (j+1)).flatMap BusD.av) F=F (c.buses.l[j]).name from fun _=>rfl,Rj (by omega),ct,Q8 (by omega),Ch,Ep,Bm h,A5c]
  have d:=O' f m (j+1) fuel (A++[(c.buses.l[j]).name]) (by omega) (by omega) (by simp[hA])
  rw[A41,A5w]at d
  refine d.trans ?_
  rw[A5e];rfl
def EO(f:c.lines.l.length<=1000000000):∀(m j fuel:Nat)(A:List Ap),j+m=c.lines.l.length->m<fuel->A.length=j ->
  H9 N K b c.av fuel A.length (j:Int) (Au A)=K (A++(c.lines.l.drop j).map LineD.name).length (Au (A++(c.lines.l.drop j).map LineD.name))
|0,j,fuel+1,A,k,_,hA=>by
  rw[H9];unfold Qs
  rw[Ef,Fk (by omega),cf,show c.lines.l.drop j=[]from Bo (by omega),A5v,A5h]
|m+1,j,fuel+1,A,k,n,hA=>by
  rw[H9];unfold Qs
  have h:j<c.lines.l.length:=by omega
  rw[Ef,Er h,ct,Ef,Aa h,ct,A45,Bt (e:=LineD.av) (sz:=12) (fun _=>rfl) _ _ h,show ∀ F:Ap->O R,Gv (LineD.av c.lines.l[j]++(c.lines.l.drop (j+1)).flatMap LineD.av) F=F (c.lines.l[j]).name from fun _=>rfl,Rj (by omega),ct,Q8 (by omega),Ch,Ep,Bm h,A5c]
  have d:=EO f m (j+1) fuel (A++[(c.lines.l[j]).name]) (by omega) (by omega) (by simp[hA])
  rw[A41,A5w]at d
  refine d.trans ?_
  rw[A5e];rfl
def EP(f:c.units.l.length<=1000000000):∀(m j fuel:Nat)(A:List Ap),j+m=c.units.l.length->m<fuel->A.length=j ->
  Ia N K b c.av fuel A.length (j:Int) (Au A)=K (A++(c.units.l.drop j).map UnitD.name).length (Au (A++(c.units.l.drop j).map UnitD.name))
|0,j,fuel+1,A,k,_,hA=>by
  rw[Ia];unfold Qt
  rw[F2,Fk (by omega),cf,show c.units.l.drop j=[]from Bo (by omega),A5v,A5h]
|m+1,j,fuel+1,A,k,n,hA=>by
  rw[Ia];unfold Qt
  have h:j<c.units.l.length:=by omega
  rw[F2,Er h,ct,F2,Aa h,ct,A45,Bt (e:=UnitD.av) (sz:=22) (fun _=>rfl) _ _ h,show ∀ F:Ap->O R,Gv (UnitD.av c.units.l[j]++(c.units.l.drop (j+1)).flatMap UnitD.av) F=F (c.units.l[j]).name from fun _=>rfl,Rj (by omega),ct,Q8 (by omega),Ch,Ep,Bm h,A5c]
  have d:=EP f m (j+1) fuel (A++[(c.units.l[j]).name]) (by omega) (by omega) (by simp[hA])
  rw[A41,A5w]at d
  refine d.trans ?_
  rw[A5e];rfl
def Yx(f:c.stores.l.length<=1000000000):∀(m j fuel:Nat)(A:List Ap),j+m=c.stores.l.length->m<fuel->A.length=j ->
  Ib N K b c.av fuel A.length (j:Int) (Au A)=K (A++(c.stores.l.drop j).map StoreD.name).length (Au (A++(c.stores.l.drop j).map StoreD.name))
|0,j,fuel+1,A,k,_,hA=>by
  rw[Ib];unfold Qu
  rw[Hl,Fk (by omega),cf,show c.stores.l.drop j=[]from Bo (by omega),A5v,A5h]
|m+1,j,fuel+1,A,k,n,hA=>by
  rw[Ib];unfold Qu
  have h:j<c.stores.l.length:=by omega
  rw[Hl,Er h,ct,Hl,Aa h,ct,A45,Bt (e:=StoreD.av) (sz:=9) (fun _=>rfl) _ _ h,show ∀ F:Ap->O R,Gv (StoreD.av c.stores.l[j]++(c.stores.l.drop (j+1)).flatMap StoreD.av) F=F (c.stores.l[j]).name from fun _=>rfl,Rj (by omega),ct,Q8 (by omega),Ch,Ep,Bm h,A5c]
  have d:=Yx f m (j+1) fuel (A++[(c.stores.l[j]).name]) (by omega) (by omega) (by simp[hA])
  rw[A41,A5w]at d
  refine d.trans ?_
  rw[A5e];rfl
def LR(f:c.ties.l.length<=1000000000):∀(m j fuel:Nat)(A:List Ap),j+m=c.ties.l.length->m<fuel->A.length=j ->
  Ic N K b c.av fuel A.length (j:Int) (Au A)=K (A++(c.ties.l.drop j).map TieD.name).length (Au (A++(c.ties.l.drop j).map TieD.name))
|0,j,fuel+1,A,k,_,hA=>by
  rw[Ic];unfold Qv
  rw[Lm,Fk (by omega),cf,show c.ties.l.drop j=[]from Bo (by omega),A5v,A5h]
|m+1,j,fuel+1,A,k,n,hA=>by
  rw[Ic];unfold Qv
  have h:j<c.ties.l.length:=by omega
  rw[Lm,Er h,ct,Lm,Aa h,ct,A45,Bt (e:=TieD.av) (sz:=5) (fun _=>rfl) _ _ h,show ∀ F:Ap->O R,Gv (TieD.av c.ties.l[j]++(c.ties.l.drop (j+1)).flatMap TieD.av) F=F (c.ties.l[j]).name from fun _=>rfl,Rj (by omega),ct,Q8 (by omega),Ch,Ep,Bm h,A5c]
  have d:=LR f m (j+1) fuel (A++[(c.ties.l[j]).name]) (by omega) (by omega) (by simp[hA])
  rw[A41,A5w]at d
  refine d.trans ?_
  rw[A5e];rfl
def LU(f:c.outs.l.length<=1000000000):∀(m j fuel:Nat)(A:List Ap),j+m=c.outs.l.length->m<fuel->A.length=j ->
  If N K b c.av fuel A.length (j:Int) (Au A)=K (A++(c.outs.l.drop j).map OutD.name).length (Au (A++(c.outs.l.drop j).map OutD.name))
|0,j,fuel+1,A,k,_,hA=>by
  rw[If];unfold Qw
  rw[Ix,Fk (by omega),cf,show c.outs.l.drop j=[]from Bo (by omega),A5v,A5h]
|m+1,j,fuel+1,A,k,n,hA=>by
  rw[If];unfold Qw
  have h:j<c.outs.l.length:=by omega
  rw[Ix,Er h,ct,Ix,Aa h,ct,A45,Bt (e:=OutD.av) (sz:=4) (fun _=>rfl) _ _ h,show ∀ F:Ap->O R,Gv (OutD.av c.outs.l[j]++(c.outs.l.drop (j+1)).flatMap OutD.av) F=F (c.outs.l[j]).name from fun _=>rfl,Rj (by omega),ct,Q8 (by omega),Ch,Ep,Bm h,A5c]
  have d:=LU f m (j+1) fuel (A++[(c.outs.l[j]).name]) (by omega) (by omega) (by simp[hA])
  rw[A41,A5w]at d
  refine d.trans ?_
  rw[A5e];rfl
def Rk(c:CaseD)(k:Nat):List Ap:=(B5 c).getD (k - 1) []
structure ListsOk(c:CaseD):Prop where
 b:c.buses.l.length<=1000000000
 l:c.lines.l.length<=1000000000
 u:c.units.l.length<=1000000000
 s:c.stores.l.length<=1000000000
 t:c.ties.l.length<=1000000000
 o:c.outs.l.length<=1000000000
def ya(hN:1000000000<N)(d:ListsOk c){k:Nat}(e:1<=k)(f:k<=6):Hh N c.av b (k:Int) K=K (Rk c k).length (Au (Rk c k)):=by
 have c1:=d.b;have j:=d.l;have m:=d.u;have n:=d.s;have q:=d.t;have v:=d.o
 rw[Ju];unfold Mv
 have:k=1\/k=2\/k=3\/k=4\/k=5\/k=6:=by omega
 rcases this with rfl|rfl|rfl|rfl|rfl|rfl
 ·exact O' (by omega) c.buses.l.length 0 N [] (by omega) (by omega) rfl
 ·exact EO (by omega) c.lines.l.length 0 N [] (by omega) (by omega) rfl
 ·exact EP (by omega) c.units.l.length 0 N [] (by omega) (by omega) rfl
 ·exact Yx (by omega) c.stores.l.length 0 N [] (by omega) (by omega) rfl
 ·exact LR (by omega) c.ties.l.length 0 N [] (by omega) (by omega) rfl
 ·exact LU (by omega) c.outs.l.length 0 N [] (by omega) (by omega) rfl
def Ack(k:Nat):Nat:=[32,64,16,8,8,64].getD (k - 1) 0
def Ar1{k:Nat}(d:1<=k)(e:k<=6){F:Int->O R}:Sw N (k:Int) F=F (Ack k):=by
 rw[VT];unfold fj
 have:k=1\/k=2\/k=3\/k=4\/k=5\/k=6:=by omega
 rcases this with rfl|rfl|rfl|rfl|rfl|rfl<;>rfl
def Aas(c:CaseD)(k:Nat):Bool:=decide ((Rk c k).length<=Ack k)
def Ar2(c:CaseD):F4 c=(Aas c 1&&(Aas c 2&&(Aas c 3&&(Aas c 4&&(Aas c 5&&Aas c 6))))):=by
 unfold F4 Aas
 simp[Rk,B5,Ack,Bl,Ce,Bw,Xd,kQ,kR]
end
end Gx.Ct
namespace Gx.Ct
open Go Go.Proofs Gx.Cf
section
variable{R:Type}{N:Nat}{c:CaseD}{b:Bool}{K:List UInt8->Int->O R}
def Acl(hN:1000000000<N)(e:ListsOk c):∀(m k fuel:Nat),1<=k->k+m=7->m<fuel ->
  M9 N K b c.av fuel (k:Int)=cond ((List.range' k m).all (Aas c)) (Ax .i64 c.av fun ad=>cond ((decide (ad<1))==false) (Ax .i64 c.av fun ae=>cond (cond false true (decide (ae>24))) (K ([]:Lu) 3) (DF N K b c.av)) (K ([]:Lu) 3)) (K [] 8)
|0,k,fuel+1,d,f,_=>by
  rw[M9];unfold Za
  rw[decide_eq_false (show ¬ (k:Int)<=6 by omega),cf];rfl
|m+1,k,fuel+1,d,f,l=>by
  rw[M9];unfold Za
  have j:=Acl hN e m (k+1) fuel (by omega) (by omega) (by omega)
  rw[decide_eq_true (show(k:Int)<=6 by omega),ct,Fl,ct,Cs,ya hN e d (by omega),Ar1 d (by omega),Q8 (by omega),j,A8a,A5s]
  unfold Aas
  by_cases g:(Rk c k).length<=Ack k
  ·rw[decide_eq_true g,decide_eq_false (show ¬ (((Rk c k).length:Nat):Int)>((Ack k:Nat):Int) by omega)];rfl
  ·rw[decide_eq_false g,decide_eq_true (show(((Rk c k).length:Nat):Int)>((Ack k:Nat):Int) by omega)];rfl
def Aks{l:List Ap}{k2:Bool->Int->O R}{kd:Int}(hN:1000000000<N)(k:l.length<=1000):∀(m h fuel:Nat)(p:Bool),h+m=l.length->m<fuel ->
  M6 N k2 K l.length b c.av (Au l) fuel p kd (h:Int)=cond ((l.drop h).all A9) (k2 (p||D8 (l.take h) (l.drop h)) (wrap .i64 (kd+1))) (K [] 9)
|0,h,fuel+1,p,n,_=>by
  rw[M6];unfold Y7
  rw[Fk (by omega),cf,show l.drop h=[]from Bo (by omega),A55,D8,A65];rfl
| m+1,h,fuel+1,p,n,s=>by
  rw[M6];unfold Y7
  have e:h<l.length:=by omega
  have j:=fun p=>Aks (k2:=k2) (kd:=kd) hN k m (h+1) fuel p (by omega) (by omega)
  have rd:∀ F:Ap->O R,Gv (drop (0+(Int.toNat (h:Int))*1) (Au l)) F=F l[h]:=fun F=>by rw[A5j,A45,A5m,Gn e]
  have et:l.take (h+1)=l.take h++[l[h]]:=by rw[A81,A46 e];rfl
  have tw:∀ p:Bool,(p||D8 (l.take h) (l[h]::l.drop (h+1)))=((p||(l.take h).contains l[h])||D8 (l.take (h+1)) (l.drop (h+1))):=fun p=>by rw[D8,et,A5u]
  rw[Er e,ct,Aa e,ct,rd,jQ (by omega),Bm e,A5s,tw]
  cases A9 l[h]with
  |false=>rfl
  | true =>
   rw[show(!true)=false from rfl,cf,Q8 (by omega)]
   cases p with
   |true =>
    refine(j true).trans ?_
    rfl
   |false =>
    have es:take ((Int.toNat (h:Int))*1) (Au l)=Au (l.take h):=by rw[A45,A5m];unfold Au;rw[A96]
    have q:(l.take h).length=h:=A9g (by omega)
    obtain⟨v,v1,v2⟩:=Acj (R:=R) (N:=N) (l:=l.take h) (w:=l[h]) (d:=false) (f:=true) (by omega) h 0 N (by omega) (by omega)
    rw[show((false:Bool)==false)=true from rfl,ct,show((decide ((0:Int)<=(0:Int)))&&((decide (0<=(h:Int)))&&((decide ((h:Int)<=(l.length:Int)))&&(decide ((l.length:Int)<=(l.length:Int))))))=true by simp;omega,ct,rd,es,nH]
    unfold gH
    have v3:=fun K=>v2 K
    rw[q]at v3
    refine(v3 _).trans ?_
    refine(j _).trans ?_
    rw[A5k]at v1
    show cond _ (k2 (decide (v>=0)||_) _) _=_
    rw[v1];rfl
def tN{F:Bool->O R}(hN:1000000000<N)(f:ListsOk c)(hs:∀ k,1<=k->k<=6->(Rk c k).length<=1000)
  (hF:∀ q:Bool,(cond q (K ([]:Lu) 10) (cond (ble 8 c.av.length) (JW N (c.av.take 8) b fun z=>cond (!z) (K ([]:Lu) 12) (A5 4 (c.av.drop 7) fun d g=>M7 N K d g b c.av N (g:Int) 0)) none))=F q):∀(m k fuel:Nat)(q:Bool),1<=k->k+m=7->m<fuel ->
  M8 N K b c.av fuel q (k:Int)=cond ((List.range' k m).all fun k=>(Rk c k).all A9) (F (q||(List.range' k m).any fun k=>D8 [] (Rk c k))) (K [] 9)
|0,k,fuel+1,q,e,j,_=>by
  rw[M8];unfold Y9
  rw[decide_eq_false (show ¬ (k:Int)<=6 by omega),cf]
  refine(hF q).trans ?_
  show _=F (q||false)
  rw[A65]
| m+1,k,fuel+1,q,e,j,n=>by
  rw[M8];unfold Y9
  have l:=fun q=>tN hN f hs hF m (k+1) fuel q (by omega) (by omega) (by omega)
  rw[decide_eq_true (show(k:Int)<=6 by omega),ct,Fl,ct,Cs,ya hN f e (by omega)]
  refine(Aks hN (hs k e (by omega)) (Rk c k).length 0 N q (by omega) (by have:=hs k e (by omega);omega)).trans ?_
  rw[A5k,A7t,Q8 (by omega),l,A8a,A5s,A6h]
  cases (Rk c k).all A9 with
  |false=>rfl
  |true =>
   rw[A52,<-A5u];rfl
end
end Gx.Ct
namespace Gx.Ct
open Go Go.Proofs Gx.Cf
def FI(R:Type)(N:Nat):Prop:=∀ z,Yb z->∀ K:Lu->O R,EL N z (fun r=>Wc N r false K)=K (tx z)
def Gc(ws:List Ap):Lu:=ws.flatMap (32::·)
def NW(w:Ap)(r:List Ap):Gc (w::r)=32::w++Gc r:=rfl
section
variable{R:Type}{N:Nat}
def Akt{ws:List Ap}{d f a:Bool}{K:Lu->O R}(e:ws.length<=1000000000):∀(m j fuel:Nat)(T:Lu),j+m=ws.length->m<fuel->T.length+(Gc (ws.drop j)).length<=140737488355328 ->
  Fv N K (Au ws) ws.length d f a fuel (j:Int) T=K (T++Gc (ws.drop j))
|0,j,fuel+1,T,k,_,_=>by
  rw[Fv];unfold No
  rw[Fk (by omega),cf,Bo (by omega)]
  show _=K (T++[])
  rw[A5h]
|m+1,j,fuel+1,T,k,l,hT=>by
  rw[Fv];unfold No
  have h:j<ws.length:=by omega
  rw[Bm h,NW]at hT
  simp only[A41,A42]at hT
  rw[Er h,ct,Aa h,ct,A45,A5m,Gn h,show ble (1+(ws[j]).length) 140737488355328=true by simp;omega,ct,show ble (T.length+(List.length (([32]:Lu)++ws[j]))) 140737488355328=true by simp;omega,ct,Q8 (by omega)]
  refine(Akt e m (j+1) fuel _ (by omega) (by omega) (by simp;omega)).trans ?_
  rw[Bm h,NW,A5e];rfl
def Au4{ws:List Ap}{d f a:Bool}{T:Lu}{K:Lu->O R}(e:ws.length<=1000000000)(hN:1000000000<N)(hT:T.length+(Gc ws).length<=140737488355328):Aw N (Au ws) ws.length d f T a K=K (T++Gc ws):=by
 rw[HB];unfold Uq
 exact Akt e ws.length 0 N T (by omega) (by omega) hT
def Aku{l:List Int}{c d g:Bool}{f:Lu}{K:Lu->Bool->O R}(hF:FI R N)(hi:∀ z∈l,Yb z)(n:l.length<=1000000000):∀(m j fuel:Nat)(T:Lu)(bad:Bool),j+m=l.length->m<fuel->T.length+(Gc ((l.drop j).map tx)).length<=140737488355328 ->
  Dm N K (A4 l) l.length c d f g fuel (j:Int) T bad=K (T++Gc ((l.drop j).map tx)) (bad||Ar (l.drop j))
|0,j,fuel+1,T,bad,q,_,_=>by
  rw[Dm];unfold Nn
  rw[Fk (by omega),cf,Bo (by omega)]
  show _=K (T++[]) (bad||false)
  rw[A5h,A65]
| m+1,j,fuel+1,T,bad,q,t,hT=>by
  rw[Dm];unfold Nn
  have h:j<l.length:=by omega
  rw[Bm h,A5c,NW]at hT
  simp only[A41,A42]at hT
  have s:=hi _ (A5g h)
  have step:∀ k:Bool,Kl N (Dm N K (A4 l) l.length c d f g fuel) K (A4 l) l.length c d f g (j:Int) T k=K (T++Gc ((l.drop j).map tx)) (k||Ar (l.drop (j+1))):=fun k=>by
   unfold Kl
   rw[Aa h,ct,KZ h,hF _ s,show ble (1+(tx l[j]).length) 140737488355328=true by simp;omega,ct,show ble (T.length+(List.length (([32]:Lu)++tx l[j]))) 140737488355328=true by simp;omega,ct,Q8 (by omega)]
   refine(Aku hF hi n m (j+1) fuel _ k (by omega) (by omega) (by simp only[A41,A42,A43];omega)).trans ?_
   rw[Bm h,A5c,NW,A5e];rfl
  have e:Ar (l.drop j)=(Vj l[j]||Ar (l.drop (j+1))):=by rw[Bm h];rfl
  rw[Er h,ct,Aa h,ct,KZ h,ct,KZ h,e]
  unfold Vj
  cases bad with
  |true=>exact(step true).trans rfl
  |false =>
   rw[show((false:Bool)==false)=true from rfl,ct]
   cases decide (l[j]< -1073741824)with
   |true=>exact(step true).trans rfl
   |false=>exact(step (decide (l[j]>1073741824))).trans rfl
def yb{l:List Int}{c d bad:Bool}{T:Lu}{K:Lu->Bool->O R}(hF:FI R N)(hi:∀ z∈l,Yb z)(e:l.length<=1000000000)(hN:1000000000<N)(hT:T.length+(Gc (l.map tx)).length<=140737488355328):Ak N (A4 l) l.length c d T bad K=K (T++Gc (l.map tx)) (bad||Ar l):=by
 rw[HA];unfold Up
 exact Aku hF hi e l.length 0 N T bad (by omega) (by omega) hT
end
end Gx.Ct
namespace Gx.Ct
open Go Go.Proofs Gx.Cf
def tO(f:FracD):LA:=[.int .i64 f.num,.int .i64 f.den]
def An7(f:FracD)(bad:Bool):(((bad||decide (f.den<1))||Ar [f.num])||Ar [f.den])=(bad||Fo f):=by
 unfold Fo Ar Vj
 simp only[A6h,A6o,A65]
 by_cases d:f.den<1
 ·rw[decide_eq_true d];cases bad<;>simp
 ·rw[decide_eq_false d,decide_eq_false (show ¬ f.den< -1073741824 by omega)]
  simp only[A65,A56,A5u]
section
variable{R:Type}{N:Nat}
def Acm{fs:List FracD}{c d g:Bool}{f:Lu}{K:Lu->Bool->O R}(hF:FI R N)(hx:B9)(hN:1000000000<N)(hi:∀ f∈fs,Yb f.num/\Yb f.den)(t:fs.length<=1000):∀(m j fuel:Nat)(T:Lu)(bad:Bool),j+m=fs.length->m<fuel->T.length+100*m<=140737488300000 ->
  C7 N K (fs.flatMap tO) fs.length c d f g fuel (j:Int) T bad=K (T++Gc ((fs.drop j).map H6)) (bad||(fs.drop j).any Fo)
|0,j,fuel+1,T,bad,u,_,_=>by
  rw[C7];unfold Lw
  rw[Fk (by omega),cf,Bo (by omega)]
  show _=K (T++[]) (bad||false)
  rw[A5h,A65]
| m+1,j,fuel+1,T,bad,u,y,hT=>by
  rw[C7];unfold Lw
  have h:j<fs.length:=by omega
  obtain⟨z1,z2⟩:=hi _ (A5g h)
  have s1:=hx _ z1
  have s2:=hx _ z2
  have v:∀ F:Int->O R,Ax .i64 (drop ((Int.toNat (j:Int))*2) (fs.flatMap tO)) F=F (fs[j]).num:=fun F=>by rw[aD (e:=tO) (sz:=2) (fun _=>rfl) h];rfl
  have q:∀ F:Int->O R,Ax .i64 (drop 1 (drop ((Int.toNat (j:Int))*2) (fs.flatMap tO))) F=F (fs[j]).den:=fun F=>by rw[aD (e:=tO) (sz:=2) (fun _=>rfl) h];rfl
  have e1:Gc ([(fs[j]).num].map tx)=32::tx (fs[j]).num:=by simp[Gc]
  have s:Gc ([(fs[j]).den].map tx)=32::tx (fs[j]).den:=by simp[Gc]
  have step:∀ k:Bool,Jf N (C7 N K (fs.flatMap tO) fs.length c d f g fuel) K (fs.flatMap tO) fs.length c d f g (j:Int) T k=K (T++Gc ((fs.drop j).map H6)) (((k||Ar [(fs[j]).num])||Ar [(fs[j]).den])||(fs.drop (j+1)).any Fo):=fun k=>by
   unfold Jf
   rw[Aa h,ct,v]
   refine A7p (yb (l:=[(fs[j]).num]) hF (by simp[z1]) (by simp) hN (by rw[e1];simp only[A42];omega)) ?_
   rw[ct,q]
   refine A7p (yb (l:=[(fs[j]).den]) hF (by simp[z2]) (by simp) hN (by rw[e1,s];simp only[A41,A42];omega)) ?_
   rw[e1,s]
   generalize n:T++32::tx (fs[j]).num=H
   have hH:H.length<=140737488300000:=by rw[<-n];simp only[A41,A42];omega
   have ew:wrap .i64 ((H.length:Int)+1)=((H.length+1:Nat):Int):=by rw[Gx.i64 (by omega)];omega
   have x:drop (H.length+1) (H++32::tx (fs[j]).den)=tx (fs[j]).den:=by
    rw[show H++32::tx (fs[j]).den=(H++[32])++tx (fs[j]).den by simp,List.drop_left' (by simp)]
   have et:take ((H++32::tx (fs[j]).den).length - (H.length+1)) (tx (fs[j]).den)=tx (fs[j]).den:=A44 (by simp only[A41,A42];omega)
   rw[ew,show ble (H.length+1) 140737488355328=true by simp;omega,ct,A45,x,et,show((decide ((0:Int)<=((H.length+1:Nat):Int)))&&((decide (((H.length+1:Nat):Int)<=(((H++32::tx (fs[j]).den).length:Nat):Int)))&&((decide ((((H++32::tx (fs[j]).den).length:Nat):Int)<=(((H++32::tx (fs[j]).den).length:Nat):Int)))&&(decide ((((H++32::tx (fs[j]).den).length:Nat):Int)<=(((H++32::tx (fs[j]).den).length:Nat):Int))))))=true by
    rw[decide_eq_true (by omega),decide_eq_true (by simp only[A41,A42];omega),decide_eq_true (by omega)];rfl,ct,
    show ble ((H++([47]:Lu)).length+(tx (fs[j]).den).length) 140737488355328=true by simp;omega,ct,Q8 (by omega)]
   refine(Acm hF hx hN hi t m (j+1) fuel _ _ (by omega) (by omega) (by rw[<-n];simp only[A41,A42,A43];omega)).trans ?_
   rw[Bm h,A5c,NW,<-n]
   simp only[H6,A5e,A5i,A50]
  have fin:∀ k,(k=(bad||decide ((fs[j]).den<1)))->K (T++Gc ((fs.drop j).map H6)) (((k||Ar [(fs[j]).num])||Ar [(fs[j]).den])||(fs.drop (j+1)).any Fo)=K (T++Gc ((fs.drop j).map H6)) (bad||(fs.drop j).any Fo):=fun k e=>by
   rw[e,An7,Bm h,A6h,A5u]
  rw[Er h,ct]
  cases bad with
  |true=>exact(step true).trans (fin true rfl)
  |false =>
   rw[show((false:Bool)==false)=true from rfl,ct,Aa h,ct,q]
   exact(step (decide ((fs[j]).den<1))).trans (fin _ rfl)
end
end Gx.Ct
namespace Gx.Ct
open Go Go.Proofs Gx.Cf
section
variable{R:Type}{N:Nat}
def JN{ws:List Ap}{B:Nat}(h:∀ w∈ws,w.length<=B):(Gc ws).length<=(B+1)*ws.length:=by
 induction ws with
|nil=>exact A8f _
|cons w r d =>
  have e:=h w (by simp)
  have f:=d fun x hx=>h x (by simp[hx])
  rw[NW,A41,A42,A42,Nat.mul_succ]
  omega
def Nd{l:List Int}(hx:B9)(hi:∀ z∈l,Yb z):(Gc (l.map tx)).length<=31*l.length:=by
 have:=JN (ws:=l.map tx) (B:=30) (fun w d=>by obtain⟨z,e,rfl⟩:=A5o.1 d;exact hx z (hi z e))
 rwa [A48]at this
def Ds{ws:List Ap}{L:LA}{n:Nat}{d f a:Bool}{T:Lu}{K:Lu->O R}{Y:O R}(hL:L=Au ws)(hn:n=ws.length)(e:∀ w∈ws,w.length<=16)(j:ws.length<=1000)(hN:1000000000<N)(hT:T.length<=140000000000000)(h:K (T++Gc ws)=Y):Aw N L n d f T a K=Y:=by subst hL hn;rw[Au4 (by omega) hN (by have:=JN e;omega),h]
def Ft{l:List Int}{L:LA}{n:Nat}{c d bad:Bool}{T:Lu}{K:Lu->Bool->O R}{Y:O R}(hL:L=A4 l)(hn:n=l.length)(hF:FI R N)(hx:B9)(hi:∀ z∈l,Yb z)(e:l.length<=1000000000)(hN:1000000000<N)(hT:T.length<=140000000000000)(h:K (T++Gc (l.map tx)) (bad||Ar l)=Y):Ak N L n c d T bad K=Y:=by subst hL hn;rw[yb hF hi e hN (by have:=Nd hx hi;omega),h]
def yc{fs:List FracD}{L:LA}{n:Nat}{c d bad:Bool}{T:Lu}{K:Lu->Bool->O R}{Y:O R}(hL:L=fs.flatMap tO)(hn:n=fs.length)(hF:FI R N)(hx:B9)(hi:∀ f∈fs,Yb f.num/\Yb f.den)(e:fs.length<=1000)(hN:1000000000<N)(hT:T.length<=140000000000000)(h:K (T++Gc (fs.map H6)) (bad||fs.any Fo)=Y):Dv N L n c d T bad K=Y:=by
 subst hL hn;rw[EU];unfold Rw
 exact(Acm hF hx hN hi e fs.length 0 N T bad (by omega) (by omega) (by omega)).trans h
def FT{f:FracD}(hx:B9)(d:Yb f.num)(e:Yb f.den):(H6 f).length<=61:=by
 have:=hx _ d;have:=hx _ e
 unfold H6;simp only[A41,A42];omega
def An8{c:CaseD}{l:LineD}{g b bad:Bool}{T:Lu}{K:Lu->Bool->O R}(hF:FI R N)(hx:B9)(hN:1000000000<N)(hI:LineI 1000000000 l)(d:El l.fr c.buses.l.length=true)(e:El l.tl c.buses.l.length=true)(f:l.name.length<=16)(s1:(Be (Bl c) l.fr).length<=16)(s2:(Be (Bl c) l.tl).length<=16)(hT:T.length<=100000000000000):
  Ur N c.av g l.av b T bad K=K (T++Dg (Ng (Bl c) l)) (bad||Ui l):=by
 rw[EV];unfold Y5
 have j:∀ F:Ap->O R,Gv l.av F=F l.name:=fun F=>rfl
 have k:∀ F:Int->O R,Ax .i64 (drop 1 l.av) F=F l.fr:=fun F=>rfl
 have m:∀ F:Int->O R,Ax .i64 (drop 2 l.av) F=F l.tl:=fun F=>rfl
 have p:∀(b:Bool)(x y:Int),(!b||A0 [AV.int .i64 x,.int .i64 y])=true:=fun b x y=>by cases b<;>rfl
 have L1:=FT hx hI.f1.1 hI.f1.2
 have L2:=FT hx hI.f2.1 hI.f2.2
 have L3:=FT hx hI.f3.1 hI.f3.2
 have L4:=hx _ hI.n.1
 have L5:=hx _ hI.n.2
 have L6:=Nd hx hI.a.1
 have L7:=hI.a.2
 rw[show ble (T.length+4) 140737488355328=true by simp;omega,ct,j,Ca,k,P6 d,ct,ji d,Ca,m,P6 e,ct,ji e]
 refine Ds (ws:=[l.name,Be (Bl c) l.fr,Be (Bl c) l.tl,Awp]) rfl rfl (by simp[f,s1,s2,Awp]) (by simp) hN (by simp only[A41,A42,A43];omega) ?_
 show cond true (cond (!b||A0 [AV.int .i64 l.re.num,.int .i64 l.re.den]) (cond true (Dv N [.int .i64 l.re.num,.int .i64 l.re.den] 1 false true _ _ _) none) none) none=_
 rw[ct,p,ct,ct]
 have q:(Gc [l.name,Be (Bl c) l.fr,Be (Bl c) l.tl,Awp]).length<=100:=by
  have:=JN (ws:=[l.name,Be (Bl c) l.fr,Be (Bl c) l.tl,Awp]) (B:=16) (by simp[f,s1,s2,Awp])
  simp only[A42,A43]at this;omega
 refine yc (fs:=[l.re]) rfl rfl hF hx (by simp[hI.f1]) (by simp) hN (by simp only[A41,A42,A43];omega) ?_
 have s:(Gc ([l.re].map H6)).length<=62:=by simp[Gc];omega
 refine Ds (ws:=[fl]) rfl rfl (by decide) (by simp) hN (by simp only[A41,A42,A43];omega) ?_
 have t:(Gc [fl]).length<=6:=by decide
 show cond true (cond (!b||A0 [AV.int .i64 l.smin.num,.int .i64 l.smin.den]) (cond true (cond (!b||A0 [AV.int .i64 l.smax.num,.int .i64 l.smax.den]) (cond true (cond true (Dv N [.int .i64 l.smin.num,.int .i64 l.smin.den,.int .i64 l.smax.num,.int .i64 l.smax.den] 2 false true _ _ _) none) none) none) none) none) none=_
 rw[ct,p,ct,ct,p,ct,ct,ct]
 refine yc (fs:=[l.smin,l.smax]) rfl rfl hF hx (by simp[hI.f2,hI.f3]) (by simp) hN (by simp only[A41,A42,A43];omega) ?_
 have u:(Gc ([l.smin,l.smax].map H6)).length<=124:=by simp[Gc];omega
 refine Ds (ws:=[fm]) rfl rfl (by decide) (by simp) hN (by simp only[A41,A42,A43];omega) ?_
 have v:(Gc [fm]).length<=6:=by decide
 show Ak N [.int .i64 l.limit,.int .i64 l.emer] 2 false true _ _ _=_
 refine Ft (l:=[l.limit,l.emer]) rfl rfl hF hx (by simp[hI.n.1,hI.n.2]) (by simp) hN (by simp only[A41,A42,A43];omega) ?_
 have z:(Gc ([l.limit,l.emer].map tx)).length<=62:=by simp[Gc];omega
 refine Ds (ws:=[BB]) rfl rfl (by decide) (by simp) hN (by simp only[A41,A42,A43];omega) ?_
 have A:(Gc [BB]).length<=5:=by decide
 show A5 1 (l.away.av 1 D5::_) _=_
 rw[A6,Bn]
 refine Ft rfl rfl hF hx hI.a.1 hI.a.2 hN (by simp only[A41,A42,A43];omega) ?_
 rw[show ∀ X:Lu,X.length<=140000000000000->ble (X.length+1) 140737488355328=true from fun X h=>by simp;omega,ct]
 ·have eB:((((bad||[l.re].any Fo)||[l.smin,l.smax].any Fo)||Ar [l.limit,l.emer])||Ar l.away.l)=(bad||Ui l):=by unfold Ui;simp[A5u]
  rw[eB,Dg]
  congr 1
  unfold Ng
  rw[A5i,Gl]
  simp[Gc,Jm]
 ·simp only[A41,A42,A43];omega
set_option maxHeartbeats 1000000 in
def An9{u:UnitD}{b bad:Bool}{K:Lu->Bool->O R}{T:Lu}{fuel j:Nat}(hF:FI R N)(hx:B9)(hN:1000000000<N)(hI:UnitI 1000000000 u)(hs:El u.state 3=true)(m:u.segs.l.length<=j)(hT:T.length<=130000000000000):
  Dx N K b u.av (fuel+1) (j:Int) T bad=K (T++Gc (fE u)++[10]) (bad||W4 u):=by
 have hn:=hI.n
 simp only[A5b,A5l,or_false,forall_eq_or_imp,forall_eq]at hn
 obtain⟨_,_,n1,n2,n3,n4,n5,n6,n7,n8,n9,n10,n11,n12,n13,n14,n15⟩:=hn
 have La:=Nd hx hI.a.1
 have Lb:=hI.a.2
 have rs:∀ F:LA->Nat->O R,A5 2 (drop 4 u.av) F=F (u.segs.l.flatMap SegD.av) u.segs.l.length:=fun F=>by
  show A5 2 (u.segs.av 2 SegD.av::_) F=_
  rw[A6]
 rw[Dx];unfold Lx
 rw[rs,Fk m,cf]
 refine Ds (ws:=[V4]) rfl rfl (by decide) (by simp) hN (by first|omega|(simp only[A41,A42,A43];omega)) ?_
 have q:(Gc [V4]).length<=20:=by decide
 show Ak N [.int .i64 u.noLoad] 1 false true _ _ _=_
 refine Ft (l:=[u.noLoad]) rfl rfl hF hx (by simp[*]) (by simp) hN (by first|omega|(simp only[A41,A42,A43];omega)) ?_
 have s:(Gc ([u.noLoad].map tx)).length<=100:=by
  have:=Nd (l:=[u.noLoad]) hx (by simp[*])
  simp only[A42,A43]at this;omega
 refine Ds (ws:=[kN]) rfl rfl (by decide) (by simp) hN (by first|omega|(simp only[A41,A42,A43];omega)) ?_
 have t:(Gc [kN]).length<=20:=by decide
 show Ak N [.int .i64 u.rampUp,.int .i64 u.rampDown] 2 false true _ _ _=_
 refine Ft (l:=[u.rampUp,u.rampDown]) rfl rfl hF hx (by simp[*]) (by simp) hN (by first|omega|(simp only[A41,A42,A43];omega)) ?_
 have v:(Gc ([u.rampUp,u.rampDown].map tx)).length<=100:=by
  have:=Nd (l:=[u.rampUp,u.rampDown]) hx (by simp[*])
  simp only[A42,A43]at this;omega
 refine Ds (ws:=[WF]) rfl rfl (by decide) (by simp) hN (by first|omega|(simp only[A41,A42,A43];omega)) ?_
 have x:(Gc [WF]).length<=20:=by decide
 show Ak N [.int .i64 u.startRamp] 1 false true _ _ _=_
 refine Ft (l:=[u.startRamp]) rfl rfl hF hx (by simp[*]) (by simp) hN (by first|omega|(simp only[A41,A42,A43];omega)) ?_
 have y:(Gc ([u.startRamp].map tx)).length<=100:=by
  have:=Nd (l:=[u.startRamp]) hx (by simp[*])
  simp only[A42,A43]at this;omega
 refine Ds (ws:=[kO]) rfl rfl (by decide) (by simp) hN (by first|omega|(simp only[A41,A42,A43];omega)) ?_
 have z:(Gc [kO]).length<=20:=by decide
 show Ak N [.int .i64 u.stopRamp] 1 false true _ _ _=_
 refine Ft (l:=[u.stopRamp]) rfl rfl hF hx (by simp[*]) (by simp) hN (by first|omega|(simp only[A41,A42,A43];omega)) ?_
 have A:(Gc ([u.stopRamp].map tx)).length<=100:=by
  have:=Nd (l:=[u.stopRamp]) hx (by simp[*])
  simp only[A42,A43]at this;omega
 refine Ds (ws:=[WG]) rfl rfl (by decide) (by simp) hN (by first|omega|(simp only[A41,A42,A43];omega)) ?_
 have C:(Gc [WG]).length<=20:=by decide
 show Ak N [.int .i64 u.upTime,.int .i64 u.downTime,.int .i64 u.startTime] 3 false true _ _ _=_
 refine Ft (l:=[u.upTime,u.downTime,u.startTime]) rfl rfl hF hx (by simp[*]) (by simp) hN (by first|omega|(simp only[A41,A42,A43];omega)) ?_
 have D:(Gc ([u.upTime,u.downTime,u.startTime].map tx)).length<=100:=by
  have:=Nd (l:=[u.upTime,u.downTime,u.startTime]) hx (by simp[*])
  simp only[A42,A43]at this;omega
 refine Ds (ws:=[kP]) rfl rfl (by decide) (by simp) hN (by first|omega|(simp only[A41,A42,A43];omega)) ?_
 have G:(Gc [kP]).length<=20:=by decide
 show Ak N [.int .i64 u.hotCost,.int .i64 u.coldCost,.int .i64 u.hotHours] 3 false true _ _ _=_
 refine Ft (l:=[u.hotCost,u.coldCost,u.hotHours]) rfl rfl hF hx (by simp[*]) (by simp) hN (by first|omega|(simp only[A41,A42,A43];omega)) ?_
 have I:(Gc ([u.hotCost,u.coldCost,u.hotHours].map tx)).length<=100:=by
  have:=Nd (l:=[u.hotCost,u.coldCost,u.hotHours]) hx (by simp[*])
  simp only[A42,A43]at this;omega
 refine Ds (ws:=[D7]) rfl rfl (by decide) (by simp) hN (by first|omega|(simp only[A41,A42,A43];omega)) ?_
 have L:(Gc [D7]).length<=20:=by decide
 show Ak N [.int .i64 u.reserve,.int .i64 u.reservePrice] 2 false true _ _ _=_
 refine Ft (l:=[u.reserve,u.reservePrice]) rfl rfl hF hx (by simp[*]) (by simp) hN (by first|omega|(simp only[A41,A42,A43];omega)) ?_
 have M:(Gc ([u.reserve,u.reservePrice].map tx)).length<=100:=by
  have:=Nd (l:=[u.reserve,u.reservePrice]) hx (by simp[*])
  simp only[A42,A43]at this;omega
 refine Ds (ws:=[BB]) rfl rfl (by decide) (by simp) hN (by first|omega|(simp only[A41,A42,A43];omega)) ?_
 have S:(Gc [BB]).length<=20:=by decide
 show A5 1 (u.away.av 1 D5::_) _=_
 rw[A6,Bn]
 refine Ft rfl rfl hF hx hI.a.1 hI.a.2 hN (by first|omega|(simp only[A41,A42,A43];omega)) ?_
 show cond (Ac u.state 3) _ none=_
 rw[P6 hs,ct]
 obtain⟨sw,d,f,k⟩:∃ sw:Ap,S8 u.state=[sw]/\sw.length<=16/\∀ F:Ap->O R,Gv (drop (0+((Int.toNat u.state)*1)) [.str Aii,.str K',.str Aua]) F=F sw:=by
  unfold El at hs
  simp only[A47,decide_eq_true_eq]at hs
  have:u.state=0\/u.state=1\/u.state=2:=by omega
  rcases this with e|e|e<;>rw[e]
  ·exact⟨Aii,rfl,by decide,fun F=>rfl⟩
  ·exact⟨K',rfl,by decide,fun F=>rfl⟩
  ·exact⟨Aua,rfl,by decide,fun F=>rfl⟩
 refine(k _).trans ?_
 refine Ds (ws:=[Ys,sw]) rfl rfl (by simp[f,Ys]) (by simp) hN (by first|omega|(simp only[A41,A42,A43];omega)) ?_
 have U:(Gc [Ys,sw]).length<=40:=by simp[Gc,Ys];omega
 show Ak N [.int .i64 u.hours,.int .i64 u.output] 2 false true _ _ _=_
 refine Ft (l:=[u.hours,u.output]) rfl rfl hF hx (by simp[*]) (by simp) hN (by first|omega|(simp only[A41,A42,A43];omega)) ?_
 have V:(Gc ([u.hours,u.output].map tx)).length<=100:=by
  have:=Nd (l:=[u.hours,u.output]) hx (by simp[*])
  simp only[A42,A43]at this;omega
 rw[show ∀ X:Lu,X.length<=140000000000000->ble (X.length+1) 140737488355328=true from fun X h=>by simp;omega,ct]
 ·have eB:(((((((((bad||Ar [u.noLoad])||Ar [u.rampUp,u.rampDown])||Ar [u.startRamp])||Ar [u.stopRamp])||Ar [u.upTime,u.downTime,u.startTime])||Ar [u.hotCost,u.coldCost,u.hotHours])||Ar [u.reserve,u.reservePrice])||Ar u.away.l)||Ar [u.hours,u.output])=(bad||W4 u):=by unfold W4;simp[Ar,A5u]
  rw[eB]
  refine congrArg (fun X=>K X (bad||W4 u)) ?_
  simp only[fE,d,Gc,A6n,A5r,A69,A5c,A5v,A5e,A5i,A50,A5h]
 ·simp only[A41,A42,A43];omega
def yd{u:UnitD}{b:Bool}{K:Lu->Bool->O R}(hF:FI R N)(hx:B9)(hN:1000000000<N)(hI:UnitI 1000000000 u)(hs:El u.state 3=true):∀(m j fuel:Nat)(T:Lu)(bad:Bool),j+m=u.segs.l.length->m<fuel->T.length+62*m<=130000000000000 ->
  Dx N K b u.av fuel (j:Int) T bad=K (T++Gc ((u.segs.l.drop j).flatMap aJ)++Gc (fE u)++[10]) ((bad||(u.segs.l.drop j).any LC)||W4 u)
|0,j,fuel+1,T,bad,f,_,hT=>by
  refine(An9 hF hx hN hI hs (by omega) (by omega)).trans ?_
  rw[show u.segs.l.drop j=[]from Bo (by omega),A69,A6o,A65,show Gc []=[]from rfl,A5h]
| m+1,j,fuel+1,T,bad,f,t,hT=>by
  have rs:∀ F:LA->Nat->O R,A5 2 (drop 4 u.av) F=F (u.segs.l.flatMap SegD.av) u.segs.l.length:=fun F=>by
   show A5 2 (u.segs.av 2 SegD.av::_) F=_
   rw[A6]
  have h:j<u.segs.l.length:=by omega
  have v:=hI.s.2
  have d:=hI.s.1 _ (A5g h)
  have l1:=hx _ d.1
  have l2:=hx _ d.2
  have k:∀ F:Int->O R,Ax .i64 (drop ((Int.toNat (j:Int))*2) (u.segs.l.flatMap SegD.av)) F=F (u.segs.l[j]).width:=fun F=>by rw[aD (e:=SegD.av) (sz:=2) (fun _=>rfl) h];rfl
  have n:∀ F:Int->O R,Ax .i64 (drop 1 (drop ((Int.toNat (j:Int))*2) (u.segs.l.flatMap SegD.av))) F=F (u.segs.l[j]).price:=fun F=>by rw[aD (e:=SegD.av) (sz:=2) (fun _=>rfl) h];rfl
  rw[Dx];unfold Lx
  rw[rs,Er h,ct,rs,Aa h,ct,k,rs,Aa h,ct,n,Q8 (by omega)]
  refine Ft (l:=[(u.segs.l[j]).width,(u.segs.l[j]).price]) rfl rfl hF hx (by simp[d.1,d.2]) (by simp) hN (by omega) ?_
  have e:Gc ([(u.segs.l[j]).width,(u.segs.l[j]).price].map tx)=32::tx (u.segs.l[j]).width++(32::tx (u.segs.l[j]).price):=by simp[Gc]
  refine(yd hF hx hN hI hs m (j+1) fuel _ _ (by omega) (by omega) (by rw[e];simp only[A41,A42];omega)).trans ?_
  rw[Bm h,A5r,A6h]
  have q:Gc (aJ u.segs.l[j]++(u.segs.l.drop (j+1)).flatMap aJ)=Gc ([(u.segs.l[j]).width,(u.segs.l[j]).price].map tx)++Gc ((u.segs.l.drop (j+1)).flatMap aJ):=by unfold Gc;rw[A6n];rfl
  rw[q,<-A5e T]
  show K _ (((bad||LC u.segs.l[j])||_)||_)=K _ ((bad||(LC u.segs.l[j]||_))||_)
  rw[A5u bad]
def Aoa{c:CaseD}{u:UnitD}{g b bad:Bool}{T:Lu}{K:Lu->Bool->O R}(hF:FI R N)(hx:B9)(hN:1000000000<N)(hI:UnitI 1000000000 u)(hs:El u.state 3=true)(d:El u.bus c.buses.l.length=true)(e:u.name.length<=16)(s1:(Be (Bl c) u.bus).length<=16)(hT:T.length<=60000000000000):
  N9 N c.av g u.av b T bad K=K (T++Dg (Jd (Bl c) u)) (bad||Nm u):=by
 have hn:=hI.n
 simp only[A5b,A5l,or_false,forall_eq_or_imp,forall_eq]at hn
 obtain⟨n1,n2,_⟩:=hn
 have l1:=hx _ n1
 have l2:=hx _ n2
 have k:=hI.s.2
 rw[EW];unfold Rx
 have f:∀ F:Ap->O R,Gv u.av F=F u.name:=fun F=>rfl
 have j:∀ F:Int->O R,Ax .i64 (drop 1 u.av) F=F u.bus:=fun F=>rfl
 rw[show ble (T.length+4) 140737488355328=true by simp;omega,ct,f,Ca,j,P6 d,ct,ji d]
 refine Ds (ws:=[u.name,Be (Bl c) u.bus,ZJ]) rfl rfl (by simp[e,s1,ZJ]) (by simp) hN (by simp only[A41,A42,A43];omega) ?_
 have m:(Gc [u.name,Be (Bl c) u.bus,ZJ]).length<=100:=by
  have:=JN (ws:=[u.name,Be (Bl c) u.bus,ZJ]) (B:=16) (by simp[e,s1,ZJ])
  simp only[A42,A43]at this;omega
 show Ak N [.int .i64 u.min] 1 false true _ _ _=_
 refine Ft (l:=[u.min]) rfl rfl hF hx (by simp[*]) (by simp) hN (by simp only[A41,A42,A43];omega) ?_
 have q:(Gc ([u.min].map tx)).length<=40:=by simp[Gc];omega
 refine Ds (ws:=[sF]) rfl rfl (by decide) (by simp) hN (by simp only[A41,A42,A43];omega) ?_
 have t:(Gc [sF]).length<=20:=by decide
 show Ak N [.int .i64 u.max] 1 false true _ _ _=_
 refine Ft (l:=[u.max]) rfl rfl hF hx (by simp[*]) (by simp) hN (by simp only[A41,A42,A43];omega) ?_
 have v:(Gc ([u.max].map tx)).length<=40:=by simp[Gc];omega
 refine Ds (ws:=[S6]) rfl rfl (by decide) (by simp) hN (by simp only[A41,A42,A43];omega) ?_
 have x:(Gc [S6]).length<=20:=by decide
 refine(yd hF hx hN hI hs u.segs.l.length 0 N _ _ (by omega) (by omega) (by simp only[A41,A42,A43];omega)).trans ?_
 rw[A5k]
 have eB:((((bad||Ar [u.min])||Ar [u.max])||u.segs.l.any LC)||W4 u)=(bad||Nm u):=by unfold Nm W4;simp[Ar,A5u]
 have eW:Jd (Bl c) u=I6::([u.name,Be (Bl c) u.bus,ZJ]++([u.min].map tx++([sF]++([u.max].map tx++([S6]++(u.segs.l.flatMap aJ++fE u)))))):=rfl
 rw[eB,eW,Dg,Gl]
 refine congrArg (fun X=>K X (bad||Nm u)) ?_
 simp only[Gc,A6n,A5e]
 rfl
def ye{c:CaseD}{o:OutD}{d f b:Bool}{K:Lu->Bool->O R}(hF:FI R N)(hx:B9)(hN:1000000000<N)(hI:OutI 1000000000 o)(hU:∀ s∈Bw c,s.length<=16)(n:∀ m∈o.moves.l,El m.unit c.units.l.length=true):∀(m j fuel:Nat)(T:Lu)(bad:Bool),j+m=o.moves.l.length->m<fuel->T.length+79*m<=130000000000000 ->
  Ff N K d c.av f o.av b fuel (j:Int) T bad=K (T++Gc ((o.moves.l.drop j).flatMap (Ta (Bw c)))++[10]) (bad||(o.moves.l.drop j).any OQ)
| 0,j,fuel+1,T,bad,q,_,hT=>by
  have rs:∀ F:LA->Nat->O R,A5 3 (drop 3 o.av) F=F (o.moves.l.flatMap MoveD.av) o.moves.l.length:=fun F=>by
   show A5 3 (o.moves.av 3 MoveD.av::_) F=_
   rw[A6]
  rw[Ff];unfold Jo
  rw[rs,Fk (by omega),cf,show ble (T.length+1) 140737488355328=true by simp;omega,ct,show o.moves.l.drop j=[]from Bo (by omega),A6o,A65,A69,show Gc []=[]from rfl,A5h]
| m+1,j,fuel+1,T,bad,q,y,hT=>by
  have rs:∀ F:LA->Nat->O R,A5 3 (drop 3 o.av) F=F (o.moves.l.flatMap MoveD.av) o.moves.l.length:=fun F=>by
   show A5 3 (o.moves.av 3 MoveD.av::_) F=_
   rw[A6]
  have h:j<o.moves.l.length:=by omega
  have z:=hI.m.2
  have k:=hI.m.1 _ (A5g h)
  have hq:=n _ (A5g h)
  have l1:=hx _ k.1
  have l2:=hx _ k.2
  have l3:=B6 hU (o.moves.l[j]).unit
  have t:∀ F:Int->O R,Ax .i64 (drop ((Int.toNat (j:Int))*3) (o.moves.l.flatMap MoveD.av)) F=F (o.moves.l[j]).unit:=fun F=>by rw[aD (e:=MoveD.av) (sz:=3) (fun _=>rfl) h];rfl
  have u:∀ F:Int->O R,Ax .i64 (drop 1 (drop ((Int.toNat (j:Int))*3) (o.moves.l.flatMap MoveD.av))) F=F (o.moves.l[j]).up:=fun F=>by rw[aD (e:=MoveD.av) (sz:=3) (fun _=>rfl) h];rfl
  have v:∀ F:Int->O R,Ax .i64 (drop 2 (drop ((Int.toNat (j:Int))*3) (o.moves.l.flatMap MoveD.av))) F=F (o.moves.l[j]).down:=fun F=>by rw[aD (e:=MoveD.av) (sz:=3) (fun _=>rfl) h];rfl
  rw[Ff];unfold Jo
  rw[rs,Er h,ct,F2,rs,Aa h,ct,t,P6 hq,ct,Ayx hq]
  refine Ds (ws:=[Be (Bw c) (o.moves.l[j]).unit]) rfl rfl (by simp[l3]) (by simp) hN (by omega) ?_
  rw[rs,Aa h,ct,u,rs,Aa h,ct,v,Q8 (by omega)]
  have e1:Gc [Be (Bw c) (o.moves.l[j]).unit]=32::Be (Bw c) (o.moves.l[j]).unit:=by simp[Gc]
  refine Ft (l:=[(o.moves.l[j]).up,(o.moves.l[j]).down]) rfl rfl hF hx (by simp[k.1,k.2]) (by simp) hN (by rw[e1];simp only[A41,A42];omega) ?_
  have e:Gc ([(o.moves.l[j]).up,(o.moves.l[j]).down].map tx)=32::tx (o.moves.l[j]).up++(32::tx (o.moves.l[j]).down):=by simp[Gc]
  refine(ye hF hx hN hI hU n m (j+1) fuel _ _ (by omega) (by omega) (by rw[e,e1];simp only[A41,A42];omega)).trans ?_
  rw[Bm h,A5r,A6h]
  have x:Gc (Ta (Bw c) o.moves.l[j]++(o.moves.l.drop (j+1)).flatMap (Ta (Bw c)))=Gc [Be (Bw c) (o.moves.l[j]).unit]++(Gc ([(o.moves.l[j]).up,(o.moves.l[j]).down].map tx)++Gc ((o.moves.l.drop (j+1)).flatMap (Ta (Bw c)))):=by unfold Gc;rw[A6n];simp[Ta]
  rw[x,<-A5e T,<-A5e (T++_)]
  show K _ ((bad||OQ o.moves.l[j])||_)=K _ (bad||(OQ o.moves.l[j]||_))
  rw[A5u bad]
def yf{c:CaseD}{o:OutD}{d f bad:Bool}{K:Lu->Bool->O R}(hF:FI R N)(hx:B9)(hN:1000000000<N)(hI:OutI 1000000000 o)(hL:∀ s∈Ce c,s.length<=16)(hU:∀ s∈Bw c,s.length<=16)(k:∀ l∈o.lines.l,El l c.lines.l.length=true)(n:∀ m∈o.moves.l,El m.unit c.units.l.length=true)(e:od o=true):∀(m j fuel:Nat)(T:Lu),j+m=o.lines.l.length->m<fuel->T.length+17*m<=110000000000000 ->
  D2 N K bad d c.av f o.av fuel (j:Int) T=K (T++Gc ((o.lines.l.drop j).map (Be (Ce c))++(cond o.corr [B4] []++o.moves.l.flatMap (Ta (Bw c))))++[10]) (bad||Im o)
| 0,j,fuel+1,T,q,_,hT=>by
  have rl:∀ F:LA->Nat->O R,A5 1 (drop 1 o.av) F=F (A4 o.lines.l) o.lines.l.length:=fun F=>by
   show A5 1 (o.lines.av 1 D5::_) F=_
   rw[A6,Bn]
  rw[D2];unfold Jp
  rw[rl,Fk (by omega),cf,show o.lines.l.drop j=[]from Bo (by omega)]
  show cond o.corr _ _=_
  unfold od at e
  cases t:o.corr with
  |true =>
   rw[ct]
   refine Ds (ws:=[B4]) rfl rfl (by decide) (by simp) hN (by omega) ?_
   have v:(Gc [B4]).length<=20:=by decide
   have x:=hI.m.2
   refine(ye hF hx hN hI hU n o.moves.l.length 0 N _ bad (by omega) (by omega) (by simp only[A41];omega)).trans ?_
   rw[A5k]
   show K _ (bad||Im o)=_
   refine congrArg (fun X=>K X (bad||Im o)) ?_
   simp[Gc]
  |false =>
   rw[t,A56,List.isEmpty_iff]at e
   rw[cf,show ble (T.length+1) 140737488355328=true by simp;omega,ct]
   have:Im o=false:=by unfold Im;rw[e];rfl
   rw[this,e,A65]
   refine congrArg (fun X=>K X bad) ?_
   simp[Gc]
| m+1,j,fuel+1,T,q,y,hT=>by
  have rl:∀ F:LA->Nat->O R,A5 1 (drop 1 o.av) F=F (A4 o.lines.l) o.lines.l.length:=fun F=>by
   show A5 1 (o.lines.av 1 D5::_) F=_
   rw[A6,Bn]
  have h:j<o.lines.l.length:=by omega
  have u:=hI.l
  have hq:=k _ (A5g h)
  have l3:=B6 hL o.lines.l[j]
  rw[D2];unfold Jp
  rw[rl,Er h,ct,Ef,rl,Aa h,ct,KZ h,P6 hq,ct,Ayw hq]
  refine Ds (ws:=[Be (Ce c) o.lines.l[j]]) rfl rfl (by simp[l3]) (by simp) hN (by omega) ?_
  have e1:Gc [Be (Ce c) o.lines.l[j]]=32::Be (Ce c) o.lines.l[j]:=by simp[Gc]
  rw[Q8 (by omega)]
  refine(yf hF hx hN hI hL hU k n e m (j+1) fuel _ (by omega) (by omega) (by rw[e1];simp only[A41,A42];omega)).trans ?_
  rw[Bm h,A5c,e1]
  refine congrArg (fun X=>K X (bad||Im o)) ?_
  rw[A5i,NW]
  simp only[A5e,A5i]
end
end Gx.Ct
namespace Gx.Ct
open Go Go.Proofs Gx.Cf
def Ar3{R:Type}{N:Nat}{c:CaseD}{o:OutD}{d f bad:Bool}{T:Lu}{K:Lu->Bool->O R}(hF:FI R N)(hx:B9)(hN:1000000000<N)(hI:OutI 1000000000 o)(hL:∀ s∈Ce c,s.length<=16)(hU:∀ s∈Bw c,s.length<=16)(k:∀ l∈o.lines.l,El l c.lines.l.length=true)(n:∀ m∈o.moves.l,El m.unit c.units.l.length=true)(e:od o=true)(j:o.name.length<=16)(hT:T.length<=60000000000000):
  Km N c.av d o.av f T bad K=K (T++Dg (Mx (Ce c) (Bw c) o)) (bad||Im o):=by
 rw[Y6];unfold Np
 have q:∀ F:Ap->O R,Gv o.av F=F o.name:=fun F=>rfl
 rw[show ble (T.length+6) 140737488355328=true by simp;omega,ct,q]
 have u:(Gc [o.name,Ug]).length<=100:=by
  have:=JN (ws:=[o.name,Ug]) (B:=16) (by simp[j,Ug])
  simp only[A42,A43]at this;omega
 have t:=hI.l
 refine Ds (ws:=[o.name,Ug]) rfl rfl (by simp[j,Ug]) (by simp) hN (by simp only[A41,A42,A43];omega) ?_
 refine(yf hF hx hN hI hL hU k n e o.lines.l.length 0 N _ (by omega) (by omega) (by simp only[A41,A42,A43];omega)).trans ?_
 refine congrArg (fun X=>K X (bad||Im o)) ?_
 rw[A5k,Dg]
 unfold Mx
 rw[A5i,Gl]
 simp[Gc,Dd]
def sh(x:Ap):Prop:=x.length<=61
def rC{x:Ap}(h:x.length<=16):sh x:=A6k h (by decide)
def fL(hx:B9){z:Int}(h:Yb z):sh (tx z):=A6k (hx z h) (by decide)
def lR(hx:B9){l:List Int}(h:∀ z∈l,Yb z):∀ x∈l.map tx,sh x:=fun x d=>by obtain⟨z,e,rfl⟩:=A5o.1 d;exact fL hx (h z e)
def CA{ws:List Ap}(h:∀ x∈ws,sh x)(hn:ws.length<=4000000100):(Dg ws).length<=300000000000:=by
 rw[Dg,A41]
 cases ws with
|nil=>simp[ZK]
|cons w r =>
  rw[Gl,A41]
  have e:w.length<=61:=h w (by simp)
  have d:(Gc r).length<=62*r.length:=JN (B:=61) fun x hx=>h x (by simp[hx])
  unfold Gc at d
  simp only[A42,A43]at hn ⊢
  omega
def P8(w:Ap)(d:decide (w.length<=61)):sh w:=by simpa[sh]using d
def Au5(l:List SegD):(l.flatMap aJ).length=2*l.length:=by
 induction l with
|nil=>rfl
|cons a r d=>rw[A5r,A41,d,A42,show(aJ a).length=2 from rfl];omega
def Ar4(U:List Ap)(l:List MoveD):(l.flatMap (Ta U)).length=3*l.length:=by
 induction l with
|nil=>rfl
|cons a r d=>rw[A5r,A41,d,A42,show(Ta U a).length=3 from rfl];omega
def Aob(s:Int):(S8 s).length<=1:=by unfold S8;split;decide;split;decide;split<;>decide
def Ar5(s:Int):∀ x∈S8 s,sh x:=fun x hx=>by
 unfold S8 at hx
 split at hx
 ·rw[A61]at hx;subst hx;exact P8 _ (by decide)
 ·split at hx
  ·rw[A61]at hx;subst hx;exact P8 _ (by decide)
  ·split at hx
   ·rw[A61]at hx;subst hx;exact P8 _ (by decide)
   ·cases hx
section
variable{c:CaseD}(hx:B9)(h:Ready 1000000000 c)
include hx h
def Ar6:(Dg (jR c)).length<=300000000000:=by
 have hr:=h.i.r
 refine CA (fun x d=>?_) (by have:=hr.2;simp[jR];omega)
 unfold jR at d
 simp only[A5b,A5d,A5l,or_false,or_assoc]at d
 rcases d with rfl|rfl|rfl|d
 ·exact P8 _ (by decide)
 ·exact fL hx h.i.h
 ·exact P8 _ (by decide)
 ·exact lR hx hr.1 _ d
def Au6{b:BusD}(f:b∈c.buses.l):(Dg (TC b)).length<=300000000000:=by
 have hI:=h.i.b b f
 have hr:=hI.d
 refine CA (fun x e=>?_) (by have:=hr.2;simp[TC];omega)
 unfold TC at e
 simp only[A5b,A5d,A5l,or_false,or_assoc]at e
 rcases e with rfl|rfl|rfl|e|rfl|rfl
 ·exact P8 _ (by decide)
 ·exact rC (h.bn _ (A5o.2 ⟨b,f,rfl⟩))
 ·exact P8 _ (by decide)
 ·exact lR hx hr.1 _ e
 ·exact P8 _ (by decide)
 ·exact fL hx hI.s
def Ar7{l:LineD}(e:l∈c.lines.l):(Dg (Ng (Bl c) l)).length<=300000000000:=by
 have hI:=h.i.l l e
 refine CA (fun x d=>?_) (by have:=hI.a.2;simp[Ng];omega)
 unfold Ng at d
 simp only[A5b,A5d,A5l,or_false,or_assoc]at d
 rcases d with rfl|rfl|rfl|rfl|rfl|rfl|rfl|rfl|rfl|rfl|rfl|rfl|rfl|d
 ·exact P8 _ (by decide)
 ·exact rC (h.ln _ (A5o.2 ⟨l,e,rfl⟩))
 ·exact rC (B6 h.bn _)
 ·exact rC (B6 h.bn _)
 ·exact P8 _ (by decide)
 ·exact FT hx hI.f1.1 hI.f1.2
 ·exact P8 _ (by decide)
 ·exact FT hx hI.f2.1 hI.f2.2
 ·exact FT hx hI.f3.1 hI.f3.2
 ·exact P8 _ (by decide)
 ·exact fL hx hI.n.1
 ·exact fL hx hI.n.2
 ·exact P8 _ (by decide)
 ·exact lR hx hI.a.1 _ d
def Ar8{u:UnitD}(e:u∈c.units.l):(Dg (Jd (Bl c) u)).length<=300000000000:=by
 have hI:=h.i.u u e
 have ln:=Aob u.state
 refine CA (fun x d=>?_) (by
  have:=hI.a.2
  have:=hI.s.2
  unfold Jd
  simp only[A41,A42,A43,Au5,A48];omega)
 unfold Jd at d
 simp only[A5b,A5d,A5l,or_false,or_assoc,A74]at d
 rcases d with rfl|rfl|rfl|rfl|rfl|rfl|rfl|rfl|⟨s,hs,d⟩|rfl|rfl|rfl|rfl|rfl|rfl|rfl|rfl|rfl|rfl|rfl|rfl|rfl|rfl|rfl|rfl|rfl|rfl|rfl|rfl|rfl|d|rfl|d|rfl|rfl
 all_goals first
  |exact P8 _ (by decide)
  |exact fL hx (hI.n _ (by simp))
  |exact rC (h.un _ (A5o.2 ⟨u,e,rfl⟩))
  |exact rC (B6 h.bn _)
  |exact lR hx hI.a.1 _ d
  |exact Ar5 _ _ d
  |skip
 simp only[aJ,A5b,A5l,or_false,or_assoc]at d
 rcases d with rfl|rfl
 ·exact fL hx (hI.s.1 s hs).1
 ·exact fL hx (hI.s.1 s hs).2
def Aoc{s:StoreD}(e:s∈c.stores.l):(Dg (Fu (Bl c) s)).length<=300000000000:=by
 have hI:=h.i.s s e
 refine CA (fun x d=>?_) (by simp[Fu])
 unfold Fu at d
 simp only[A5b,A5l,or_false,or_assoc]at d
 rcases d with rfl|rfl|rfl|rfl|rfl|rfl|rfl|rfl|rfl|rfl|rfl|rfl|rfl
 all_goals first
  |exact P8 _ (by decide)
  |exact fL hx (hI.n _ (by simp))
  |exact rC (h.sn _ (A5o.2 ⟨s,e,rfl⟩))
  |exact rC (B6 h.bn _)
  |exact FT hx (hI.n _ (by simp)) (hI.n _ (by simp))
def Au7{t:TieD}(f:t∈c.ties.l):(Dg (Uh (Bl c) t)).length<=300000000000:=by
 have hI:=h.i.t t f
 refine CA (fun x d=>?_) (by have:=hI.i.2;have:=hI.e.2;have:=hI.p.2;simp[Uh];omega)
 unfold Uh at d
 simp only[A5b,A5d,A5l,or_false,or_assoc]at d
 rcases d with rfl|rfl|rfl|rfl|d|rfl|d|rfl|d
 all_goals first
  |exact P8 _ (by decide)
  |exact rC (h.tn _ (A5o.2 ⟨t,f,rfl⟩))
  |exact rC (B6 h.bn _)
  |exact lR hx hI.i.1 _ d
  |exact lR hx hI.e.1 _ d
  |exact lR hx hI.p.1 _ d
def Au8{o:OutD}(f:o∈c.outs.l):(Dg (Mx (Ce c) (Bw c) o)).length<=300000000000:=by
 have hI:=h.i.o o f
 refine CA (fun x d=>?_) (by
  have:=hI.l
  have:=hI.m.2
  have:(cond o.corr [B4] ([]:List Ap)).length<=1:=by cases o.corr<;>decide
  unfold Mx
  simp only[A41,A42,A43,Ar4,A48];omega)
 unfold Mx at d
 simp only[A5b,A5d,A5l,or_false,or_assoc,A5o,A74]at d
 rcases d with rfl|rfl|rfl|⟨l,k,rfl⟩|d|⟨m,e,d⟩
 ·exact P8 _ (by decide)
 ·exact rC (h.on _ (A5o.2 ⟨o,f,rfl⟩))
 ·exact P8 _ (by decide)
 ·exact rC (B6 h.ln _)
 ·cases j:o.corr<;>rw[j]at d
  ·cases d
  ·rw[cond_true,A61]at d;subst d;exact P8 _ (by decide)
 ·simp only[Ta,A5b,A5l,or_false,or_assoc]at d
  rcases d with rfl|rfl|rfl
  ·exact rC (B6 h.un _)
  ·exact fL hx (hI.m.1 m e).1
  ·exact fL hx (hI.m.1 m e).2
end
end Gx.Ct
namespace Gx.Ct
open Go Go.Proofs Gx.Cf
section
variable{R:Type}{N:Nat}{c:CaseD}{a:Bool}{K:List UInt8->Bool->O R}
def Ready.ks{c:CaseD}(h:Ready 1000000000 c):∀ u∈c.units.l,El u.state 3=true:=by
 have d:=h.k
 unfold Kf at d
 simp only[A47,A5n]at d
 exact fun u e=>(d.2.1 u e).2
def Ap6{n m:Nat}(h:n<=60000000000000)(d:m<=1000):ble (n+m) 140737488355328=true:=by simp;omega
def JZ(ws:List Ap)(r:List (List Ap)):(ws::r).flatMap Dg=Dg ws++r.flatMap Dg:=rfl
def yg(hF:FI R N)(hx:B9)(hN:1000000000<N)(h:Ready 1000000000 c)(k:Fp c=true):∀(m j fuel:Nat)(T:Lu)(bad:Bool),j+m=c.outs.l.length->m<fuel->T.length+300000000000*m<=60000000000000 ->
  Gy N K (c.outs.l.flatMap OutD.av) c.outs.l.length a c.av fuel (c.outs.l.length:Int) (j:Int) T bad =
   K (T++((c.outs.l.drop j).map (Mx (Ce c) (Bw c))).flatMap Dg) (bad||((c.outs.l.drop j).any Im))
|0,j,fuel+1,T,bad,n,_,hT=>by
  rw[Gy];unfold Ly
  have q:=h.cnt
  rw[Fk (by omega),cf,show c.outs.l.drop j=[]from Bo (by omega),A5v,A6o]
  show K _ _=K (T++[]) (bad||false)
  rw[A65,A5h]
|m+1,j,fuel+1,T,bad,n,t,hT=>by
  rw[Gy];unfold Ly
  have d:j<c.outs.l.length:=by omega
  have q:=h.cnt
  have f:(c.outs.l[j])∈c.outs.l:=A5g d
  have u:=Au8 hx h f
  have hT':T.length<=59700000000000:=by omega
  rw[Er d,ct,Aa d,ct,Cd (e:=OutD.av) (sz:=4) (fun _=>rfl) d,ct,Bp (e:=OutD.av) (sz:=4) (fun _=>rfl) d,show((beq 0 0)&&((beq ((OutD.av c.outs.l[j]).length) 4)&&(beq 4 4)))=true from rfl,ct]
  have s:=fun bad=>yg hF hx hN h k m (j+1) fuel (T++Dg (Mx (Ce c) (Bw c) c.outs.l[j])) bad (by omega) (by omega) (by rw[A41];omega)
  rw[Bm d,A5c,A6h,JZ,<-A5e]
  rw[Fl,ct,show ble 4 (OutD.av c.outs.l[j]).length=true from rfl,ct,Cs,show take 4 (OutD.av c.outs.l[j])=OutD.av c.outs.l[j]from rfl,Ar3 hF hx hN (h.i.o _ f) h.ln h.un (h.kn.2.2.2.2 _ f).1 (h.kn.2.2.2.2 _ f).2 (A5n.1 k _ f) (h.on _ (A5o.2 ⟨_,f,rfl⟩)) (by omega),Q8 (by omega)]
  refine(s _).trans ?_
  rw[A5u]
def yh(hF:FI R N)(hx:B9)(hN:1000000000<N)(h:Ready 1000000000 c)(f:Fp c=true):∀(m j fuel:Nat)(T:Lu)(bad:Bool),j+m=c.ties.l.length->m<fuel->T.length+300000000000*(m+c.outs.l.length)<=60000000000000 ->
  Eu N K (c.ties.l.flatMap TieD.av) c.ties.l.length a c.av fuel (c.ties.l.length:Int) (j:Int) T bad =
   K (T++((c.ties.l.drop j).map (Uh (Bl c))++(c.outs.l.map (Mx (Ce c) (Bw c)))).flatMap Dg) (bad||((c.ties.l.drop j).any Rc||(c.outs.l.any Im)))
|0,j,fuel+1,T,bad,s,_,hT=>by
  rw[Eu];unfold Lz
  have u:=h.cnt
  rw[Fk (by omega),cf,show c.ties.l.drop j=[]from Bo (by omega),A5v,A6o]
  rw[Ix]
  refine(yg (a:=a) hF hx hN h f c.outs.l.length 0 N T bad (by omega) (by omega) (by omega)).trans ?_
  rw[A5k,A56];rfl
| m+1,j,fuel+1,T,bad,s,x,hT=>by
  rw[Eu];unfold Lz
  have d:j<c.ties.l.length:=by omega
  have u:=h.cnt
  have k:(c.ties.l[j])∈c.ties.l:=A5g d
  have y:=Au7 hx h k
  have hT':T.length<=59700000000000:=by omega
  rw[Er d,ct,Aa d,ct,Cd (e:=TieD.av) (sz:=5) (fun _=>rfl) d,ct,Bp (e:=TieD.av) (sz:=5) (fun _=>rfl) d,show((beq 0 0)&&((beq ((TieD.av c.ties.l[j]).length) 5)&&(beq 5 5)))=true from rfl,ct]
  have v:=fun bad=>yh hF hx hN h f m (j+1) fuel (T++Dg (Uh (Bl c) c.ties.l[j])) bad (by omega) (by omega) (by rw[A41];omega)
  rw[Bm d,A5c,A6h,A5i,JZ,<-A5e]
  have hI:=h.i.t _ k
  have n:=h.kn.2.2.2.1 _ k
  have q:(c.ties.l[j]).name.length<=16:=h.tn _ (A5o.2 ⟨_,k,rfl⟩)
  have s1:=B6 h.bn (c.ties.l[j]).bus
  rw[Ap6 (by omega) (by decide),ct,show ∀ F:Ap->O R,Gv (c.ties.l[j]).av F=F (c.ties.l[j]).name from fun _=>rfl,Ca]
  show cond (Ac (c.ties.l[j]).bus c.buses.l.length) _ none=_
  rw[P6 n,ct,ji n]
  refine Ds (ws:=[(c.ties.l[j]).name,Be (Bl c) (c.ties.l[j]).bus,S7]) rfl rfl (by simp[q,s1,S7]) (by simp) hN (by simp only[A41,A42,A43];omega) ?_
  have z:(Gc [(c.ties.l[j]).name,Be (Bl c) (c.ties.l[j]).bus,S7]).length<=100:=by
   have:=JN (ws:=[(c.ties.l[j]).name,Be (Bl c) (c.ties.l[j]).bus,S7]) (B:=16) (by simp[q,s1,S7])
   simp only[A42,A43]at this;omega
  show A5 1 ((c.ties.l[j]).imp.av 1 D5::_) _=_
  rw[A6,Bn]
  refine Ft rfl rfl hF hx hI.i.1 hI.i.2 hN (by simp only[A41,A42,A43];omega) ?_
  have A:(Gc ((c.ties.l[j]).imp.l.map tx)).length<=31*(c.ties.l[j]).imp.l.length:=Nd hx hI.i.1
  have C:=hI.i.2
  refine Ds (ws:=[LB]) rfl rfl (by decide) (by simp) hN (by simp only[A41,A42,A43];omega) ?_
  have D:(Gc [LB]).length<=20:=by decide
  show A5 1 ((c.ties.l[j]).exp.av 1 D5::_) _=_
  rw[A6,Bn]
  refine Ft rfl rfl hF hx hI.e.1 hI.e.2 hN (by simp only[A41,A42,A43];omega) ?_
  have G:(Gc ((c.ties.l[j]).exp.l.map tx)).length<=31*(c.ties.l[j]).exp.l.length:=Nd hx hI.e.1
  have I:=hI.e.2
  refine Ds (ws:=[WH]) rfl rfl (by decide) (by simp) hN (by simp only[A41,A42,A43];omega) ?_
  have L:(Gc [WH]).length<=20:=by decide
  show A5 1 ((c.ties.l[j]).price.av 1 D5::_) _=_
  rw[A6,Bn]
  refine Ft rfl rfl hF hx hI.p.1 hI.p.2 hN (by simp only[A41,A42,A43];omega) ?_
  have M:(Gc ((c.ties.l[j]).price.l.map tx)).length<=31*(c.ties.l[j]).price.l.length:=Nd hx hI.p.1
  have S:=hI.p.2
  rw[show ∀ X:Lu,X.length<=140000000000000->ble (X.length+1) 140737488355328=true from fun X h=>by simp;omega,ct]
  ·rw[Q8 (by omega)]
   have eB:(((bad||Ar (c.ties.l[j]).imp.l)||Ar (c.ties.l[j]).exp.l)||Ar (c.ties.l[j]).price.l)=(bad||Rc c.ties.l[j]):=by unfold Rc;simp[A5u]
   rw[eB]
   refine A7p ?_ ((v (bad||Rc c.ties.l[j])).trans ?_)
   ·refine congrArg (fun X=>Eu N K _ _ _ _ fuel _ _ X _) ?_
    rw[Dg]
    unfold Uh
    simp only[A5i,Gl,A5e]
    simp[Gc,Qh]
   ·simp only[A5u]
  ·simp only[A41,A42,A43];omega
def ot(hF:FI R N)(hx:B9)(hN:1000000000<N)(h:Ready 1000000000 c)(f:Fp c=true):∀(m j fuel:Nat)(T:Lu)(bad:Bool),j+m=c.stores.l.length->m<fuel->T.length+300000000000*(m+(c.ties.l.length+c.outs.l.length))<=60000000000000 ->
  Ev N K (c.stores.l.flatMap StoreD.av) c.stores.l.length a c.av fuel (c.stores.l.length:Int) (j:Int) T bad =
   K (T++((c.stores.l.drop j).map (Fu (Bl c))++(c.ties.l.map (Uh (Bl c))++(c.outs.l.map (Mx (Ce c) (Bw c))))).flatMap Dg) (bad||((c.stores.l.drop j).any Je||(c.ties.l.any Rc||(c.outs.l.any Im))))
|0,j,fuel+1,T,bad,u,_,hT=>by
  rw[Ev];unfold L0
  have v:=h.cnt
  rw[Fk (by omega),cf,show c.stores.l.drop j=[]from Bo (by omega),A5v,A6o]
  rw[Lm]
  refine(yh (a:=a) hF hx hN h f c.ties.l.length 0 N T bad (by omega) (by omega) (by omega)).trans ?_
  rw[A5k,A56];rfl
| m+1,j,fuel+1,T,bad,u,y,hT=>by
  rw[Ev];unfold L0
  have d:j<c.stores.l.length:=by omega
  have v:=h.cnt
  have k:(c.stores.l[j])∈c.stores.l:=A5g d
  have z:=Aoc hx h k
  have hT':T.length<=59700000000000:=by omega
  rw[Er d,ct,Aa d,ct,Cd (e:=StoreD.av) (sz:=9) (fun _=>rfl) d,ct,Bp (e:=StoreD.av) (sz:=9) (fun _=>rfl) d,show((beq 0 0)&&((beq ((StoreD.av c.stores.l[j]).length) 9)&&(beq 9 9)))=true from rfl,ct]
  have x:=fun bad=>ot hF hx hN h f m (j+1) fuel (T++Dg (Fu (Bl c) c.stores.l[j])) bad (by omega) (by omega) (by rw[A41];omega)
  rw[Bm d,A5c,A6h,A5i,JZ,<-A5e]
  have hn:=(h.i.s _ k).n
  simp only[A5b,A5l,or_false,forall_eq_or_imp,forall_eq]at hn
  obtain⟨n1,n2,n3,n4,n5,n6,n7⟩:=hn
  have q:=h.kn.2.2.1 _ k
  have t:(c.stores.l[j]).name.length<=16:=h.sn _ (A5o.2 ⟨_,k,rfl⟩)
  have s1:=B6 h.bn (c.stores.l[j]).bus
  rw[Ap6 (by omega) (by decide),ct,show ∀ F:Ap->O R,Gv (c.stores.l[j]).av F=F (c.stores.l[j]).name from fun _=>rfl,Ca]
  show cond (Ac (c.stores.l[j]).bus c.buses.l.length) _ none=_
  rw[P6 q,ct,ji q]
  refine Ds (ws:=[(c.stores.l[j]).name,Be (Bl c) (c.stores.l[j]).bus,Mw]) rfl rfl (by simp[t,s1,Mw]) (by simp) hN (by simp only[A41,A42,A43];omega) ?_
  have A:(Gc [(c.stores.l[j]).name,Be (Bl c) (c.stores.l[j]).bus,Mw]).length<=100:=by
   have:=JN (ws:=[(c.stores.l[j]).name,Be (Bl c) (c.stores.l[j]).bus,Mw]) (B:=16) (by simp[t,s1,Mw])
   simp only[A42,A43]at this;omega
  show Ak N [.int .i64 (c.stores.l[j]).capacity] 1 false true _ _ _=_
  refine Ft (l:=[(c.stores.l[j]).capacity]) rfl rfl hF hx (by simp[*]) (by simp) hN (by simp only[A41,A42,A43];omega) ?_
  have C:(Gc ([(c.stores.l[j]).capacity].map tx)).length<=100:=by
   have:=Nd (l:=[(c.stores.l[j]).capacity]) hx (by simp[*])
   simp only[A42,A43]at this;omega
  refine Ds (ws:=[fq]) rfl rfl (by decide) (by simp) hN (by simp only[A41,A42,A43];omega) ?_
  have D:(Gc [fq]).length<=20:=by decide
  show Ak N [.int .i64 (c.stores.l[j]).initial,.int .i64 (c.stores.l[j]).final] 2 false true _ _ _=_
  refine Ft (l:=[(c.stores.l[j]).initial,(c.stores.l[j]).final]) rfl rfl hF hx (by simp[*]) (by simp) hN (by simp only[A41,A42,A43];omega) ?_
  have G:(Gc ([(c.stores.l[j]).initial,(c.stores.l[j]).final].map tx)).length<=100:=by
   have:=Nd (l:=[(c.stores.l[j]).initial,(c.stores.l[j]).final]) hx (by simp[*])
   simp only[A42,A43]at this;omega
  refine Ds (ws:=[pu]) rfl rfl (by decide) (by simp) hN (by simp only[A41,A42,A43];omega) ?_
  have I:(Gc [pu]).length<=20:=by decide
  show Ak N [.int .i64 (c.stores.l[j]).charge,.int .i64 (c.stores.l[j]).discharge] 2 false true _ _ _=_
  refine Ft (l:=[(c.stores.l[j]).charge,(c.stores.l[j]).discharge]) rfl rfl hF hx (by simp[*]) (by simp) hN (by simp only[A41,A42,A43];omega) ?_
  have L:(Gc ([(c.stores.l[j]).charge,(c.stores.l[j]).discharge].map tx)).length<=100:=by
   have:=Nd (l:=[(c.stores.l[j]).charge,(c.stores.l[j]).discharge]) hx (by simp[*])
   simp only[A42,A43]at this;omega
  refine Ds (ws:=[Uf]) rfl rfl (by decide) (by simp) hN (by simp only[A41,A42,A43];omega) ?_
  have M:(Gc [Uf]).length<=20:=by decide
  show cond true (cond (!a||A0 [AV.int .i64 (c.stores.l[j]).eff.num,.int .i64 (c.stores.l[j]).eff.den]) (cond true (Dv N [.int .i64 (c.stores.l[j]).eff.num,.int .i64 (c.stores.l[j]).eff.den] 1 false true _ _ _) none) none) none=_
  rw[ct,show(!a||A0 [AV.int .i64 (c.stores.l[j]).eff.num,.int .i64 (c.stores.l[j]).eff.den])=true by cases a<;>rfl,ct,ct]
  refine yc (fs:=[(c.stores.l[j]).eff]) rfl rfl hF hx (by simp[n6,n7]) (by simp) hN (by simp only[A41,A42,A43];omega) ?_
  have L1:=FT hx n6 n7
  have S:(Gc ([(c.stores.l[j]).eff].map H6)).length<=62:=by simp[Gc];omega
  rw[show ∀ X:Lu,X.length<=140000000000000->ble (X.length+1) 140737488355328=true from fun X h=>by simp;omega,ct]
  ·rw[Q8 (by omega)]
   have eB:((((bad||Ar [(c.stores.l[j]).capacity])||Ar [(c.stores.l[j]).initial,(c.stores.l[j]).final])||Ar [(c.stores.l[j]).charge,(c.stores.l[j]).discharge])||[(c.stores.l[j]).eff].any Fo)=(bad||Je c.stores.l[j]):=by unfold Je;simp[Ar,A5u]
   rw[eB]
   refine A7p ?_ ((x (bad||Je c.stores.l[j])).trans ?_)
   ·refine congrArg (fun X=>Ev N K _ _ _ _ fuel _ _ X _) ?_
    rw[Dg]
    unfold Fu
    simp only[A5i,Gl,A5e]
    simp[Gc,F9]
   ·simp only[A5u]
  ·simp only[A41,A42,A43];omega
def tP(hF:FI R N)(hx:B9)(hN:1000000000<N)(h:Ready 1000000000 c)(f:Fp c=true):∀(m j fuel:Nat)(T:Lu)(bad:Bool),j+m=c.units.l.length->m<fuel->T.length+300000000000*(m+(c.stores.l.length+(c.ties.l.length+c.outs.l.length)))<=60000000000000 ->
  Gz N K (c.units.l.flatMap UnitD.av) c.units.l.length a c.av fuel (c.units.l.length:Int) (j:Int) T bad =
   K (T++((c.units.l.drop j).map (Jd (Bl c))++(c.stores.l.map (Fu (Bl c))++(c.ties.l.map (Uh (Bl c))++(c.outs.l.map (Mx (Ce c) (Bw c)))))).flatMap Dg) (bad||((c.units.l.drop j).any Nm||(c.stores.l.any Je||(c.ties.l.any Rc||(c.outs.l.any Im)))))
|0,j,fuel+1,T,bad,n,_,hT=>by
  rw[Gz];unfold L8
  have q:=h.cnt
  rw[Fk (by omega),cf,show c.units.l.drop j=[]from Bo (by omega),A5v,A6o]
  rw[Hl]
  refine(ot (a:=a) hF hx hN h f c.stores.l.length 0 N T bad (by omega) (by omega) (by omega)).trans ?_
  rw[A5k,A56];rfl
|m+1,j,fuel+1,T,bad,n,t,hT=>by
  rw[Gz];unfold L8
  have d:j<c.units.l.length:=by omega
  have q:=h.cnt
  have k:(c.units.l[j])∈c.units.l:=A5g d
  have v:=Ar8 hx h k
  have hT':T.length<=59700000000000:=by omega
  rw[Er d,ct,Aa d,ct,Cd (e:=UnitD.av) (sz:=22) (fun _=>rfl) d,ct,Bp (e:=UnitD.av) (sz:=22) (fun _=>rfl) d,show((beq 0 0)&&((beq ((UnitD.av c.units.l[j]).length) 22)&&(beq 22 22)))=true from rfl,ct]
  have s:=fun bad=>tP hF hx hN h f m (j+1) fuel (T++Dg (Jd (Bl c) c.units.l[j])) bad (by omega) (by omega) (by rw[A41];omega)
  rw[Bm d,A5c,A6h,A5i,JZ,<-A5e]
  rw[Fl,ct,show ble 22 (UnitD.av c.units.l[j]).length=true from rfl,ct,Cs,show take 22 (UnitD.av c.units.l[j])=UnitD.av c.units.l[j]from rfl,Aoa hF hx hN (h.i.u _ k) (Ready.ks h _ k) (h.kn.2.1 _ k) (h.un _ (A5o.2 ⟨_,k,rfl⟩)) (B6 h.bn _) (by omega),Q8 (by omega)]
  refine(s _).trans ?_
  simp only[A5u]
def tQ(hF:FI R N)(hx:B9)(hN:1000000000<N)(h:Ready 1000000000 c)(f:Fp c=true):∀(m j fuel:Nat)(T:Lu)(bad:Bool),j+m=c.lines.l.length->m<fuel->T.length+300000000000*(m+(c.units.l.length+(c.stores.l.length+(c.ties.l.length+c.outs.l.length))))<=60000000000000 ->
  G0 N K (c.lines.l.flatMap LineD.av) c.lines.l.length a c.av fuel (c.lines.l.length:Int) (j:Int) T bad =
   K (T++((c.lines.l.drop j).map (Ng (Bl c))++(c.units.l.map (Jd (Bl c))++(c.stores.l.map (Fu (Bl c))++(c.ties.l.map (Uh (Bl c))++(c.outs.l.map (Mx (Ce c) (Bw c))))))).flatMap Dg) (bad||((c.lines.l.drop j).any Ui||(c.units.l.any Nm||(c.stores.l.any Je||(c.ties.l.any Rc||(c.outs.l.any Im))))))
|0,j,fuel+1,T,bad,n,_,hT=>by
  rw[G0];unfold L9
  have q:=h.cnt
  rw[Fk (by omega),cf,show c.lines.l.drop j=[]from Bo (by omega),A5v,A6o]
  rw[F2]
  refine(tP (a:=a) hF hx hN h f c.units.l.length 0 N T bad (by omega) (by omega) (by omega)).trans ?_
  rw[A5k,A56];rfl
|m+1,j,fuel+1,T,bad,n,t,hT=>by
  rw[G0];unfold L9
  have d:j<c.lines.l.length:=by omega
  have q:=h.cnt
  have k:(c.lines.l[j])∈c.lines.l:=A5g d
  have u:=Ar7 hx h k
  have hT':T.length<=59700000000000:=by omega
  rw[Er d,ct,Aa d,ct,Cd (e:=LineD.av) (sz:=12) (fun _=>rfl) d,ct,Bp (e:=LineD.av) (sz:=12) (fun _=>rfl) d,show((beq 0 0)&&((beq ((LineD.av c.lines.l[j]).length) 12)&&(beq 12 12)))=true from rfl,ct]
  have s:=fun bad=>tQ hF hx hN h f m (j+1) fuel (T++Dg (Ng (Bl c) c.lines.l[j])) bad (by omega) (by omega) (by rw[A41];omega)
  rw[Bm d,A5c,A6h,A5i,JZ,<-A5e]
  rw[Fl,ct,show ble 12 (LineD.av c.lines.l[j]).length=true from rfl,ct,Cs,show take 12 (LineD.av c.lines.l[j])=LineD.av c.lines.l[j]from rfl,An8 hF hx hN (h.i.l _ k) (h.kn.1 _ k).1 (h.kn.1 _ k).2 (h.ln _ (A5o.2 ⟨_,k,rfl⟩)) (B6 h.bn _) (B6 h.bn _) (by omega),Q8 (by omega)]
  refine(s _).trans ?_
  simp only[A5u]
def tR(hF:FI R N)(hx:B9)(hN:1000000000<N)(h:Ready 1000000000 c)(k:Fp c=true):∀(m j fuel:Nat)(T:Lu)(bad:Bool),j+m=c.buses.l.length->m<fuel->T.length+300000000000*(m+(c.lines.l.length+(c.units.l.length+(c.stores.l.length+(c.ties.l.length+c.outs.l.length)))))<=60000000000000 ->
  Dy N K (c.buses.l.flatMap BusD.av) c.buses.l.length a c.av fuel (c.buses.l.length:Int) (j:Int) T bad =
   K (T++((c.buses.l.drop j).map TC++(c.lines.l.map (Ng (Bl c))++(c.units.l.map (Jd (Bl c))++(c.stores.l.map (Fu (Bl c))++(c.ties.l.map (Uh (Bl c))++(c.outs.l.map (Mx (Ce c) (Bw c)))))))).flatMap Dg) (bad||((c.buses.l.drop j).any RC||(c.lines.l.any Ui||(c.units.l.any Nm||(c.stores.l.any Je||(c.ties.l.any Rc||(c.outs.l.any Im)))))))
|0,j,fuel+1,T,bad,t,_,hT=>by
  rw[Dy];unfold Ma
  have u:=h.cnt
  rw[Fk (by omega),cf,show c.buses.l.drop j=[]from Bo (by omega),A5v,A6o]
  rw[Ef]
  refine(tQ (a:=a) hF hx hN h k c.lines.l.length 0 N T bad (by omega) (by omega) (by omega)).trans ?_
  rw[A5k,A56];rfl
| m+1,j,fuel+1,T,bad,t,x,hT=>by
  rw[Dy];unfold Ma
  have f:j<c.buses.l.length:=by omega
  have u:=h.cnt
  have n:(c.buses.l[j])∈c.buses.l:=A5g f
  have y:=Au6 hx h n
  have hT':T.length<=59700000000000:=by omega
  rw[Er f,ct,Aa f,ct,Cd (e:=BusD.av) (sz:=3) (fun _=>rfl) f,ct,Bp (e:=BusD.av) (sz:=3) (fun _=>rfl) f,show((beq 0 0)&&((beq ((BusD.av c.buses.l[j]).length) 3)&&(beq 3 3)))=true from rfl,ct]
  have v:=fun bad=>tR hF hx hN h k m (j+1) fuel (T++Dg (TC c.buses.l[j])) bad (by omega) (by omega) (by rw[A41];omega)
  rw[Bm f,A5c,A6h,A5i,JZ,<-A5e]
  have hI:=h.i.b _ n
  have hs:=hI.s
  have q:(c.buses.l[j]).name.length<=16:=h.bn _ (A5o.2 ⟨_,n,rfl⟩)
  rw[Ap6 (by omega) (by decide),ct]
  show Aw N [.str (c.buses.l[j]).name,.str Qg] 2 false true _ _ _=_
  refine Ds (ws:=[(c.buses.l[j]).name,Qg]) rfl rfl (by simp[q,Qg]) (by simp) hN (by simp only[A41,A42,A43];omega) ?_
  have z:(Gc [(c.buses.l[j]).name,Qg]).length<=100:=by
   have:=JN (ws:=[(c.buses.l[j]).name,Qg]) (B:=16) (by simp[q,Qg])
   simp only[A42,A43]at this;omega
  show A5 1 ((c.buses.l[j]).demand.av 1 D5::_) _=_
  rw[A6,Bn]
  refine Ft rfl rfl hF hx hI.d.1 hI.d.2 hN (by simp only[A41,A42,A43];omega) ?_
  have A:(Gc ((c.buses.l[j]).demand.l.map tx)).length<=31*(c.buses.l[j]).demand.l.length:=Nd hx hI.d.1
  have C:=hI.d.2
  refine Ds (ws:=[pt]) rfl rfl (by decide) (by simp) hN (by simp only[A41,A42,A43];omega) ?_
  have D:(Gc [pt]).length<=20:=by decide
  show Ak N [.int .i64 (c.buses.l[j]).shed] 1 false true _ _ _=_
  refine Ft (l:=[(c.buses.l[j]).shed]) rfl rfl hF hx (by simp[*]) (by simp) hN (by simp only[A41,A42,A43];omega) ?_
  have F:(Gc ([(c.buses.l[j]).shed].map tx)).length<=100:=by
   have:=Nd (l:=[(c.buses.l[j]).shed]) hx (by simp[*])
   simp only[A42,A43]at this;omega
  rw[show ∀ X:Lu,X.length<=140000000000000->ble (X.length+1) 140737488355328=true from fun X h=>by simp;omega,ct]
  ·rw[Q8 (by omega)]
   have eB:((bad||Ar (c.buses.l[j]).demand.l)||Ar [(c.buses.l[j]).shed])=(bad||RC c.buses.l[j]):=by unfold RC;simp[Ar,A5u]
   rw[eB]
   refine A7p ?_ ((v (bad||RC c.buses.l[j])).trans ?_)
   ·refine congrArg (fun X=>Dy N K _ _ _ _ fuel _ _ X _) ?_
    rw[Dg]
    unfold TC
    simp only[A5i,Gl,A5e]
    simp[Gc,Qf]
   ·simp only[A5u]
  ·simp only[A41,A42,A43];omega
def Aod(hF:FI R N)(hx:B9)(hN:1000000000<N)(h:Ready 1000000000 c)(d:Fp c=true):J3 N c.av a [] false K=K (Nh c) (Hd c):=by
 rw[EY];unfold Ry
 have e:=h.cnt
 have f:=h.i.h
 have j:=Ar6 hx h
 rw[Ap6 (by simp) (by decide),ct,Es]
 show Ak N [.int .i64 c.hours] 1 false true Dc _ _=_
 refine Ft (l:=[c.hours]) rfl rfl hF hx (by simp[*]) (by simp) hN (by decide) ?_
 have k:(Gc ([c.hours].map tx)).length<=100:=by
  have:=Nd (l:=[c.hours]) hx (by simp[*])
  simp only[A42,A43]at this;omega
 have m:Dc.length<=20:=by decide
 refine Ds (ws:=[D7]) rfl rfl (by decide) (by simp) hN (by simp only[A41];omega) ?_
 have n:(Gc [D7]).length<=20:=by decide
 rw[K_]
 refine Ft rfl rfl hF hx h.i.r.1 h.i.r.2 hN (by simp only[A41];omega) ?_
 have q:(Gc (c.reserve.l.map tx)).length<=31*c.reserve.l.length:=Nd hx h.i.r.1
 have s:=h.i.r.2
 rw[show ∀ X:Lu,X.length<=140000000000000->ble (X.length+1) 140737488355328=true from fun X h=>by simp;omega,ct]
 ·have eB:((false||Ar [c.hours])||Ar c.reserve.l)=(Vj c.hours||Ar c.reserve.l):=by simp[Ar]
  have eW:(((Dc++Gc ([c.hours].map tx))++Gc [D7])++Gc (c.reserve.l.map tx))++[10]=Dg (jR c):=by
   rw[Dg];unfold jR
   rw[A5i,Gl]
   simp[Gc]
  rw[Ca,eB,eW]
  refine(tR (a:=a) hF hx hN h d c.buses.l.length 0 N _ _ (by omega) (by omega) (by omega)).trans ?_
  rw[A5k]
  unfold Hd
  rw[A5u];rfl
 ·simp only[A41];omega
end
end Gx.Ct
namespace Gx.Ct
open Go Go.Proofs Gx.Cf
section
variable{R:Type}{N:Nat}{c:CaseD}{b:Bool}
def tS{K:Lu->Int->O R}(d:c.outs.l.length<=1000):∀(m j fuel:Nat),j+m=c.outs.l.length->m<fuel ->
  M7 N K (c.outs.l.flatMap OutD.av) c.outs.l.length b c.av fuel (c.outs.l.length:Int) (j:Int) =
   cond ((c.outs.l.drop j).all od) (J3 N c.av b ([]:Lu) false fun r y=>cond y (K ([]:Lu) 3) (cond (decide (((r.length:Nat):Int)>1048576)) (K ([]:Lu) 8) (K r 0))) (K [] 16)
|0,j,fuel+1,f,_=>by
  rw[M7];unfold Y8
  rw[Fk (by omega),cf,Bo (by omega),A55,Fl,ct,Cs];rfl
| m+1,j,fuel+1,f,n=>by
  rw[M7];unfold Y8
  have h:j<c.outs.l.length:=by omega
  have k:=tS (K:=K) d m (j+1) fuel (by omega) (by omega)
  rw[Er h,ct,Aa h,ct,Cd (e:=OutD.av) (sz:=4) (fun _=>rfl) h,ct,Bp (e:=OutD.av) (sz:=4) (fun _=>rfl) h,show((beq 0 0)&&((beq ((OutD.av c.outs.l[j]).length) 4)&&(beq 4 4)))=true from rfl,ct,Q8 (by omega),k,Bm h,A5s,
   show ∀ F:Bool->O R,QY (drop 2 (OutD.av c.outs.l[j])) F=F (c.outs.l[j]).corr from fun _=>rfl]
  have rm:∀ F:LA->Nat->O R,A5 3 (drop 3 (OutD.av c.outs.l[j])) F=F ((c.outs.l[j]).moves.l.flatMap MoveD.av) (c.outs.l[j]).moves.l.length:=fun F=>by
   show A5 3 ((c.outs.l[j]).moves.av 3 MoveD.av::_) F=_
   rw[A6]
  rw[rm]
  unfold od
  cases (c.outs.l[j]).corr with
  |true=>rfl
  |false =>
   show cond (cond true (decide ((((c.outs.l[j]).moves.l.length:Nat):Int)>0)) false) _ _=_
   cases q:(c.outs.l[j]).moves.l with
   |nil=>rfl
   |cons x r=>rw[decide_eq_true (by simp)];rfl
def Ar9(c:CaseD):((List.range' 1 6).all fun k=>(Rk c k).all A9)=(B5 c).all fun l=>l.all A9:=by simp[Rk,B5,List.range']
def Asa(c:CaseD):((List.range' 1 6).any fun k=>D8 [] (Rk c k))=(B5 c).any (D8 []):=by simp[Rk,B5,List.range']
def Aoe(c:CaseD):(List.range' 1 6).all (Aas c)=F4 c:=by rw[Ar2];simp[List.range']
def Ago {K:Lu->Int->O R} (hF:FI R N) (hx:B9) (hN:1000000000<N) (hI:CaseI 1000000000 c) (hL:ListsOk c):MJ N c.av b K=K (tt c) (Vk c):=by
 have fin:∀ e:Int,Vk c=e->e≠0->K [] e=K (tt c) (Vk c):=fun e d f=>by unfold tt;rw[d,if_neg f]
 rw[dX];unfold PK
 refine(Acl hN hL 6 1 N (by omega) (by omega) (by omega)).trans ?_
 rw[Aoe]
 cases d:F4 c with
|false=>exact fin 8 (by unfold Vk;rw[if_pos d]) (by decide)
| true =>
  have v:=d
  unfold F4 at v
  simp only[A47,decide_eq_true_eq]at v
  have E1:Vk c=if c.hours<1\/c.hours>24 then 3 else if Wq c=false then 4 else if I7 c≠0 then I7 c else if Kf c=false then 12 else if Fp c=false then 16 else if Hd c then 3 else if (Nh c).length>1048576 then 8 else 0:=by
   unfold Vk;rw[if_neg (by rw[d];decide)]
  rw[ct,Es]
  by_cases f:c.hours<1
  ·rw[decide_eq_true f];exact fin 3 (by rw[E1,if_pos (.inl f)]) (by decide)
  ·rw[decide_eq_false f,show((false:Bool)==false)=true from rfl,ct,Es]
   show cond (decide (c.hours>24)) _ _=_
   by_cases m:c.hours>24
   ·rw[decide_eq_true m];exact fin 3 (by rw[E1,if_pos (.inr m)]) (by decide)
   ·have E2:Vk c=if Wq c=false then 4 else if I7 c≠0 then I7 c else if Kf c=false then 12 else if Fp c=false then 16 else if Hd c then 3 else if (Nh c).length>1048576 then 8 else 0:=by
     rw[E1,if_neg (fun h=>h.elim f m)]
    rw[decide_eq_false m,cf]
    unfold DF MI
    rw[Fl,ct,Cs,Agn (by omega) (by omega) (by omega)]
    cases x:Wq c with
    |false=>exact fin 4 (by rw[E2,if_pos x]) (by decide)
    | true =>
     have E3:Vk c=if I7 c≠0 then I7 c else if Kf c=false then 12 else if Fp c=false then 16 else if Hd c then 3 else if (Nh c).length>1048576 then 8 else 0:=by
      rw[E2,if_neg (by rw[x];decide)]
     rw[show(!true)=false from rfl,cf]
     have hs:∀ k,1<=k->k<=6->(Rk c k).length<=1000:=fun k d f=>by
      have:k=1\/k=2\/k=3\/k=4\/k=5\/k=6:=by omega
      rcases this with rfl|rfl|rfl|rfl|rfl|rfl<;>simp[Rk,B5,Bl,Ce,Bw,Xd,kQ,kR]<;>omega
     refine(tN (F:=_) hN hL hs (fun _=>rfl) 6 1 N false (by omega) (by omega) (by omega)).trans ?_
     rw[Ar9,Asa,A56]
     have hE:I7 c=if ((B5 c).all fun l=>l.all A9)then(if (B5 c).any (D8 [])then 10 else 0)else 9:=rfl
     cases n:((B5 c).all fun l=>l.all A9)with
     |false =>
      rw[n]at hE
      exact fin 9 (by rw[E3,hE];rfl) (by decide)
     | true =>
      rw[n,if_pos rfl]at hE
      rw[ct]
      cases j:(B5 c).any (D8 [])with
      |true =>
       rw[j]at hE
       exact fin 10 (by rw[E3,hE];rfl) (by decide)
      | false =>
       rw[j,if_neg (by decide)]at hE
       have E4:Vk c=if Kf c=false then 12 else if Fp c=false then 16 else if Hd c then 3 else if (Nh c).length>1048576 then 8 else 0:=by
        rw[E3,if_neg (fun h=>h hE)]
       rw[cf,Fl,ct,Cs,Akr hN d hI.o]
       cases q:Kf c with
       |false=>exact fin 12 (by rw[E4,if_pos q]) (by decide)
       | true =>
        have E5:Vk c=if Fp c=false then 16 else if Hd c then 3 else if (Nh c).length>1048576 then 8 else 0:=by
         rw[E4,if_neg (by rw[q];decide)]
        rw[show(!true)=false from rfl,cf,Ix]
        refine(tS (by omega) c.outs.l.length 0 N (by omega) (by omega)).trans ?_
        rw[A5k,show c.outs.l.all od=Fp c from rfl]
        cases t:Fp c with
        |false=>exact fin 16 (by rw[E5,if_pos t]) (by decide)
        | true =>
         have E6:Vk c=if Hd c then 3 else if (Nh c).length>1048576 then 8 else 0:=by
          rw[E5,if_neg (by rw[t];decide)]
         rw[ct]
         have u:∀ l∈B5 c,∀ s∈l,A9 s=true:=by
          simp only[A5n]at n
          exact n
         have rd:Ready 1000000000 c:=⟨hI,fun l A s hs=>by
          have:=u l A s hs
          unfold A9 at this
          simp only[A47,decide_eq_true_eq]at this
          exact this.2.1,q,d⟩
         rw[Aod hF hx hN rd t]
         cases y:Hd c with
         |true=>exact fin 3 (by rw[E6,if_pos y]) (by decide)
         | false =>
          have E7:Vk c=if (Nh c).length>1048576 then 8 else 0:=by
           rw[E6,if_neg (by rw[y];decide)]
          rw[cf]
          by_cases z:(Nh c).length>1048576
          ·rw[decide_eq_true (show(((Nh c).length:Nat):Int)>1048576 by omega)]
           exact fin 8 (by rw[E7,if_pos z]) (by decide)
          ·have E8:Vk c=0:=by rw[E7,if_neg z]
           rw[decide_eq_false (show ¬ (((Nh c).length:Nat):Int)>1048576 by omega),cf]
           unfold tt;rw[E8,if_pos rfl]
end
end Gx.Ct
namespace Gx
open Go Go.Proofs
section
variable{R:Type}
def Ye(x y:Nat):Int:=if x<y then -1 else if y<x then 1 else 0
def UQ(x:Nat):Ye x x=0:=by unfold Ye;simp
def YN{a b:Nat}(h:(Bj a).length<(Bj b).length):a<b:=Nat.lt_of_not_le fun d=>by have:=Mz d;omega
def vB{u w p q P:Nat}(d:u<P)(e:w<P)(h:p<q):u+P*p<w+P*q:=by
 have:P*(p+1)<=P*q:=A7m _ h
 rw[A6q]at this
 omega
def Acn{N:Nat}{x y:List Nat}{t u:Bool}{K:Int->O R}(hx:A7 x)(f:A7 y)(hs:x.length<=1000000000000)(k:x.length=y.length):∀(i fuel:Nat),i<=x.length->i<fuel ->
  Hn N K (A2 x) x.length t (A2 y) y.length u fuel ((i:Int) - 1)=K (Ye (val (x.take i)) (val (y.take i)))
|0,fuel+1,_,_=>by
  rw[Hn];unfold Ru
  rw[show decide ((((0:Nat):Int) - 1)>=0)=false by simp,cf]
  simp[UQ]
| i+1,fuel+1,hi,l=>by
  rw[Hn];unfold Ru
  rw[show(((i+1:Nat):Int) - 1)=(i:Int) by omega,show decide ((i:Int)>=0)=true by simp,ct,Aa (by omega),ct,Ae9 (by omega),Aa (by omega),ct,Ae9 (by omega),ct,Ae9 (by omega),ct,Ae9 (by omega),i64 (by omega),
   Acn hx f hs k i fuel (by omega) (by omega),Dh (by omega),Dh (by omega)]
  have d:=O3 (O2 hx i)
  have e:=O3 (O2 f i)
  rw[A58,A6g (by omega)]at d e
  by_cases c1:x[i]<y[i]
  ·have:=vB d e c1
   rw[show decide (((x[i]:Nat):Int)<((y[i]:Nat):Int))=true by simp;exact c1,ct]
   unfold Ye;rw[if_pos this]
  ·by_cases j:y[i]<x[i]
   ·have:=vB e d j
    rw[show decide (((x[i]:Nat):Int)<((y[i]:Nat):Int))=false by simp;omega,cf,show decide (((x[i]:Nat):Int)>((y[i]:Nat):Int))=true by simp;exact j,ct]
    unfold Ye;rw[if_neg (by omega),if_pos this]
   ·have:x[i]=y[i]:=by omega
    rw[show decide (((x[i]:Nat):Int)<((y[i]:Nat):Int))=false by simp;omega,cf,show decide (((x[i]:Nat):Int)>((y[i]:Nat):Int))=false by simp;omega,cf,this]
    unfold Ye
    congr 1
    by_cases a1:val (x.take i)<val (y.take i)
    ·rw[if_pos a1,if_pos (by omega)]
    ·by_cases a2:val (y.take i)<val (x.take i)
     ·rw[if_neg a1,if_pos a2,if_neg (by omega),if_pos (by omega)]
     ·rw[if_neg a1,if_neg a2,if_neg (by omega),if_neg (by omega)]
def Aco{N:Nat}{a b:List Nat}{n m:Nat}{t o t' o':Bool}{K:Int->O R}(hn:n=a.length)(k:m=b.length)(e:A7 a)(f:A7 b)(d:fit (a.length+b.length) N):
  V6 N (A2 a) n t o (A2 b) m t' o' K=K (Ye (val a) (val b)):=by
 subst hn k
 have q:=d.1;have s:=d.2
 rw[OY];unfold Yv
 dsimp only
 rw[Em rfl e (d.le (by omega)),Em rfl f (d.le (by omega))]
 have la:=(Iy e).2
 have lb:=(Iy f).2
 by_cases j:(Bj (val a)).length=(Bj (val b)).length
 ·rw[show((((Bj (val a)).length:Nat):Int) != (((Bj (val b)).length:Nat):Int))=false by simp;omega,cf,i64 (by omega),Acn (Ba _) (Ba _) (by omega) j _ N (A49 _) (by omega),A6c,j,A6c,Bc,Bc]
 ·rw[show((((Bj (val a)).length:Nat):Int) != (((Bj (val b)).length:Nat):Int))=true by simp;omega,ct]
  by_cases l:(Bj (val a)).length<(Bj (val b)).length
  ·have:=YN l
   rw[show decide ((((Bj (val a)).length:Nat):Int)<(((Bj (val b)).length:Nat):Int))=true by simp;omega,ct]
   unfold Ye;rw[if_pos this]
  ·have:=YN (show(Bj (val b)).length<(Bj (val a)).length by omega)
   rw[show decide ((((Bj (val a)).length:Nat):Int)<(((Bj (val b)).length:Nat):Int))=false by simp;omega,cf]
   unfold Ye;rw[if_neg (by omega),if_pos this]
def yi{N:Nat}{a:List Nat}{n:Nat}{t o:Bool}{K:Int->O R}(hn:n=a.length)(f:A7 a)(d:fit a.length N):BF N (A2 a) n t o K=K (Ye (val a) 0):=by
 subst hn
 have j:=d.1;have k:=d.2
 rw[dM];unfold OZ
 dsimp only
 rw[Em rfl f d,Aro (by omega)]
 by_cases e:val a=0
 ·rw[e,He,UQ]
  cases N with
  |zero=>omega
  |succ N =>
   rw[V7];unfold LN
   rw[i64 (by simp)];simp
 ·have l:(Bj (val a)).length≠0:=fun h=>e (Fq.1 h)
  rw[show((((Bj (val a)).length:Nat):Int) != (0:Int))=true by simp;exact fun h=>e (wb.1 h),ct]
  rw[show decide ((((Bj (val a)).length:Nat):Int)<(0:Int))=false by simp,cf]
  unfold Ye;rw[if_neg (by omega),if_pos (by omega)]
def vC:∀{S:List Nat}{d v:Nat}(h:d<S.length),val (S.set d v)+4294967296 ^ d*S[d]=val S+4294967296 ^ d*v
|x::r,0,v,_=>by simp[val];omega
|x::r,d+1,v,h=>by
  have e:=vC (S:=r) (d:=d) (v:=v) (by simpa using h)
  simp only[List.set_cons_succ,val,A8g,A51]
  have e1:∀ y,4294967296 ^ d*4294967296*y=4294967296*(4294967296 ^ d*y):=fun y=>by rw[A60 (4294967296 ^ d),A6r]
  rw[e1,e1]
  omega
def UR(b:List Nat)(d:Nat):val (b.take (d+1))=val (b.take d)+4294967296 ^ d*b.getD d 0:=by
 by_cases h:d<b.length
 ·rw[Dh h,A5f,A46 h];rfl
 ·rw[A44 (by omega),A44 (by omega),A5f,A6x (by omega)];simp
def fM(P s:Nat):P*(s%4294967296)+P*4294967296*(s/4294967296)=P*s:=by rw[A6r,<-A6q,Baf,A7n]
def Awq(S:List Nat)(d:Nat):Prop:=∀ j (h:j<S.length),d<=j->S[j]=0
def gc{S:List Nat}{d v:Nat}(h:Awq S d):Awq (S.set d v) (d+1):=fun j e f=>by
 rw[List.getElem_set]
 rw[if_neg (by omega)]
 exact h j (by simpa using e) (by omega)
def DU(n:Nat):Awq (replicate n 0) 0:=fun j d _=>by simp
def gd{S:List Nat}{d v:Nat}(h:Awq S d)(e:d<S.length):val (S.set d v)=val S+4294967296 ^ d*v:=by
 have:=vC (v:=v) e
 rw[h d e (A49 _)]at this;simpa using this
def A4v{a:Nat}(h:a<=1000000000000):wrap .i64 ((a:Int)+(1:Int))=((a+1:Nat):Int):=wS h
def A3l{x:Nat}{m:List Nat}(h:x<m.length):((beq 1 1)&&((ble ((0+(x*1))+1) (List.length (A2 m)))&&(!false)))=true:=by rw[F5];simp;omega
def A09{x v:Nat}{m:List Nat}:List.set (A2 m) (0+(x*1)) (.int .u32 (v:Int))=A2 (m.set x v):=by rw[A5m,A5j,Ail]
def yj{N:Nat}{a b:List Nat}{t u:Bool}(y:A7 a)(z:A7 b)(k:fit (a.length+1) N)(l:b.length<=a.length):∀(m d fuel:Nat)(S:List Nat)(c:Nat),d+m=a.length->m<fuel->A7 S->S.length=a.length+1->Awq S d->c<=1 ->
  val S+4294967296 ^ d*c=val (a.take d)+val (b.take d) ->
  ∃ S',A7 S'/\S'.length=a.length+1/\val S'=val a+val b/\∀ K:Nat->LA->O R,BE N K (A2 a) a.length t (A2 b) b.length u fuel (a.length+1) (c:Int) (a.length:Int) (d:Int) (A2 S)=K (Bj (val a+val b)).length (A2 S')
| 0,d,fuel+1,S,c,M,_,hS,n,q,T,L=>by
  have U:=k.1;have V:=k.2
  have A:d=a.length:=by omega
  subst A
  have v:val (S.set a.length c)=val a+val b:=by
   rw[gd q (by omega),L,A6c,A44 l]
  have x:=Qx hS (show c<4294967296 by omega) a.length
  refine⟨S.set a.length c,x,by simpa using n,v,fun K=>?_⟩
  rw[BE];unfold LL
  rw[Fk (A49 _),cf,Aa (by omega),ct,A3l (by omega),ct,Ayq (by omega),A09,xE (by simp;omega) x (by simp only[List.length_set,n];exact k),v]
| m+1,d,fuel+1,S,c,M,X,hS,n,q,T,L=>by
  have U:=k.1;have V:=k.2
  have f:d<a.length:=by omega
  have ad:=Ld y f
  have step:∀ s:Nat,s<8589934592->s=c+a[d]+b.getD d 0->val (S.set d (s%4294967296))+4294967296 ^ (d+1)*(s/4294967296)=val (a.take (d+1))+val (b.take (d+1)):=by
   intro s _ hs
   rw[gd q (by omega),Dh f,UR b d,A51]
   have e:=fM (4294967296 ^ d) s
   have Y:4294967296 ^ d*s=4294967296 ^ d*c+4294967296 ^ d*a[d]+4294967296 ^ d*b.getD d 0:=by rw[hs,A6q,A6q]
   omega
  by_cases j:d<b.length
  ·have bd:=Ld z j
   have C:b.getD d 0=b[d]:=by rw[A5f,A46 j];rfl
   obtain⟨S',D,F,G,I⟩:=yj (t:=t) (u:=u) y z k l m (d+1) fuel (S.set d ((c+a[d]+b[d])%4294967296)) ((c+a[d]+b[d])/4294967296) (by omega) (by omega) (Qx hS (by omega) d) (by simpa using n) (gc q) (by omega) (step _ (by omega) (by rw[C]))
   refine⟨S',D,F,G,fun K=>?_⟩
   rw[BE];unfold LL
   rw[Er f,ct,Aa f,ct,Ae9 f,Er j,ct,Aa j,ct,Ae9 j,Aa (by omega),ct,Apf (by omega),ct,RD (by omega),RD (by omega),Aeq,RD (by omega),Aeq,RD (by omega),Amw,Aim,xC,wS (by omega)]
   exact I K
  ·have C:b.getD d 0=0:=by rw[A5f,A6x (by omega)];rfl
   obtain⟨S',D,F,G,I⟩:=yj (t:=t) (u:=u) y z k l m (d+1) fuel (S.set d ((c+a[d])%4294967296)) ((c+a[d])/4294967296) (by omega) (by omega) (Qx hS (by omega) d) (by simpa using n) (gc q) (by omega) (step _ (by omega) (by rw[C];rfl))
   refine⟨S',D,F,G,fun K=>?_⟩
   rw[BE];unfold LL
   rw[Er f,ct,Aa f,ct,Ae9 f,Fk (by omega),cf,Aa (by omega),ct,Apf (by omega),ct,RD (by omega),Aeq,RD (by omega),Amw,Aim,xC,wS (by omega)]
   exact I K
def Au9{N:Nat}{a b:List Nat}{t u:Bool}(f:A7 a)(j:A7 b)(d:fit (a.length+1) N)(e:b.length<=a.length):
  ∃ S',A7 S'/\val S'=val a+val b/\∀ K:Nat->LA->O R,TJ N K (A2 a) a.length t (A2 b) b.length u=K (Bj (val a+val b)).length (A2 S'):=by
 have n:=d.1;have q:=d.2
 obtain⟨S',k,_,l,m⟩:=yj (R:=R) (t:=t) (u:=u) f j d e a.length 0 N (replicate (a.length+1) 0) 0 (by omega) (by omega) (Le _) (by simp) (DU _) (by omega) (by rw[My];simp[val])
 refine⟨S',k,l,fun K=>?_⟩
 unfold TJ kX
 rw[A4v (by omega),Azn (by omega),ct,A45,N7]
 exact m K
def Ava{N:Nat}{a b:List Nat}{n m:Nat}{t o t' o':Bool}(hn:n=a.length)(q:m=b.length)(f:A7 a)(j:A7 b)(d:fit (a.length+b.length+1) N):
  ∃ S',A7 S'/\val S'=val a+val b/\∀ K:Nat->LA->O R,wz N (A2 a) n t o (A2 b) m t' o' K=K (Bj (val a+val b)).length (A2 S'):=by
 subst hn q
 have la:=(Iy f).2
 have lb:=(Iy j).2
 by_cases s:(Bj (val a)).length<(Bj (val b)).length
 ·obtain⟨S',k,e,l⟩:=Au9 (R:=R) (N:=N) (a:=Bj (val b)) (b:=Bj (val a)) (t:=o') (u:=o) (Ba _) (Ba _) (d.le (by omega)) (by omega)
  rw[Bc,Bc,Baf]at e
  refine⟨S',k,e,fun K=>?_⟩
  rw[kY];unfold mj
  rw[Em rfl f (d.le (by omega)),Em rfl j (d.le (by omega)),Er s,ct,l,Bc,Bc,Baf (val b)]
 ·obtain⟨S',k,e,l⟩:=Au9 (R:=R) (N:=N) (a:=Bj (val a)) (b:=Bj (val b)) (t:=o) (u:=o') (Ba _) (Ba _) (d.le (by omega)) (by omega)
  rw[Bc,Bc]at e
  refine⟨S',k,e,fun K=>?_⟩
  rw[kY];unfold mj
  rw[Em rfl f (d.le (by omega)),Em rfl j (d.le (by omega)),Fk (by omega),cf,l,Bc,Bc]
def Acp{x y:Nat}(hx:x<4294967296)(e:y<=4294967296):∃ d c:Nat,d<4294967296/\c<=1/\x+4294967296*c=d+y/\wrap .u32 (wrap .u64 ((x:Int) - (y:Int)))=(d:Int)/\Int.fdiv (wrap .u64 ((x:Int) - (y:Int))) (2 ^ 63)=(c:Int):=by
 by_cases h:y<=x
 ·refine⟨x - y,0,by omega,by omega,by omega,?_,?_⟩
  ·rw[Aer (by omega) h,Ayq (by omega)]
  ·rw[Aer (by omega) h,A05,A7h (by omega)]
 ·refine⟨x+4294967296 - y,1,by omega,by omega,by omega,?_,?_⟩
  ·rw[Auh (by omega) (by omega),Aim];congr 1;omega
  ·rw[Auh (by omega) (by omega),A05];congr 1;omega
def Axl{x c w:Nat}(hx:x<4294967296)(d:c<=1)(e:w<4294967296):wrap .u64 ((wrap .u64 ((x:Int) - (c:Int))) - (w:Int))=wrap .u64 ((x:Int) - ((c+w:Nat):Int)):=by rw[mX,mX,mX];omega
def yk{N:Nat}{a b:List Nat}{t u:Bool}(A:A7 a)(C:A7 b)(q:fit a.length N)(l:b.length<=a.length)(s:val b<=val a):∀(m d fuel:Nat)(S:List Nat)(c:Nat),d+m=a.length->m<fuel->A7 S->S.length=a.length->Awq S d->c<=1 ->
  val S+val (b.take d)=val (a.take d)+4294967296 ^ d*c ->
  ∃ S',A7 S'/\val S'=val a - val b/\∀ K:Nat->Bool->LA->O R,Xv N K (A2 b) b.length t a.length (A2 a) u fuel (c:Int) (a.length:Int) (d:Int) (A2 S)=K (Bj (val a - val b)).length true (A2 S')
| 0,d,fuel+1,S,c,hd,_,hS,n,z,hc,hv=>by
  have D:d=a.length:=by omega
  subst D
  rw[A6c,A44 l]at hv
  have F:=O3 hS
  rw[n]at F
  have G:c=0:=by
   rcases A8t 0 c with h|h
   ·exfalso
    have:c=1:=by omega
    subst this
    omega
   ·omega
  subst G
  have v:val S=val a - val b:=by omega
  refine⟨S,hS,v,fun K=>?_⟩
  rw[Xv];unfold LM
  rw[Fk (A49 _),cf,xE n.symm hS (by rw[n];exact q),v]
| m+1,d,fuel+1,S,c,hd,hfu,hS,n,z,hc,hv=>by
  have h1:=q.1;have h2:=q.2
  have f:d<a.length:=by omega
  have ad:=Ld A f
  have step:∀ y g k:Nat,y=c+b.getD d 0->a[d]+4294967296*k=g+y->val (S.set d g)+val (b.take (d+1))=val (a.take (d+1))+4294967296 ^ (d+1)*k:=by
   intro y g k hy x
   rw[gd z (by omega),Dh f,UR b d,A51,A6r]
   have e:4294967296 ^ d*(a[d]+4294967296*k)=4294967296 ^ d*(g+(c+b.getD d 0)):=by rw[x,hy]
   rw[A6q,A6q,A6q]at e
   omega
  by_cases j:d<b.length
  ·have bd:=Ld C j
   have x:b.getD d 0=b[d]:=by rw[A5f,A46 j];rfl
   obtain⟨g,k,I,L,M,T,U⟩:=Acp ad (show c+b[d]<=4294967296 by omega)
   obtain⟨S',V,X,Y⟩:=yk (t:=t) (u:=u) A C q l s m (d+1) fuel (S.set d g) k (by omega) (by omega) (Qx hS I d) (by simpa using n) (gc z) L (step _ _ _ (by rw[x]) M)
   refine⟨S',V,X,fun K=>?_⟩
   rw[Xv];unfold LM
   rw[Er f,ct,Aa f,ct,Ae9 f,Er j,ct,Aa j,ct,Ae9 j,ct,Apf (by omega),ct,RD (show a[d]<18446744073709551616 by omega),RD (show b[d]<18446744073709551616 by omega),Axl ad hc bd,T,U,xC,wS (by omega)]
   exact Y K
  ·have x:b.getD d 0=0:=by rw[A5f,A6x (by omega)];rfl
   obtain⟨g,k,I,L,M,T,U⟩:=Acp ad (show c<=4294967296 by omega)
   obtain⟨S',V,X,Y⟩:=yk (t:=t) (u:=u) A C q l s m (d+1) fuel (S.set d g) k (by omega) (by omega) (Qx hS I d) (by simpa using n) (gc z) L (step _ _ _ (by rw[x];rfl) M)
   refine⟨S',V,X,fun K=>?_⟩
   rw[Xv];unfold LM
   rw[Er f,ct,Aa f,ct,Ae9 f,Fk (by omega),cf,ct,Apf (by omega),ct,RD (show a[d]<18446744073709551616 by omega),T,U,xC,wS (by omega)]
   exact Y K
def Akv{N:Nat}{a b:List Nat}{n m:Nat}{t o t' o':Bool}(hn:n=a.length)(q:m=b.length)(j:A7 a)(k:A7 b)(d:fit (a.length+b.length) N)(e:val b<=val a):
  ∃ S',A7 S'/\val S'=val a - val b/\∀ K:Nat->Bool->LA->O R,kZ N (A2 a) n t o (A2 b) m t' o' K=K (Bj (val a - val b)).length true (A2 S'):=by
 subst hn q
 have x:=d.1;have y:=d.2
 have la:=(Iy j).2
 have lb:=(Iy k).2
 have f:=Mz e
 obtain⟨S',s,l,v⟩:=yk (R:=R) (N:=N) (a:=Bj (val a)) (b:=Bj (val b)) (t:=o') (u:=o) (Ba _) (Ba _) (d.le (by omega)) f (by rw[Bc,Bc];exact e) (Bj (val a)).length 0 N (replicate (Bj (val a)).length 0) 0 (by omega) (by omega) (Le _) (by simp) (DU _) (by omega) (by rw[My];simp[val])
 rw[Bc,Bc]at l
 refine⟨S',s,l,fun K=>?_⟩
 rw[k_];unfold mm
 dsimp only
 rw[Em rfl j (d.le (by omega)),Em rfl k (d.le (by omega)),Aco rfl rfl (Ba _) (Ba _) (d.le (by omega)),Bc,Bc]
 have:decide (Ye (val a) (val b)<0)=false:=by unfold Ye;split<;>(try split)<;>simp<;>omega
 rw[this,cf,Azn (by omega),ct,N7]
 have:=v K
 rw[Bc,Bc]at this
 exact this
def Avb{N:Nat}{a b:List Nat}{n m:Nat}{t o t' o':Bool}{K:Nat->Bool->LA->O R}(hn:n=a.length)(k:m=b.length)(f:A7 a)(j:A7 b)(d:fit (a.length+b.length) N)(e:val a<val b):
  kZ N (A2 a) n t o (A2 b) m t' o' K=K 0 false []:=by
 subst hn k
 have la:=(Iy f).2
 have lb:=(Iy j).2
 rw[k_];unfold mm
 dsimp only
 rw[Em rfl f (d.le (by omega)),Em rfl j (d.le (by omega)),Aco rfl rfl (Ba _) (Ba _) (d.le (by omega)),Bc,Bc]
 have:decide (Ye (val a) (val b)<0)=true:=by unfold Ye;rw[if_pos e];rfl
 rw[this,ct]
def Asb{n:Nat}(h:n≠0):((n:Int)==(0:Int))=false:=by rw[beq_eq_false_iff_ne];omega
def Avc:∀{S:List Nat}{j:Nat}(h:j<S.length),4294967296 ^ j*S[j]<=val S
|x::r,0,_=>by simp[val]
|x::r,j+1,h=>by
  have:=Avc (S:=r) (j:=j) (by simpa using h)
  simp only[A8g,val,A51]
  rw[A60 (4294967296 ^ j),A6r]
  omega
def Azy{S:List Nat}{k:Nat}(h:val S<4294967296 ^ k):Awq S k:=fun j e f=>by
 have l:=Avc e
 have m:4294967296 ^ k<=4294967296 ^ j:=A54 (by omega) f
 rcases A6w S[j]with d|d
 ·exact d
 ·have:=A9c (4294967296 ^ j) d
  omega
def Avd{p q y s:Nat}(d:p<4294967296)(hq:q<4294967296)(e:y<4294967296)(hs:s<4294967296):p+(q*y+s)<18446744073709551616:=by
 have:q*y<=4294967295*4294967295:=A9y (by omega) (by omega)
 omega
def Ave{N:Nat}{x y:List Nat}{c d:Bool}{f q J:Nat}(G:A7 y)(hq:q<4294967296)(L:f<x.length)(hs:x.length+y.length<=1000000000000):∀(m l fuel:Nat)(S:List Nat)(p:Nat)(v:Nat),l+m=y.length->m<fuel->A7 S->S.length=x.length+y.length->Awq S (f+y.length)->p<4294967296 ->
  val S+4294967296 ^ (f+l)*p=v+4294967296 ^ f*(q*val (y.take l)) ->
  ∃ S',A7 S'/\S'.length=x.length+y.length/\val S'=v+4294967296 ^ f*(q*val y)/\∀(t:Nat->Int->Int->LA->O R)(K:Nat->LA->O R),BD N t K (A2 y) y.length d (x.length+y.length) (f:Int) (q:Int) (A2 x) x.length c (J:Int) fuel (p:Int) (y.length:Int) (l:Int) (A2 S)=t (x.length+y.length) J ((f+1:Nat):Int) (A2 S')
|0,l,fuel+1,S,p,v,M,_,hS,k,A,z,C=>by
  have D:l=y.length:=by omega
  subst D
  rw[A6c]at C
  refine⟨S.set (f+y.length) p,Qx hS z _,by simpa using k,by rw[gd A (by omega),C],fun t K=>?_⟩
  rw[BD];unfold WO
  rw[Fk (A49 _),cf,wA (by omega),Aa (by omega),ct,Apf (by omega),ct,Ayq z,xC,wS (by omega)]
| m+1,l,fuel+1,S,p,v,M,T,hS,k,A,z,C=>by
  have n:l<y.length:=by omega
  have yl:=Ld G n
  have hi:f+l<S.length:=by omega
  have sl:=Ld hS hi
  have U:=Avd z hq yl sl
  have F:q*y[l]<18446744073709551616:=by omega
  generalize u:p+(q*y[l]+S[f+l])=s at *
  have I:=vC (v:=s%4294967296) hi
  have key:val (S.set (f+l) (s%4294967296))+4294967296 ^ (f+(l+1))*(s/4294967296)=v+4294967296 ^ f*(q*val (y.take (l+1))):=by
   rw[Dh n,<-A6l f l 1,A51]
   have e:=fM (4294967296 ^ (f+l)) s
   have e2:4294967296 ^ (f+l)*s=4294967296 ^ (f+l)*p+(4294967296 ^ (f+l)*(q*y[l])+4294967296 ^ (f+l)*S[f+l]):=by rw[<-u,A6q,A6q]
   have e3:4294967296 ^ f*(q*(val (y.take l)+4294967296 ^ l*y[l]))=4294967296 ^ f*(q*val (y.take l))+4294967296 ^ (f+l)*(q*y[l]):=by
    rw[A6q,A6q,A7z]
    congr 1
    rw[A6r];congr 1
    rw[<-A6r,<-A6r,A60 q]
   omega
  obtain⟨S',V,X,Y,q4⟩:=Ave (N:=N) (x:=x) (c:=c) (d:=d) (J:=J) G hq L hs m (l+1) fuel (S.set (f+l) (s%4294967296)) (s/4294967296) v (by omega) (by omega) (Qx hS (by omega) _) (by simpa using k) (fun j hj hk=>by
   rw[List.getElem_set,if_neg (by omega)];exact A j (by simpa using hj) hk) (by omega) key
  refine⟨S',V,X,Y,fun t K=>?_⟩
  rw[BD];unfold WO
  rw[Er n,ct,Aa n,ct,Ae9 n,wA (by omega),Aa (by omega),ct,qK hi,ct,Apf hi,ct,RD (show q<18446744073709551616 by omega),RD (show y[l]<18446744073709551616 by omega),RD (show S[f+l]<18446744073709551616 by omega),Azk,RD F,Aeq,RD (by omega),Aeq,u,RD U,Amw,Aim,xC,wS (by omega)]
  exact q4 t K
def Agp{N:Nat}{x y:List Nat}{c d:Bool}(hx:A7 x)(t:A7 y)(j:fit (x.length+y.length) N):∀(m f fuel:Nat)(S:List Nat),f+m=x.length->m<fuel->A7 S->S.length=x.length+y.length ->
  val S=val (x.take f)*val y ->
  ∃ S',A7 S'/\val S'=val x*val y/\∀ K:Nat->LA->O R,Uj N K (A2 y) y.length d (A2 x) x.length c fuel (x.length+y.length) (x.length:Int) (f:Int) (A2 S)=K (Bj (val x*val y)).length (A2 S')
|0,f,fuel+1,S,F,_,hS,k,s=>by
  have u:f=x.length:=by omega
  subst u
  rw[A6c]at s
  refine⟨S,hS,s,fun K=>?_⟩
  rw[Uj];unfold LK
  rw[Fk (A49 _),cf,xE k.symm hS (by rw[k];exact j),s]
| m+1,f,fuel+1,S,F,G,hS,k,s=>by
  have V:=j.1;have X:=j.2
  have e:f<x.length:=by omega
  have xf:=Ld hx e
  have D:=O3 (O2 hx f)
  rw[A58,A6g (by omega)]at D
  have I:=O3 t
  have n:val S<4294967296 ^ (f+y.length):=by
   rw[s,A7z];exact A9d D I
  have l:val (x.take (f+1))*val y=val S+4294967296 ^ f*(x[f]*val y):=by
   rw[Dh e,A62,s,A6r]
  by_cases v:x[f]=0
  ·obtain⟨S',z,A,C⟩:=Agp (c:=c) (d:=d) hx t j m (f+1) fuel S (by omega) (by omega) hS k (by rw[l,v];simp)
   refine⟨S',z,A,fun K=>?_⟩
   rw[Uj];unfold LK
   rw[Er e,ct,Aa e,ct,Ae9 e,show(((x[f]:Nat):Int)==0)=true by simp[v],ct,wS (by omega)]
   exact C K
  ·obtain⟨S1,L,M,T,U⟩:=Ave (R:=R) (N:=N) (x:=x) (y:=y) (c:=c) (d:=d) (f:=f) (q:=x[f]) (J:=x.length) t xf e (by omega) y.length 0 N S 0 (val S) (by omega) (by omega) hS k (Azy n) (by omega) (by simp[val])
   obtain⟨S',z,A,C⟩:=Agp (c:=c) (d:=d) hx t j m (f+1) fuel S1 (by omega) (by omega) L M (by rw[T,l])
   refine⟨S',z,A,fun K=>?_⟩
   rw[Uj];unfold LK
   rw[Er e,ct,Aa e,ct,Ae9 e,show(((x[f]:Nat):Int)==0)=false by simp;exact v,cf]
   have:=U (Uj N K (A2 y) y.length d (A2 x) x.length c fuel) K
   simp only[A7s]at this
   dsimp only
   rw[this]
   exact C K
def Avf{N:Nat}{a b:List Nat}{n m:Nat}{t o t' o':Bool}(hn:n=a.length)(s:m=b.length)(k:A7 a)(l:A7 b)(e:fit (a.length+b.length) N):
  ∃ S',A7 S'/\val S'=val a*val b/\∀ K:Nat->LA->O R,wv N (A2 a) n t o (A2 b) m t' o' K=K (Bj (val a*val b)).length (A2 S'):=by
 subst hn s
 have z:=e.1;have A:=e.2
 have la:=(Iy k).2
 have lb:=(Iy l).2
 by_cases f:val a=0
 ·refine⟨[],TE,by rw[f];simp[val],fun K=>?_⟩
  rw[WP];unfold gC
  dsimp only
  rw[Em rfl k (e.le (by omega)),Em rfl l (e.le (by omega)),f,A70,He];rfl
 ·by_cases j:val b=0
  ·refine⟨[],TE,by rw[j];simp[val],fun K=>?_⟩
   rw[WP];unfold gC
   dsimp only
   rw[Em rfl k (e.le (by omega)),Em rfl l (e.le (by omega)),j,Nat.mul_zero,He]
   cases ((((Bj (val a)).length:Nat):Int)==0)<;>rfl
  ·obtain⟨S',u,q,v⟩:=Agp (R:=R) (N:=N) (x:=Bj (val a)) (y:=Bj (val b)) (c:=o) (d:=o') (Ba _) (Ba _) (e.le (by omega)) (Bj (val a)).length 0 N (replicate ((Bj (val a)).length+(Bj (val b)).length) 0) (by omega) (by omega) (Le _) (by simp) (by rw[My];simp[val])
   rw[Bc,Bc]at q
   refine⟨S',u,q,fun K=>?_⟩
   rw[WP];unfold gC
   dsimp only
   have n1:(Bj (val a)).length≠0:=fun h=>f (Fq.1 h)
   have n2:(Bj (val b)).length≠0:=fun h=>j (Fq.1 h)
   rw[Em rfl k (e.le (by omega)),Em rfl l (e.le (by omega)),Asb n1,show((false:Bool)==false)=true by rfl,ct,A4i,Asb n2,cf]
   unfold gA kW
   rw[wA (by omega),Azn (by omega),ct,A45,N7]
   have:=v K
   rw[Bc,Bc]at this
   exact this
def Ap7{v:Nat}(h:(Bj v).length<=2):v<18446744073709551616:=by
 have:=O3 (Ba v)
 rw[Bc]at this
 have d:4294967296 ^ (Bj v).length<=4294967296 ^ 2:=A54 (by omega) h
 omega
def ge{v:Nat}(h:v<18446744073709551616):(Bj v).length<=2:=LD (by simpa using h)
def BZ{N:Nat}{l:List Nat}{n:Nat}{t o:Bool}{K:Int->O R}(hn:n=l.length)(d:A7 l)(f:l.length<=2)(hN:4<=N):nW N (A2 l) n t o K=K (val l:Int):=by
 subst hn
 obtain⟨M,rfl⟩:∃ M,N=M+4:=⟨N - 4,by omega⟩
 rw[sR];unfold nV
 match l,d,f with
|[],_,_ =>
  rw[Nb];unfold Oi
  simp[val]
|[x],d,_ =>
  have hx:=(Gm.1 d).1
  rw[Nb];unfold Oi
  simp only[A42,A43,Int.toNat_zero,A70,A5k,ft,C1]
  rw[show decide ((0:Int)<((0+1:Nat):Int))=true by decide,ct,show Ac 0 (0+1)=true by decide,ct,show wrap .i64 ((32:Int)*0)=0 by decide,show decide ((0:Int)<0)=false by decide,cf]
  rw[Nb];unfold Oi
  rw[show wrap .i64 ((0:Int)+1)=1 by decide,show decide ((1:Int)<((0+1:Nat):Int))=false by decide,cf]
  have e:wrap .u64 ((wrap .u64 (x:Int))*2 ^ (min (Int.toNat 0) 64))=(x:Int):=by rw[RD (by omega)];simp;exact RD (by omega)
  rw[e,show(0:Int)=((0:Nat):Int) by rfl,Aw7 (by omega) (by omega)]
  simp[val]
| [x,y],d,_ =>
  have hx:=(Gm.1 d).1
  have k:=(Gm.1 (Gm.1 d).2).1
  rw[Nb];unfold Oi
  simp only[A42,A43,Int.toNat_zero,A70,A5k,ft,C1]
  rw[show decide ((0:Int)<((0+1+1:Nat):Int))=true by decide,ct,show Ac 0 (0+1+1)=true by decide,ct,show wrap .i64 ((32:Int)*0)=0 by decide,show decide ((0:Int)<0)=false by decide,cf]
  rw[Nb];unfold Oi
  rw[show wrap .i64 ((0:Int)+1)=1 by decide,show decide ((1:Int)<((0+1+1:Nat):Int))=true by decide,ct,show Ac 1 (0+1+1)=true by decide,ct,show wrap .i64 ((32:Int)*1)=32 by decide,show decide ((32:Int)<0)=false by decide]
  simp only[show Int.toNat 1*1=1 by rfl,A6e,A5k,C1,cf]
  rw[Nb];unfold Oi
  rw[show wrap .i64 ((1:Int)+1)=2 by decide,show decide ((2:Int)<((0+1+1:Nat):Int))=false by decide,cf]
  have e:wrap .u64 ((wrap .u64 (x:Int))*2 ^ (min (Int.toNat 0) 64))=(x:Int):=by rw[RD (by omega)];simp;exact RD (by omega)
  have j:wrap .u64 ((wrap .u64 (y:Int))*2 ^ (min (Int.toNat 32) 64))=((y*2 ^ 32:Nat):Int):=by
   rw[RD (by omega),show(2:Int) ^ (min (Int.toNat 32) 64)=((2 ^ 32:Nat):Int) by rfl,Azk,RD (by omega)]
  rw[e,j,show(0:Int)=((0:Nat):Int) by rfl,Aw7 (by omega) (by omega),Aw7 (by simp;omega) (by omega),Nat.zero_or,Nat.or_comm,Amx (by omega)]
  congr 1;simp only[val];omega
def lS{N:Nat}{v:Nat}(f:v<18446744073709551616)(hN:4<=N):∃ S,A7 S/\val S=v/\∀ K:Nat->LA->O R,M3 N (v:Int) K=K (Bj v).length (A2 S):=by
 have e:A7 [v%4294967296,v/4294967296]:=Gm.2 ⟨by omega,Gm.2 ⟨by omega,TE⟩⟩
 have d:val [v%4294967296,v/4294967296]=v:=by simp[val];omega
 refine⟨_,e,d,fun K=>?_⟩
 rw[OW];unfold LJ
 rw[Aim,Amw,Ayq (show v/4294967296<4294967296 by omega)]
 have:=xD (R:=R) (N:=N) (l:=[v%4294967296,v/4294967296]) (K:=fun c=>K c (A2 [v%4294967296,v/4294967296])) e (by simp) 2 N (by simp) (by omega)
 rw[show [v%4294967296,v/4294967296].take 2=[v%4294967296,v/4294967296] by rfl,d]at this
 rw[kU];unfold mh
 exact this
def tT{N:Nat}{l:List Nat}{n:Nat}{t o:Bool}{K:Int->Bool->O R}(hn:n=l.length)(e:A7 l)(d:fit l.length N):TR N (A2 l) n t o K=if val l<18446744073709551616 then K (val l:Int) true else K 0 false:=by
 have j:=d.1
 rw[j8];unfold kq
 rw[Em hn e d]
 by_cases h:val l<18446744073709551616
 ·have:=ge h
  rw[if_pos h,show decide ((((Bj (val l)).length:Nat):Int)>2)=false by simp;omega,cf,BZ rfl (Ba _) this (by omega),Bc]
 ·have:¬ (Bj (val l)).length<=2:=fun f=>h (Ap7 f)
  rw[if_neg h,show decide ((((Bj (val l)).length:Nat):Int)>2)=true by simp;omega,ct]
def Asc{N:Nat}{l:List Nat}{n:Nat}{t o:Bool}{K:Nat->LA->O R}(hn:n=l.length)(e:A7 l)(d:fit l.length N):uz N (A2 l) n t o K=K (Bj (val l)).length (A2 (Bj (val l))):=by
 have f:=d.1;have j:=d.2
 have:=(Iy e).2
 rw[sK];unfold wx
 rw[Em hn e d,Azn (by omega),ct,OR,A7x,ct]
 congr 1
 unfold Gh
 rw[Nat.min_self,A5m,A7t,A50,A44 (by rw[F5];exact A49 _),A7j (by simp[F5]),A5h]
def Acq{X:List Nat}{n:Nat}(h:X.length=n+1):val X=val (X.take n)+4294967296 ^ n*X[n]:=by
 have:=Dh (l:=X) (c:=n) (by omega)
 rwa [A44 (by omega)]at this
def Akw(a b:Nat):Int.tdiv (a:Int) (b:Int)=((a/b:Nat):Int):=rfl
def Akx(a b:Nat):Int.tmod (a:Int) (b:Int)=((a%b:Nat):Int):=rfl
def A3m{a b:Nat}(d:a<4294967296)(e:b<4294967296):rt .u64 (wrap .u64 ((a:Int)*2 ^ 32)) (b:Int)=((a*4294967296+b:Nat):Int):=by rw[show(2:Int) ^ 32=((2 ^ 32:Nat):Int) by rfl,Azk,RD (by omega),Aw7 (by omega) (by omega),Amx (by omega)]
def Avg{l:List Nat}{d:Nat}(h:d<l.length):val (l.drop d)=l[d]+4294967296*val (l.drop (d+1)):=by rw[A6m h,val]
def Aof{S:List Nat}{n:Nat}(hS:A7 S)(h:S.length=n+1):val S<(S[n]+1)*4294967296 ^ n:=by
 have e:=Acq h
 have d:=O3 (O2 hS n)
 rw[A58,A6g (by omega)]at d
 rw[A62,A60 S[n]];omega
def Avh{x y:Nat}(e:1<=y)(h:y<=x):2*(y*(x%y))<=x*y:=by
 have f:=A7n x y
 have j:=A71 x (show 0<y by omega)
 have hq:1<=x/y:=by rw[Nat.le_div_iff_mul_le (by omega)];omega
 have k:y*1<=y*(x/y):=A7m _ hq
 have d:2*(x%y)<=x:=by omega
 have:=A7m y d
 rw[A60 x y,A83];exact this
def rD{a:List Nat}(d:A7 a)(i:Nat):a.getD i 0<4294967296:=by
 by_cases h:i<a.length
 ·rw[A5f,A46 h];exact Ld d h
 ·rw[A5f,A6x (by omega)];simp
def A1a{c:Nat}(h:c<=1000000000000):((ble (0+c) 140737488355328)&&(ble ((0+c)*4) 140737488355328))=true:=by simp;omega
def lT{N:Nat}{l:List Nat}{t o:Bool}{K:Nat->LA->O R}(e:A7 l)(hs:l.length<=1000000000000):∀(c fuel:Nat),c<=l.length->c<fuel ->
  Tb N K (A2 l) l.length t o fuel (c:Int)=K (Bj (val (l.take c))).length (A2 (Bj (val (l.take c))))
|0,fuel+1,f,_=>by
  rw[Tb];unfold IJ
  rw[show decide (((0:Nat):Int)>0)=false by simp]
  rw[show((false:Bool)==true)=false by rfl,cf,A0p (by omega),ct,A45,A5m,fv,OR,A7x,ct,A1a (by omega),ct];rfl
| c+1,fuel+1,f,j=>by
  rw[Tb];unfold IJ
  rw[Azm,ct,wP (by omega),Aa (by omega),ct,Ae9 (by omega),Azl,A0p (by omega),ct,lT e hs c fuel (by omega) (by omega),A45,A5m,fv,OR,A7x,ct,A1a (by omega),ct,A5j]
  by_cases d:l[c]=0
  ·rw[Dh (by omega),d];simp
  ·rw[Afa e (by omega) d,A58,A6g f]
   rw[Asb d,cf]
def H5{N:Nat}{l:List Nat}{n:Nat}{t o:Bool}{K:Nat->LA->O R}(hn:n=l.length)(e:A7 l)(d:fit l.length N):In N (A2 l) n t o K=K (Bj (val l)).length (A2 (Bj (val l))):=by
 subst hn
 have f:=d.1;have j:=d.2
 rw[WI];unfold TF
 rw[lT e (by omega) l.length N (A49 _) (by omega),A6c]
def QO{N:Nat}{v:Nat}{K:Nat->LA->O R}(f:v<18446744073709551616)(hN:4<=N):Kh N (v:Int) K=K (Bj v).length (A2 (Bj v)):=by
 have e:A7 [v%4294967296,v/4294967296]:=Gm.2 ⟨by omega,Gm.2 ⟨by omega,TE⟩⟩
 have d:val [v%4294967296,v/4294967296]=v:=by simp[val];omega
 rw[LF];unfold GD
 rw[Aim,Amw,Ayq (show v/4294967296<4294967296 by omega)]
 have:=lT (R:=R) (N:=N) (l:=[v%4294967296,v/4294967296]) (t:=false) (o:=true) (K:=K) e (by simp) 2 N (by simp) (by omega)
 rw[show [v%4294967296,v/4294967296].take 2=[v%4294967296,v/4294967296] by rfl,d]at this
 rw[WI];unfold TF
 exact this
def JO{N:Nat}{l:List Nat}{n:Nat}{t o:Bool}{K:Int->Bool->O R}(hn:n=l.length)(q:A7 l)(k:fit l.length N):O4 N (A2 l) n t o K=if val l<18446744073709551616 then K (val l:Int) true else K 0 false:=by
 have v:=k.1
 rw[dD];unfold OS
 rw[H5 hn q k]
 by_cases h:val l<18446744073709551616
 ·have s:=ge h
  rw[if_pos h,show decide ((((Bj (val l)).length:Nat):Int)>2)=false by simp;omega,cf]
  have e:=Bc (val l)
  have j:=Ba (val l)
  obtain⟨M,hM⟩:∃ M,N=M+4:=⟨N - 4,by omega⟩
  rw[hM]
  generalize Bj (val l)=d at *
  match d,s,e,j with
  |[],_,e,_ =>
   dsimp only
   rw[Gf];unfold Io
   rw[<-e,i64 (by simp)];rfl
  |[x],_,e,j =>
   have hx:=(Gm.1 j).1
   have f:val l=x:=by rw[<-e];simp[val]
   dsimp only
   rw[Gf];unfold Io
   rw[i64 (by simp),show((([x]:List Nat).length:Nat):Int) - 1=((0:Nat):Int) by rfl,show decide (((0:Nat):Int)>=0)=true by rfl,ct,Aa (by simp),ct,qK (by simp)]
   rw[Gf];unfold Io
   rw[i64 (by simp),show decide ((((0:Nat):Int) - 1)>=0)=false by rfl,cf]
   have:=A3m (a:=0) (b:=x) (by omega) hx
   simp only[A9f]
   rw[RD (show x<18446744073709551616 by omega),show(0:Int)=((0:Nat):Int) by rfl,this,f];simp
  |[x,y],_,e,j =>
   have hx:=(Gm.1 j).1
   have m:=(Gm.1 (Gm.1 j).2).1
   have f:val l=y*4294967296+x:=by rw[<-e];simp[val];omega
   dsimp only
   rw[Gf];unfold Io
   rw[i64 (by simp),show((([x,y]:List Nat).length:Nat):Int) - 1=((1:Nat):Int) by rfl,show decide (((1:Nat):Int)>=0)=true by rfl,ct,Aa (by simp),ct,qK (by simp)]
   rw[Gf];unfold Io
   rw[i64 (by simp),show(((1:Nat):Int) - 1)=((0:Nat):Int) by rfl,show decide (((0:Nat):Int)>=0)=true by rfl,ct,Aa (by simp),ct,qK (by simp)]
   rw[Gf];unfold Io
   rw[i64 (by simp),show decide ((((0:Nat):Int) - 1)>=0)=false by rfl,cf]
   have o1:=A3m (a:=0) (b:=y) (by omega) m
   have o2:=A3m (a:=y) (b:=x) m hx
   simp only[A9f,A8g]
   rw[RD (show y<18446744073709551616 by omega),RD (show x<18446744073709551616 by omega),show(0:Int)=((0:Nat):Int) by rfl,o1,A70,A5j,o2,f]
 ·have:¬ (Bj (val l)).length<=2:=fun u=>h (Ap7 u)
  rw[if_neg h,show decide ((((Bj (val l)).length:Nat):Int)>2)=true by simp;omega,ct]
def Acr{N:Nat}{x y:List Nat}{K:Int->O R}(hx:A7 x)(f:A7 y)(hs:x.length<=1000000000000)(k:x.length=y.length):∀(i fuel:Nat),i<=x.length->i<fuel ->
  Ki N K x.length y.length (A2 x) (A2 y) fuel ((i:Int) - 1)=K (Ye (val (x.take i)) (val (y.take i)))
|0,fuel+1,_,_=>by
  rw[Ki];unfold Wr
  rw[show decide ((((0:Nat):Int) - 1)>=0)=false by simp,cf]
  simp[UQ]
| i+1,fuel+1,hi,l=>by
  rw[Ki];unfold Wr
  rw[show(((i+1:Nat):Int) - 1)=(i:Int) by omega,show decide ((i:Int)>=0)=true by simp,ct,Aa (by omega),ct,qK (by omega),Aa (by omega),ct,qK (by omega),ct,qK (by omega),ct,qK (by omega),i64 (by omega),
   Acr hx f hs k i fuel (by omega) (by omega),Dh (by omega),Dh (by omega)]
  have d:=O3 (O2 hx i)
  have e:=O3 (O2 f i)
  rw[A58,A6g (by omega)]at d e
  by_cases c1:x[i]<y[i]
  ·have:=vB d e c1
   rw[show decide (((x[i]:Nat):Int)<((y[i]:Nat):Int))=true by simp;exact c1,ct]
   unfold Ye;rw[if_pos this]
  ·by_cases j:y[i]<x[i]
   ·have:=vB e d j
    rw[show decide (((x[i]:Nat):Int)<((y[i]:Nat):Int))=false by simp;omega,cf,show decide (((x[i]:Nat):Int)>((y[i]:Nat):Int))=true by simp;exact j,ct]
    unfold Ye;rw[if_neg (by omega),if_pos this]
   ·have:x[i]=y[i]:=by omega
    rw[show decide (((x[i]:Nat):Int)<((y[i]:Nat):Int))=false by simp;omega,cf,show decide (((x[i]:Nat):Int)>((y[i]:Nat):Int))=false by simp;omega,cf,this]
    unfold Ye
    congr 1
    by_cases a1:val (x.take i)<val (y.take i)
    ·rw[if_pos a1,if_pos (by omega)]
    ·by_cases a2:val (y.take i)<val (x.take i)
     ·rw[if_neg a1,if_pos a2,if_neg (by omega),if_pos (by omega)]
     ·rw[if_neg a1,if_neg a2,if_neg (by omega),if_neg (by omega)]
def Asd{N:Nat}{a b:List Nat}{n m:Nat}{t o t' o':Bool}{K:Int->O R}(hn:n=a.length)(l:m=b.length)(e:A7 a)(f:A7 b)(d:fit (a.length+b.length) N):
  EM N (A2 a) n t o (A2 b) m t' o' K=K (Ye (val a) (val b)):=by
 subst hn l
 have q:=d.1;have s:=d.2
 rw[ZM];unfold IK
 dsimp only
 rw[H5 rfl e (d.le (by omega)),H5 rfl f (d.le (by omega))]
 have la:=(Iy e).2
 have lb:=(Iy f).2
 by_cases j:(Bj (val a)).length=(Bj (val b)).length
 ·rw[show((((Bj (val a)).length:Nat):Int) != (((Bj (val b)).length:Nat):Int))=false by simp;omega,cf,i64 (by omega),Acr (Ba _) (Ba _) (by omega) j _ N (A49 _) (by omega),A6c,j,A6c,Bc,Bc]
 ·rw[show((((Bj (val a)).length:Nat):Int) != (((Bj (val b)).length:Nat):Int))=true by simp;omega,ct]
  by_cases k:(Bj (val a)).length<(Bj (val b)).length
  ·have:=YN k
   rw[Er k,ct]
   unfold Ye;rw[if_pos this]
  ·have:=YN (show(Bj (val b)).length<(Bj (val a)).length by omega)
   rw[Fk (by omega),cf]
   unfold Ye;rw[if_neg (by omega),if_pos this]
def A1b(a b:Nat):tX (a:Int) (b:Int)=((max a b:Nat):Int):=by
 unfold tX
 by_cases h:(b:Int)>(a:Int)
 ·rw[decide_eq_true h];show(b:Int)=_;omega
 ·rw[decide_eq_false h];show(a:Int)=_;omega
def Acs{N:Nat}{a b:List Nat}{t o t' o':Bool}{n:Nat}(u:A7 a)(v:A7 b)(x:a.length<n)(y:b.length<n)(hn:n<=max a.length b.length+1)(l:fit n N):∀(m d fuel:Nat)(S:List Nat)(c:Nat),d+m=n->m<fuel->A7 S->S.length=n->Awq S d->c<=1 ->
  val S+4294967296 ^ d*c=val (a.take d)+val (b.take d) ->
  ∀ K:Nat->LA->O R,M0 N K (A2 a) a.length t o (A2 b) b.length t' o' fuel n (c:Int) (d:Int) (A2 S)=K (Bj (val a+val b)).length (A2 (Bj (val a+val b)))
| 0,d,fuel+1,S,c,L,_,hS,q,z,M,A=>by
  intro K
  have C:d=n:=by omega
  subst C
  rw[A44 (by omega),A44 (by omega)]at A
  have D:c=0:=by
   rcases A6w c with h|h
   ·exact h
   ·exfalso
    have F:c=1:=by omega
    subst F
    obtain⟨e,rfl⟩:∃ e,d=e+1:=⟨d - 1,by omega⟩
    have x1:=O3 u
    have x2:=O3 v
    have y1:4294967296 ^ a.length<=4294967296 ^ e:=A54 (by omega) (by omega)
    have y2:4294967296 ^ b.length<=4294967296 ^ e:=A54 (by omega) (by omega)
    rw[A51]at A
    omega
  subst D
  have G:val S=val a+val b:=by omega
  rw[M0];unfold OT
  rw[Fk (A49 _),cf,A5m,A44 (by rw[F5];omega),H5 q.symm hS (by rw[q];exact l),G]
| m+1,d,fuel+1,S,c,L,T,hS,q,z,M,A=>by
  intro K
  have U:=l.1;have V:=l.2
  have ga:=rD u d
  have gb:=rD v d
  have step:∀ s:Nat,s=c+a.getD d 0+b.getD d 0->val (S.set d (s%4294967296))+4294967296 ^ (d+1)*(s/4294967296)=val (a.take (d+1))+val (b.take (d+1)):=by
   intro s hs
   rw[gd z (by omega),UR a d,UR b d,A51]
   have e:=fM (4294967296 ^ d) s
   have X:4294967296 ^ d*s=4294967296 ^ d*c+4294967296 ^ d*a.getD d 0+4294967296 ^ d*b.getD d 0:=by rw[hs,A6q,A6q]
   omega
  have next:∀ s:Nat,s=c+a.getD d 0+b.getD d 0->M0 N K (A2 a) a.length t o (A2 b) b.length t' o' fuel n ((s/4294967296:Nat):Int) ((d+1:Nat):Int) (A2 (S.set d (s%4294967296)))=K (Bj (val a+val b)).length (A2 (Bj (val a+val b))):=by
   intro s hs
   exact Acs u v x y hn l m (d+1) fuel (S.set d (s%4294967296)) (s/4294967296) (by omega) (by omega) (Qx hS (by omega) d) (by simpa using q) (gc z) (by omega) (step s hs) K
  have second:∀ w:Nat,w=c+a.getD d 0->LG N (M0 N K (A2 a) a.length t o (A2 b) b.length t' o' fuel) K (A2 a) a.length t o (A2 b) b.length t' o' n (A2 S) (w:Int) (d:Int)=K (Bj (val a+val b)).length (A2 (Bj (val a+val b))):=by
   intro w I
   unfold LG
   by_cases f:d<b.length
   ·have k:b.getD d 0=b[d]:=by rw[A5f,A46 f];rfl
    rw[Er f,ct,Aa f,ct,Ae9 f,Aa (by omega),ct,Apf (by omega),ct,RD (show b[d]<18446744073709551616 by omega),Aeq,RD (show w+b[d]<18446744073709551616 by omega),Amw,Aim,xC,wS (by omega)]
    exact next _ (by rw[I,k])
   ·have k:b.getD d 0=0:=by rw[A5f,A6x (by omega)];rfl
    rw[Fk (by omega),cf,Aa (by omega),ct,Apf (by omega),ct,Amw,Aim,xC,wS (by omega)]
    exact next _ (by rw[I,k];rfl)
  rw[M0];unfold OT
  rw[Er (by omega),ct]
  by_cases j:d<a.length
  ·have k:a.getD d 0=a[d]:=by rw[A5f,A46 j];rfl
   rw[Er j,ct,Aa j,ct,Ae9 j,RD (show a[d]<18446744073709551616 by omega),Aeq,RD (show c+a[d]<18446744073709551616 by omega)]
   exact second _ (by rw[k])
  ·have k:a.getD d 0=0:=by rw[A5f,A6x (by omega)];rfl
   rw[Fk (by omega),cf]
   exact second _ (by rw[k];rfl)
def Acu{N:Nat}{a b:List Nat}{n m:Nat}{t o t' o':Bool}{K:Nat->LA->O R}(hn:n=a.length)(e:m=b.length)(f:A7 a)(j:A7 b)(d:fit (a.length+b.length+1) N):
  fx N (A2 a) n t o (A2 b) m t' o' K=K (Bj (val a+val b)).length (A2 (Bj (val a+val b))):=by
 subst hn e
 have k:=d.1;have l:=d.2
 rw[sH];unfold m9
 rw[A1b,wS (by omega),Azn (by omega),ct,A45,N7]
 exact Acs f j (n:=max a.length b.length+1) (by omega) (by omega) (A49 _) (d.le (by omega)) (max a.length b.length+1) 0 N (replicate (max a.length b.length+1) 0) 0 (by omega) (by omega) (Le _) (by simp) (DU _) (by omega) (by rw[My];simp[val]) K
def Acv{N:Nat}{a b:List Nat}(F:A7 a)(G:A7 b)(u:fit a.length N)(s:b.length<=a.length)(v:val b<=val a):∀(m d fuel:Nat)(S:List Nat)(c:Nat),d+m=a.length->m<fuel->A7 S->S.length=a.length->Awq S d->c<=1 ->
  val S+val (b.take d)=val (a.take d)+4294967296 ^ d*c ->
  ∀ K:Nat->Bool->LA->O R,M1 N K a.length b.length (A2 a) (A2 b) fuel (c:Int) (d:Int) (A2 S)=K (Bj (val a - val b)).length true (A2 (Bj (val a - val b)))
| 0,d,fuel+1,S,c,L,_,hS,t,x,M,I=>by
  intro K
  have z:d=a.length:=by omega
  subst z
  rw[A6c,A44 s]at I
  have l:=O3 hS
  rw[t]at l
  have A:c=0:=by
   rcases A8t 0 c with h|h
   ·exfalso
    have:c=1:=by omega
    subst this
    omega
   ·omega
  subst A
  have C:val S=val a - val b:=by omega
  rw[M1];unfold OU
  rw[Fk (A49 _),cf,A5m,A44 (by rw[F5];omega),H5 t.symm hS (by rw[t];exact u),C]
| m+1,d,fuel+1,S,c,L,T,hS,t,x,M,I=>by
  intro K
  have V:=u.1;have X:=u.2
  have f:d<a.length:=by omega
  have ad:=Ld F f
  have gb:=rD G d
  have step:∀ y g j:Nat,y=c+b.getD d 0->a[d]+4294967296*j=g+y->val (S.set d g)+val (b.take (d+1))=val (a.take (d+1))+4294967296 ^ (d+1)*j:=by
   intro y g j q n
   rw[gd x (by omega),Dh f,UR b d,A51,A6r]
   have e:4294967296 ^ d*(a[d]+4294967296*j)=4294967296 ^ d*(g+(c+b.getD d 0)):=by rw[n,q]
   rw[A6q,A6q,A6q]at e
   omega
  have next:∀ y g j:Nat,g<4294967296->j<=1->y=c+b.getD d 0->a[d]+4294967296*j=g+y->M1 N K a.length b.length (A2 a) (A2 b) fuel (j:Int) ((d+1:Nat):Int) (A2 (S.set d g))=K (Bj (val a - val b)).length true (A2 (Bj (val a - val b))):=by
   intro y g j n D q U
   exact Acv F G u s v m (d+1) fuel (S.set d g) j (by omega) (by omega) (Qx hS n d) (by simpa using t) (gc x) D (step y g j q U) K
  have second:∀ y:Nat,y=c+b.getD d 0->LH N (M1 N K a.length b.length (A2 a) (A2 b) fuel) K a.length b.length (A2 a) (A2 b) (A2 S) (d:Int) (y:Int)=K (Bj (val a - val b)).length true (A2 (Bj (val a - val b))):=by
   intro y q
   unfold LH
   rw[Aa f,ct,qK f,RD (show a[d]<18446744073709551616 by omega)]
   by_cases l:a[d]<y
   ·rw[Er l,ct,ct,Apf (by omega),ct,show((a[d]:Nat):Int)+4294967296=((a[d]+4294967296:Nat):Int) by omega,RD (show a[d]+4294967296<18446744073709551616 by omega),Aer (by omega) (by omega),Ayq (by omega),xC,wS (by omega)]
    exact next y (a[d]+4294967296 - y) 1 (by omega) (by omega) q (by omega)
   ·rw[Fk (by omega),cf,ct,Apf (by omega),ct,Aer (by omega) (by omega),Ayq (by omega),xC,wS (by omega)]
    exact next y (a[d] - y) 0 (by omega) (by omega) q (by omega)
  rw[M1];unfold OU
  rw[Er f,ct]
  by_cases k:d<b.length
  ·have n:b.getD d 0=b[d]:=by rw[A5f,A46 k];rfl
   rw[Er k,ct,Aa k,ct,qK k,RD (show b[d]<18446744073709551616 by omega),Aeq,RD (show c+b[d]<18446744073709551616 by omega)]
   exact second _ (by rw[n])
  ·have n:b.getD d 0=0:=by rw[A5f,A6x (by omega)];rfl
   rw[Fk (by omega),cf]
   exact second _ (by rw[n];rfl)
def Ase{N:Nat}{a b:List Nat}{n m:Nat}{t o t' o':Bool}{K:Nat->Bool->LA->O R}(hn:n=a.length)(l:m=b.length)(f:A7 a)(j:A7 b)(e:fit (a.length+b.length) N):
  mf N (A2 a) n t o (A2 b) m t' o' K=if val b<=val a then K (Bj (val a - val b)).length true (A2 (Bj (val a - val b)))else K 0 false []:=by
 subst hn l
 have q:=e.1;have s:=e.2
 have la:=(Iy f).2
 have lb:=(Iy j).2
 rw[sJ];unfold mb
 dsimp only
 rw[Asd rfl rfl f j e]
 by_cases d:val b<=val a
 ·have k:=Mz d
  rw[if_pos d,show decide (Ye (val a) (val b)<0)=false by(unfold Ye;rw[if_neg (by omega)];split<;>rfl),cf,H5 rfl f (e.le (by omega)),H5 rfl j (e.le (by omega)),Azn (by omega),ct,N7]
  have:=Acv (R:=R) (N:=N) (a:=Bj (val a)) (b:=Bj (val b)) (Ba _) (Ba _) (e.le (by omega)) k (by rw[Bc,Bc];exact d) (Bj (val a)).length 0 N (replicate (Bj (val a)).length 0) 0 (by omega) (by omega) (Le _) (by simp) (DU _) (by omega) (by rw[My];simp[val]) K
  rw[Bc,Bc]at this
  exact this
 ·rw[if_neg d,show decide (Ye (val a) (val b)<0)=true by(unfold Ye;rw[if_pos (by omega)];rfl),ct]
def ym{N:Nat}:∀(k fuel n v:Nat),v<2 ^ k->k<fuel->n+k<=1000000000000->∃ b:Nat,b<=k/\v<2 ^ b/\(v≠0->2 ^ b<=2*v)/\(v=0->b=0)/\∀ K:Int->O R,Og N K fuel (n:Int) (v:Int)=K ((n+b:Nat):Int)
|0,fuel+1,n,v,e,_,_=>by
  have d:v=0:=by simpa using e
  subst d
  refine⟨0,by omega,by simp,fun h=>absurd rfl h,fun _=>rfl,fun K=>?_⟩
  rw[Og];unfold Yt
  rw[show decide (((0:Nat):Int)>0)=false by rfl,cf];rfl
| k+1,fuel+1,n,v,e,q,hn=>by
  by_cases d:v=0
  ·subst d
   refine⟨0,by omega,by simp,fun h=>absurd rfl h,fun _=>rfl,fun K=>?_⟩
   rw[Og];unfold Yt
   rw[show decide (((0:Nat):Int)>0)=false by rfl,cf];rfl
  ·obtain⟨b,s,t,j,l,m⟩:=ym (N:=N) k fuel (n+1) (v/2) (by rw[A51]at e;omega) (by omega) (by omega)
   refine⟨b+1,by omega,by rw[A51];omega,fun _=>?_,fun h=>absurd h d,fun K=>?_⟩
   ·by_cases f:v/2=0
    ·rw[l f];simp;omega
    ·have:=j f;rw[A51];omega
   ·rw[Og];unfold Yt
    rw[show decide ((v:Int)>0)=true by rw[decide_eq_true_eq];omega,ct,wS (by omega),mH v 1,show v/2 ^ 1=v/2 by rfl,m]
    congr 2;omega
def Aog{N:Nat}{a:List Nat}{n:Nat}{t o:Bool}(hn:n=a.length)(j:A7 a)(f:fit a.length N):∃ nb:Nat,nb<=32*a.length/\val a<2 ^ nb/\(val a≠0->2 ^ nb<=2*val a)/\(val a=0->nb=0)/\∀ K:Int->O R,dE N (A2 a) n t o K=K (nb:Int):=by
 have y:=f.1;have z:=f.2
 have la:=(Iy j).2
 by_cases e:val a=0
 ·refine⟨0,by omega,by rw[e];simp,fun h=>absurd e h,fun _=>rfl,fun K=>?_⟩
  rw[WK];unfold TI
  rw[H5 hn j f,e,He];rfl
 ·have q:(Bj (val a)).length≠0:=fun h=>e (Fq.1 h)
  obtain⟨k,l⟩:∃ k,(Bj (val a)).length=k+1:=⟨(Bj (val a)).length - 1,by omega⟩
  have top:=Ld (Ba (val a)) (show k<(Bj (val a)).length by omega)
  have d:(Bj (val a))[k]'(by omega)≠0:=by
   have:=Auf (val a) (kT e)
   rw[A89]at this
   simp only[l,Baa]at this
   exact this
  have tf:=Acq l
  have tl:=Aof (Ba (val a)) l
  rw[Bc]at tf tl
  obtain⟨b,A,s,u,C,v⟩:=ym (R:=R) (N:=N) 32 N (32*k) ((Bj (val a))[k]'(by omega)) (by exact top) (by omega) (by omega)
  have m:(2:Nat) ^ (32*k+b)=4294967296 ^ k*2 ^ b:=by rw[A7z,A91]
  refine⟨32*k+b,by omega,?_,fun _=>?_,fun h=>absurd h e,fun K=>?_⟩
  ·rw[m]
   have:((Bj (val a))[k]'(by omega)+1)*4294967296 ^ k<=2 ^ b*4294967296 ^ k:=A5y _ s
   rw[A60 (2 ^ b)]at this;omega
  ·rw[m]
   have:=A7m (4294967296 ^ k) (u d)
   rw[A83]at this
   omega
  ·rw[WK];unfold TI
   have x:wrap .i64 ((((Bj (val a)).length:Nat):Int) - 1)=(k:Int):=by rw[i64 (by omega)];omega
   have w2:wrap .i64 ((32:Int)*(k:Int))=((32*k:Nat):Int):=by rw[i64 (by omega)];omega
   rw[H5 hn j f,Asb q,cf,x,Aa (by omega),ct,qK (by omega),w2]
   exact v K
def Aky{a:List Nat}{j:Nat}(h:j<a.length):val a=val (a.take j)+4294967296 ^ j*(a[j]+4294967296*val (a.drop (j+1))):=by
 have:=kS (a.take j) (a.drop j)
 rw[A9p,A58,A6g (by omega),Avg h]at this
 exact this
def rE(j k:Nat):(2:Nat) ^ (32*j+k)=4294967296 ^ j*2 ^ k:=by rw[A7z,A91]
def Axm{a:List Nat}{j k:Nat}(d:A7 a)(h:j<a.length)(m:k<32):val a/2 ^ (32*j+k)%2=a[j]/2 ^ k%2:=by
 have tl:=O3 (O2 d j)
 rw[A58,A6g (by omega)]at tl
 have hP:0<4294967296 ^ j:=A8m (by omega)
 have f:0<2 ^ k:=A8m (by omega)
 rw[rE,<-A9i,Aky h,A9x _ _ hP,A7h tl,A5j]
 have e:4294967296=2 ^ k*(2*2 ^ (31 - k)):=by rw[<-Nat.pow_succ',<-A7z,show k+(31 - k+1)=32 by omega]
 have l:4294967296*val (a.drop (j+1))=2 ^ k*(2*(2 ^ (31 - k)*val (a.drop (j+1)))):=by
  rw[<-A6r 2,<-A6r,<-e]
 rw[l,A9x _ _ f,Nat.add_mul_mod_self_left]
def Asf{N:Nat}{a:List Nat}{n:Nat}{t o:Bool}{i:Nat}{K:Int->O R}(hn:n=a.length)(j:A7 a)(hi:i<32*a.length)(hs:a.length<=1000000000):uy N (A2 a) n t o (i:Int) K=K ((val a/2 ^ i%2:Nat):Int):=by
 subst hn
 have d:i/32<a.length:=by omega
 have aj:=Ld j d
 rw[sI];unfold wl
 have l:wrap .i64 (Int.tdiv (i:Int) 32)=((i/32:Nat):Int):=by rw[show(32:Int)=((32:Nat):Int) by rfl,Akw,i64 (by omega)]
 have w2:wrap .u64 (Int.tmod (i:Int) 32)=((i%32:Nat):Int):=by rw[show(32:Int)=((32:Nat):Int) by rfl,Akx,RD (by omega)]
 rw[l,w2,show decide (((i/32:Nat):Int)>=(a.length:Int))=false by rw[decide_eq_false_iff_not];omega,cf,Aa d,ct,Ae9 d,show decide (((i%32:Nat):Int)<0)=false by rw[decide_eq_false_iff_not];omega,cf,A45,A6g (by omega),mH]
 have f:a[i/32]/2 ^ (i%32)<4294967296:=A6d (A77 _ _) aj
 have e:=Amm (k:=.u32) rfl (a:=a[i/32]/2 ^ (i%32)) (b:=1) f (by decide)
 rw[show(1:Int)=((1:Nat):Int) by rfl,e,Nat.and_one_is_mod]
 have:=Axm j d (k:=i%32) (by omega)
 rw[A7n]at this
 rw[this]
def Avi{Q:List Nat}{j k:Nat}(hQ:A7 Q)(h:j<Q.length)(f:k<32)(d:2 ^ (32*j+k+1)∣val Q):2 ^ (k+1)∣Q[j]:=by
 have tl:=O3 (O2 hQ j)
 rw[A58,A6g (by omega)]at tl
 have hP:0<4294967296 ^ j:=A8m (by omega)
 rw[A6l,rE,Aky h]at d
 have e:val (Q.take j)=0:=by
  have x1:4294967296 ^ j∣val (Q.take j):=(Nat.dvd_add_left (A82 _ _)).1 (Nat.dvd_trans (A82 _ _) d)
  exact Nat.eq_zero_of_dvd_of_lt x1 tl
 rw[e,A5j]at d
 have x2:=Nat.dvd_of_mul_dvd_mul_left hP d
 have x3:2 ^ (k+1)∣4294967296*val (Q.drop (j+1)):=Nat.dvd_trans ⟨2 ^ (31 - k),by rw[<-A7z,show k+1+(31 - k)=32 by omega]⟩ (A82 _ _)
 exact(Nat.dvd_add_left x3).1 x2
def rF{N:Nat}{a b:List Nat}{t o:Bool}{B:Nat}(L:A7 a)(l:b=Bj B)(hB:0<B)(j:fit (a.length+2*b.length+4) N):∀(i fuel:Nat)(Q:List Nat)(r:Nat),i<fuel->i<=32*a.length->A7 Q->Q.length=a.length->r=val a/2 ^ i%B->val Q=val a/2 ^ i/B*2 ^ i ->
  ∀ K:Nat->Nat->Bool->LA->LA->O R,Ii N K (A2 a) a.length t o b.length (A2 b) fuel (Bj r).length ((i:Int) - 1) (A2 Q) (A2 (Bj r))=K (Bj (val a/B)).length (Bj (val a%B)).length true (A2 (Bj (val a/B))) (A2 (Bj (val a%B)))
| 0,fuel+1,Q,r,_,_,hQ,z,hr,q=>by
  intro K
  rw[A9k,Nat.div_one]at hr q
  rw[A5m]at q
  have lr:(Bj r).length<=b.length:=by
   rw[l];apply Mz;rw[hr];exact Nat.le_of_lt (A71 _ hB)
  rw[Ii];unfold Yu
  rw[show decide ((((0:Nat):Int) - 1)>=0)=false by rfl,cf,A5m,A44 (by rw[F5];omega),H5 z.symm hQ (by rw[z];exact j.le (by omega)),A5m,A44 (by rw[F5];omega),H5 rfl (Ba _) (j.le (by omega)),Bc,q,hr]
| i+1,fuel+1,Q,r,Y,hi,hQ,z,hr,q=>by
  intro K
  have h1:=j.1;have h2:=j.2
  have hrB:r<B:=by rw[hr];exact A71 _ hB
  have lr:(Bj r).length<=b.length:=by rw[l];exact Mz (Nat.le_of_lt hrB)
  have f:val a/2 ^ i=2*(val a/2 ^ (i+1))+val a/2 ^ i%2:=by
   have:=A7n (val a/2 ^ i) 2
   rw[A9i,<-A51]at this
   exact this.symm
  have M:=A7n (val a/2 ^ (i+1)) B
  have hb2:val a/2 ^ i%2<2:=A71 _ (by omega)
  generalize hH:val a/2 ^ (i+1)=H at *
  generalize A:val a/2 ^ i%2=bt at *
  have d:val a/2 ^ i=B*(2*(H/B))+(2*r+bt):=by
   rw[f,hr,A83];omega
  clear hr M f
  have C:i/32<Q.length:=by omega
  have qj:=Ld hQ C
  have D:2 ^ (32*(i/32)+i%32+1)∣val Q:=by rw[A7n,q];exact Nat.dvd_mul_left _ _
  have s:=Avi hQ C (A71 _ (by omega)) D
  have S:2 ^ i=4294967296 ^ (i/32)*2 ^ (i%32):=by rw[<-rE,A7n]
  have F:2 ^ (i%32+1)<=4294967296:=(A54 (by omega) (show i%32+1<=32 by omega):2 ^ (i%32+1)<=2 ^ 32)
  have G:rt .u32 ((Q[i/32]:Nat):Int) (wrap .u32 ((1:Int)*2 ^ (min (Int.toNat ((i%32:Nat):Int)) 32)))=((Q[i/32]+2 ^ (i%32):Nat):Int)/\Q[i/32]+2 ^ (i%32)<4294967296:=by
   obtain⟨c,T⟩:=s
   have V:0<2 ^ (i%32):=A8m (by omega)
   have U:Q[i/32]+2 ^ (i%32)<4294967296:=by
    obtain⟨w,X⟩:∃ w,4294967296=2 ^ (i%32+1)*w:=⟨2 ^ (31 - i%32),by rw[<-A7z,show i%32+1+(31 - i%32)=32 by omega]⟩
    have x1:c<w:=by rw[T,X]at qj;exact Nat.lt_of_mul_lt_mul_left qj
    have x2:=A7m (2 ^ (i%32+1)) (show c+1<=w from x1)
    rw[A6q,<-X,<-T,A5m,A51]at x2
    omega
   refine⟨?_,U⟩
   rw[A45,A6g (by omega),Int.one_mul,show(2:Int) ^ (i%32)=((2 ^ (i%32):Nat):Int) by simp,Ayq (by rw[A51]at F;omega),Abn (k:=.u32) rfl qj (by show 2 ^ (i%32)<4294967296;rw[A51]at F;omega)]
   congr 1
   have e:Q[i/32]=c*2 ^ (i%32+1):=by rw[T,A60]
   rw[e];exact Amx (by rw[A51];omega)
  have w1:wrap .i64 (Int.tdiv (i:Int) 32)=((i/32:Nat):Int):=by rw[show(32:Int)=((32:Nat):Int) by rfl,Akw,i64 (by omega)]
  have w2:wrap .u64 (Int.tmod (i:Int) 32)=((i%32:Nat):Int):=by rw[show(32:Int)=((32:Nat):Int) by rfl,Akx,RD (by omega)]
  have l2:(Bj (2*r+bt)).length<=b.length+1:=by
   apply LD
   have x1:=O3 (Ba B)
   rw[Bc,<-l]at x1
   rw[A51];omega
  have second:Qy N (Ii N K (A2 a) a.length t o b.length (A2 b) fuel) K (A2 a) a.length t o b.length (i:Int) (A2 b) (A2 Q) (Bj (2*r+bt)).length (A2 (Bj (2*r+bt)))=K (Bj (val a/B)).length (Bj (val a%B)).length true (A2 (Bj (val a/B))) (A2 (Bj (val a%B))):=by
   unfold Qy
   have lb:A7 b:=by rw[l];exact Ba _
   have vb:val b=B:=by rw[l,Bc]
   rw[A5m,A5m,A44 (by rw[F5];omega),A44 (by rw[F5];omega),Ase rfl rfl (Ba _) lb (j.le (by omega)),Bc,vb]
   by_cases I:B<=2*r+bt
   ·have u:val a/2 ^ i/B=2*(H/B)+1:=by
     rw[d,show B*(2*(H/B))+(2*r+bt)=B*(2*(H/B)+1)+(2*r+bt - B) by rw[A6q];omega,Nat.mul_add_div hB,A7h (show 2*r+bt - B<B by omega),A7k]
    have y:val a/2 ^ i%B=2*r+bt - B:=by
     rw[d,show B*(2*(H/B))+(2*r+bt)=B*(2*(H/B)+1)+(2*r+bt - B) by rw[A6q];omega,Nat.mul_add_mod,A59 (by omega)]
    rw[if_pos I,ct,w1,w2,Aa (by omega),ct,qK C,show decide (((i%32:Nat):Int)<0)=false by rw[decide_eq_false_iff_not];omega,cf,ct,Apf C,ct,G.1,xC,i64 (by omega)]
    refine rF L l hB j i fuel (Q.set (i/32) (Q[i/32]+2 ^ (i%32))) (2*r+bt - B) (by omega) (by omega) (Qx hQ G.2 _) (by simpa using z) y.symm ?_ K
    have x1:=vC (v:=Q[i/32]+2 ^ (i%32)) C
    rw[A6q,<-S]at x1
    rw[u,A62,A90,A60 2,A6r,A60 2,<-A51,<-q]
    omega
   ·have u:val a/2 ^ i/B=2*(H/B):=by rw[d,Nat.mul_add_div hB,A7h (show 2*r+bt<B by omega),A7k]
    have y:val a/2 ^ i%B=2*r+bt:=by rw[d,Nat.mul_add_mod,A59 (by omega)]
    rw[if_neg I,cf,i64 (by omega)]
    refine rF L l hB j i fuel Q (2*r+bt) (by omega) (by omega) hQ z y.symm ?_ K
    rw[u,A60 2,A6r,A60 2,<-A51,<-q]
  rw[Ii];unfold Yu
  rw[show(((i+1:Nat):Int) - 1)=(i:Int) by omega,show decide ((i:Int)>=0)=true by rw[decide_eq_true_eq];omega,ct,A5m,A44 (by rw[F5];omega),Acu rfl rfl (Ba _) (Ba _) (j.le (by omega)),Bc,Asf rfl L (by omega) (by omega),A]
  have l3:(Bj (r+r)).length<=b.length+1:=by
   apply LD
   have x1:=O3 (Ba B)
   rw[Bc,<-l]at x1
   rw[A51];omega
  rcases(show bt=0\/bt=1 by omega)with rfl|rfl
  ·rw[show(((0:Nat):Int)==1)=false by rfl,cf]
   rw[show 2*r+0=r+r by omega]at second
   exact second
  ·rw[show(((1:Nat):Int)==1)=true by rfl,ct,A5m,A44 (by rw[F5];omega)]
   have:=Acu (R:=R) (N:=N) (a:=Bj (r+r)) (b:=[1]) (n:=(Bj (r+r)).length) (m:=1) (t:=false) (o:=true) (t':=false) (o':=true) (K:=fun af ag=>Qy N (Ii N K (A2 a) a.length t o b.length (A2 b) fuel) K (A2 a) a.length t o b.length (i:Int) (A2 b) (A2 Q) af ag) rfl rfl (Ba _) (by intro x hx;simp at hx;omega) (j.le (by simp;omega))
   rw[Bc,show val [1]=1 by rfl,show r+r+1=2*r+1 by omega]at this
   exact this.trans second
def Agq{N:Nat}{a b:List Nat}{n m:Nat}{t o t' o':Bool}{K:Nat->Nat->Bool->LA->LA->O R}(hn:n=a.length)(x:m=b.length)(l:A7 a)(u:A7 b)(j:val b≠0)(f:fit (a.length+2*b.length+4) N):
  Xe N (A2 a) n t o (A2 b) m t' o' K=K (Bj (val a/val b)).length (Bj (val a%val b)).length true (A2 (Bj (val a/val b))) (A2 (Bj (val a%val b))):=by
 have y:=f.1;have z:=f.2
 have lb:=(Iy u).2
 have q:(Bj (val b)).length≠0:=fun h=>j (Fq.1 h)
 rw[dF];unfold OV
 dsimp only
 have long:V5 N K (A2 a) n t o (Bj (val b)).length (A2 (Bj (val b)))=K (Bj (val a/val b)).length (Bj (val a%val b)).length true (A2 (Bj (val a/val b))) (A2 (Bj (val a%val b))):=by
  obtain⟨nb,n1,n2,n3,n4,n5⟩:=Aog (R:=R) (N:=N) (a:=a) (n:=n) (t:=false) (o:=o) hn l (f.le (by omega))
  unfold V5 LI
  rw[n5,hn,Azn (by omega),ct,N7,i64 (by omega)]
  have v:val a/2 ^ nb=0:=A7h n2
  have:=rF (R:=R) (N:=N) (a:=a) (b:=Bj (val b)) (t:=t) (o:=o) (B:=val b) l rfl (by omega) (f.le (by omega)) nb N (replicate a.length 0) 0 (by omega) n1 (Le _) (by simp) (by rw[v];simp) (by rw[v,My];simp) K
  exact this
 rw[H5 x u (f.le (by omega)),Asb q,cf,JO hn l (f.le (by omega)),A5m,A44 (by rw[F5];exact A49 _)]
 by_cases e:val a<18446744073709551616
 ·rw[if_pos e,JO rfl (Ba _) (f.le (by omega)),Bc]
  by_cases d:val b<18446744073709551616
  ·have k:val a/val b<18446744073709551616:=A6d (A77 _ _) e
   have s:val a%val b<18446744073709551616:=A6d (Nat.mod_le _ _) e
   rw[if_pos d,show((true:Bool)==true)=true by rfl,ct,Azl,ct,Asb j,cf,Akw,RD k,QO k (by omega),cf,Akx,QO s (by omega)]
  ·rw[if_neg d,show((true:Bool)==true)=true by rfl,ct,Azl,cf,long]
 ·rw[if_neg e,JO rfl (Ba _) (f.le (by omega)),Bc]
  by_cases d:val b<18446744073709551616
  ·rw[if_pos d,show((false:Bool)==true)=false by rfl,cf,long]
  ·rw[if_neg d,show((false:Bool)==true)=false by rfl,cf,long]
inductive LS where
|nil
|of (l:List Nat) (t o:Bool)
def LS.l:LS->List Nat
|.nil=>[]
|.of l _ _=>l
def LS.av:LS->AV
|.nil=>.nsl
|.of l t o=>.imm (A2 l) l.length 1 t o
def Aoh{s:LS}{r:LA}{f:LA->Nat->O R}:A5 1 (s.av::r) f=f (A2 s.l) s.l.length:=by cases s<;>simp[A5,LS.av,LS.l,Atd,A2]
def Ayy{b:Bool}{r:LA}{f:Bool->O R}:QY (.bool b::r) f=f b:=by simp[QY,asBool]
def FU(neg:Bool)(s:LS):LA:=[.bool neg,s.av]
def Mq(neg:Bool)(s:LS):Int:=if neg then -(val s.l:Int)else(val s.l:Int)
def tU(neg:Bool)(s:LS):(Mq neg s).natAbs=val s.l:=by unfold Mq;cases neg<;>simp
def lU{neg:Bool}{s:LS}{f:Bool->O R}:QY (FU neg s) f=f neg:=Ayy
def ou{neg:Bool}{s:LS}{f:LA->Nat->O R}:A5 1 (drop 1 (FU neg s)) f=f (A2 s.l) s.l.length:=by rw[FU,A6e,A5k,Aoh]
def T5{N:Nat}{c:Bool}{a:Nat}{b:LA}{K:Bool->O R}:Qz N c a b K=K (c&&decide (0<a)):=by
 rw[jX];unfold kV
 cases c<;>simp
def J_{z:Int}{c:Bool}{m:Nat}(h:z=if c then -(m:Int)else(m:Int)):(c&&decide (0<(Bj m).length))=decide (z<0)/\z.natAbs=m:=by
 have f:z.natAbs=m:=by rw[h];cases c<;>simp
 refine⟨?_,f⟩
 by_cases e:m=0
 ·subst e;rw[h,He];cases c<;>simp
 ·have:0<(Bj m).length:=by
   rcases A6w (Bj m).length with d|d
   ·exact absurd (Fq.1 d) e
   ·exact d
  rw[h];cases c<;>simp[this]<;>omega
def Wi{N:Nat}{v:Int}(k:-9223372036854775808<=v/\v<=9223372036854775807)(hN:4<=N):∃ S,A7 S/\val S=v.natAbs/\∀ K:Bool->Nat->LA->O R,O5 N v K=K (decide (v<0)) (Bj v.natAbs).length (A2 S):=by
 have f:v.natAbs<18446744073709551616:=by omega
 obtain⟨S,s1,s2,s3⟩:=lS (R:=R) (N:=N) f hN
 refine⟨S,s1,s2,fun K=>?_⟩
 rw[dI];unfold dH
 by_cases h:v<0
 ·have e:wrap .u64 ((0:Int) - wrap .u64 v)=(v.natAbs:Int):=by rw[mX,mX];omega
  rw[decide_eq_true h,ct,e,s3,T5]
  have j:v.natAbs≠0:=by omega
  have:0<(Bj v.natAbs).length:=by
   rcases A6w (Bj v.natAbs).length with d|d
   ·exact absurd (Fq.1 d) j
   ·exact d
  simp[this]
 ·have e:wrap .u64 v=(v.natAbs:Int):=by rw[mX];omega
  rw[decide_eq_false h,cf,e,s3,T5];rfl
def yn{N:Nat}{neg:Bool}{s:LS}{o:Bool}{K:Int->O R}(hs:A7 s.l)(d:fit s.l.length N):gF N (FU neg s) o K=K (Mq neg s).sign:=by
 rw[sL];unfold xA
 rw[ou,yi rfl hs d]
 unfold Mq
 by_cases h:val s.l=0
 ·rw[h,UQ,show((0:Int)==0)=true by rfl,ct];cases neg<;>rfl
 ·have:Ye (val s.l) 0=1:=by unfold Ye;rw[if_neg (by omega),if_pos (by omega)]
  rw[this,show((1:Int)==0)=false by rfl,cf,lU]
  cases neg
  ·rw[cf];simp only[A7q,if_false]
   congr 1
   rw[A6z];omega
  ·rw[ct];simp only[if_true]
   congr 1
   rw[A6i];omega
def Asg{N:Nat}{n1 n2:Bool}{s1 s2:LS}{o1 o2:Bool}(e:A7 s1.l)(f:A7 s2.l)(j:fit (s1.l.length+s2.l.length) N):∃ S,A7 S/\val S=(Mq n1 s1*Mq n2 s2).natAbs/\∀ K:Bool->Nat->LA->O R,dJ N (FU n1 s1) o1 (FU n2 s2) o2 K=K (decide (Mq n1 s1*Mq n2 s2<0)) (Bj (Mq n1 s1*Mq n2 s2).natAbs).length (A2 S):=by
 obtain⟨S,a1,a2,a3⟩:=Avf (R:=R) (N:=N) (a:=s1.l) (b:=s2.l) (t:=false) (o:=o1) (t':=false) (o':=o2) rfl rfl e f j
 have k:Mq n1 s1*Mq n2 s2=if (!(n1==n2))then -((val s1.l*val s2.l:Nat):Int)else((val s1.l*val s2.l:Nat):Int):=by
  unfold Mq;cases n1<;>cases n2<;>simp[Int.mul_neg,Int.neg_mul]
 obtain⟨c1,d⟩:=J_ k
 refine⟨S,a1,by rw[a2,d],fun K=>?_⟩
 rw[ww];unfold Ae0
 rw[lU,lU,ou,ou,a3,T5,c1,d]
def Ash{N:Nat}{n1 n2:Bool}{s1 s2:LS}{o1 o2:Bool}(j:A7 s1.l)(k:A7 s2.l)(m:fit (s1.l.length+s2.l.length+1) N):∃ S,A7 S/\val S=(Mq n1 s1+Mq n2 s2).natAbs/\∀ K:Bool->Nat->LA->O R,Ae5 N (FU n1 s1) o1 (FU n2 s2) o2 K=K (decide (Mq n1 s1+Mq n2 s2<0)) (Bj (Mq n1 s1+Mq n2 s2).natAbs).length (A2 S):=by
 by_cases hn:n1=n2
 ·subst hn
  obtain⟨S,a1,a2,a3⟩:=Ava (R:=R) (N:=N) (a:=s1.l) (b:=s2.l) (t:=false) (o:=o1) (t':=false) (o':=o2) rfl rfl j k m
  have e:Mq n1 s1+Mq n1 s2=if n1 then -((val s1.l+val s2.l:Nat):Int)else((val s1.l+val s2.l:Nat):Int):=by
   unfold Mq;cases n1<;>simp;omega
  obtain⟨c1,d⟩:=J_ e
  refine⟨S,a1,by rw[a2,d],fun K=>?_⟩
  rw[WQ];unfold mo
  rw[lU,lU,show(n1==n1)=true by simp,ct,lU,ou,ou,a3,T5,c1,d]
 ·have f:(n1==n2)=false:=by simp[hn]
  by_cases n:val s2.l<=val s1.l
  ·obtain⟨S,a1,a2,a3⟩:=Akv (R:=R) (N:=N) (a:=s1.l) (b:=s2.l) (t:=false) (o:=o1) (t':=false) (o':=o2) rfl rfl j k (m.le (by omega)) n
   have e:Mq n1 s1+Mq n2 s2=if n1 then -((val s1.l - val s2.l:Nat):Int)else((val s1.l - val s2.l:Nat):Int):=by
    unfold Mq;cases n1<;>cases n2<;>simp at hn ⊢<;>omega
   obtain⟨c1,d⟩:=J_ e
   refine⟨S,a1,by rw[a2,d],fun K=>?_⟩
   rw[WQ];unfold mo
   rw[lU,lU,f,cf,ou,ou,a3,ct,lU,T5,c1,d]
  ·obtain⟨S,a1,a2,a3⟩:=Akv (R:=R) (N:=N) (a:=s2.l) (b:=s1.l) (t:=false) (o:=o2) (t':=false) (o':=o1) rfl rfl k j (m.le (by omega)) (by omega)
   have e:Mq n1 s1+Mq n2 s2=if n2 then -((val s2.l - val s1.l:Nat):Int)else((val s2.l - val s1.l:Nat):Int):=by
    unfold Mq;cases n1<;>cases n2<;>simp at hn ⊢<;>omega
   obtain⟨c1,d⟩:=J_ e
   refine⟨S,a1,by rw[a2,d],fun K=>?_⟩
   rw[WQ];unfold mo
   rw[lU,lU,f,cf,ou,ou,Avb rfl rfl j k (m.le (by omega)) (by omega),cf,ou,ou,a3,lU,T5,c1,d]
def Aat(x y:Int):Int:=if x<y then -1 else if y<x then 1 else 0
def Avj(z:Int)(d:Nat)(j:d≠0):(mkRat z d).num.natAbs=z.natAbs/Nat.gcd z.natAbs d/\((mkRat z d).num<0↔z<0)/\(mkRat z d).den=d/Nat.gcd z.natAbs d:=by
 have l:0<Nat.gcd z.natAbs d:=A86 _ (by omega)
 rw[Rat.num_mkRat,Rat.den_mkRat,if_neg j,if_neg j,A9j d]
 have e:((Nat.gcd z.natAbs d:Nat):Int)∣z:=Int.dvd_natAbs.1 (Int.natCast_dvd_natCast.2 (A9b _ _))
 obtain⟨c,k⟩:=e
 have m:z.natAbs.gcd d=Nat.gcd z.natAbs d:=rfl
 generalize Nat.gcd z.natAbs d=g at *
 refine⟨?_,?_,rfl⟩
 ·rw[k,A85 _ (by omega),Int.natAbs_mul,A7r,Nat.mul_div_cancel_left _ l]
 ·rw[k,A85 _ (by omega)]
  constructor
  ·intro h;exact Int.mul_neg_of_pos_of_neg (by omega) h
  ·intro h;rcases Int.lt_or_le c 0 with f|f
   ·exact f
   ·have:=Int.mul_nonneg (show(0:Int)<=g by omega) f;omega
structure RatD where
 neg:Bool
 ns:LS
 ds:LS
def RatD.av(x:RatD):LA:=[.bool x.neg,x.ns.av,x.ds.av]
def RatD.ok(x:RatD):Prop:=A7 x.ns.l/\A7 x.ds.l
def RatD.m(x:RatD):Nat:=max x.ns.l.length x.ds.l.length
def RatD.q(x:RatD):Rat:=mkRat (Mq x.neg x.ns) (val x.ds.l)
def RatD.can(x:RatD)(q:Rat):Prop:=x.neg=decide (q.num<0)/\x.ns.l=Bj q.num.natAbs/\x.ds.l=Bj q.den
def qm(q:Rat):Nat:=max (Bj q.num.natAbs).length (Bj q.den).length
def RatD.can.ok{x:RatD}{q:Rat}(h:x.can q):x.ok:=⟨by rw[h.2.1];exact Ba _,by rw[h.2.2];exact Ba _⟩
def RatD.can.m{x:RatD}{q:Rat}(h:x.can q):x.m=qm q:=by unfold RatD.m qm;rw[h.2.1,h.2.2]
def RatD.can.q{x:RatD}{q:Rat}(h:x.can q):x.q=q:=by
 unfold RatD.q Mq
 rw[h.1,h.2.1,h.2.2,Bc,Bc]
 have:(if decide (q.num<0)=true then -(q.num.natAbs:Int)else(q.num.natAbs:Int))=q.num:=by
  by_cases d:q.num<0
  ·rw[if_pos (by simpa using d)];omega
  ·rw[if_neg (by simpa using d)];omega
 rw[this,Rat.mkRat_self]
def Azz{x:RatD}{f:Bool->O R}:QY x.av f=f x.neg:=Ayy
def Az0{x:RatD}{f:LA->Nat->O R}:A5 1 (drop 1 x.av) f=f (A2 x.ns.l) x.ns.l.length:=by rw[RatD.av,A6e,A5k,Aoh]
def Aoi{x:RatD}{f:LA->Nat->O R}:A5 1 (drop 2 x.av) f=f (A2 x.ds.l) x.ds.l.length:=by rw[RatD.av,A6e,A6e,A5k,Aoh]
def Akz(x:RatD):ble 3 (List.length x.av)=true:=rfl
def tV(x:RatD):take 3 x.av=x.av:=rfl
def A1c(x:RatD):take 2 x.av=FU x.neg x.ns:=rfl
def A37(x:RatD):((beq 0 0)&&((beq (List.length x.av) 3)&&(beq 3 3)))=true:=rfl
def A3n(x:RatD):beq (List.length x.av) 3=true:=rfl
def Ayz(n:Bool)(s:LS):((beq 0 0)&&((beq (List.length (FU n s)) 2)&&(beq 2 2)))=true:=rfl
def Aau(n:Bool)(s:LS):ble 2 (List.length (FU n s))=true:=rfl
def A1d(n:Bool)(s:LS):take 2 (FU n s)=FU n s:=rfl
def Asi:A7 [1]:=by intro x hx;simp at hx;omega
def DV:Bj 1=[1]:=by rw[II (by omega)];simp[He]
def Kr{v:Nat}{S:List Nat}(d:A7 S)(e:val S=v):take ((Bj v).length*1) (A2 S)=A2 (Bj v):=by rw[<-e,Arn d]
def Axn(neg:Bool)(l:List Nat)(t o:Bool):([.bool neg,.imm (A2 l) l.length 1 t o]:LA)=FU neg (.of l t o):=rfl
def Axo{z:Int}{t o:Bool}:Mq (decide (z<0)) (.of (Bj z.natAbs) t o)=z:=by
 unfold Mq LS.l;rw[Bc]
 by_cases h:z<0
 ·rw[if_pos (by simpa using h)];omega
 ·rw[if_neg (by simpa using h)];omega
def Aav{N:Nat}{v:Int}(e:-9223372036854775808<=v/\v<=9223372036854775807)(hN:4<=N):∃ d:RatD,d.can (v:Rat)/\∀ K:LA->O R,WR N v K=K d.av:=by
 obtain⟨S,s1,s2,s3⟩:=Wi (R:=R) (N:=N) e hN
 refine⟨⟨decide (v<0),.of (Bj v.natAbs) false false,.of (Bj 1) false false⟩,⟨rfl,rfl,rfl⟩,fun K=>?_⟩
 rw[dL];unfold dK
 rw[s3,Kr s1 s2,DV];rfl
def Aoj{N:Nat}{x:RatD}{o:Bool}(hx:x.ok)(j:fit x.m N):∃(neg:Bool)(s:LS)(l:List Nat)(o1 o2:Bool),A7 s.l/\A7 l/\val l≠0/\s.l.length<=x.m/\l.length<=max x.m 1/\mkRat (Mq neg s) (val l)=x.q/\∀ K:LA->Bool->LA->Nat->Bool->O R,mu N x.av o K=K (FU neg s) o1 (A2 l) l.length o2:=by
 have e:x.ns.l.length<=x.m:=A9l _ _
 have d:x.ds.l.length<=x.m:=Nat.le_max_right _ _
 by_cases f:val x.ds.l=0
 ·refine⟨false,.nil,[1],false,false,TE,Asi,by decide,by simp[LS.l],by simp;omega,?_,fun K=>?_⟩
  ·unfold RatD.q;rw[f];simp[Mq,LS.l,val]
  ·rw[WT];unfold gE
   rw[Aoi,yi rfl hx.2 (j.le d),f,UQ];rfl
 ·refine⟨x.neg,x.ns,x.ds.l,o,o,hx.1,hx.2,f,e,by omega,rfl,fun K=>?_⟩
  have:Ye (val x.ds.l) 0=1:=by unfold Ye;rw[if_neg (by omega),if_pos (by omega)]
  rw[WT];unfold gE
  rw[Aoi,yi rfl hx.2 (j.le d),this,show((1:Int)==0)=false by rfl,cf,show ble 2 (List.length x.av)=true by rfl,ct,Aoi,A1c,Ayz,ct,Aau,ct,A1d]
def A1e(z:Int)(d:Nat)(f:d≠0):(mkRat z d).num.sign=z.sign:=by
 obtain⟨k,j,_⟩:=Avj z d f
 rcases A80 z 0 with h|h|h
 ·rw[A6i h,A6i (j.2 h)]
 ·subst h;simp
 ·have hn:¬ (mkRat z d).num<0:=fun e=>by have:=j.1 e;omega
  have l:(mkRat z d).num≠0:=fun e=>by
   have:mkRat z d=0:=Rat.num_eq_zero.1 e
   rw[Rat.mkRat_eq_zero f]at this;omega
  rw[A6z h,A6z (by omega)]
def yo{N:Nat}{x:RatD}{o:Bool}{K:Int->O R}(hx:x.ok)(d:fit x.m N):mv N x.av o K=K x.q.num.sign:=by
 obtain⟨neg,s,l,o1,o2,e,t,f,j,u,k,n⟩:=Aoj (R:=R) (o:=o) hx d
 rw[sM];unfold xB
 rw[Akz,ct,tV,n,Ayz,ct,Aau,ct,A1d,yn e (d.le j),<-k,A1e _ _ f]
def Acw{N:Nat}{a b c:Nat}{s:Int}(hN:4<=N)(t:a<18446744073709551616)(M:b<9223372036854775808)(u:0<c)(v:c∣a):∀(k fuel x y:Nat),k<fuel->x*y<2 ^ k->y<=x->Nat.gcd x y=c->∃ d:RatD,d.neg=decide (s<0)/\d.ns.l=Bj (a/c)/\d.ds.l=Bj (b/c)/\∀ K:LA->O R,Eg N K s (b:Int) (a:Int) fuel (x:Int) (y:Int)=K d.av:=by
 have base:∀(fuel:Nat),∃ d:RatD,d.neg=decide (s<0)/\d.ns.l=Bj (a/c)/\d.ds.l=Bj (b/c)/\∀ K:LA->O R,Eg N K s (b:Int) (a:Int) (fuel+1) (c:Int) ((0:Nat):Int)=K d.av:=by
  intro fuel
  have n:a/c<18446744073709551616:=A6d (A77 _ _) t
  have q:b/c<18446744073709551616:=A6d (A77 _ _) (by omega)
  obtain⟨S1,s1,s2,s3⟩:=lS (R:=R) (N:=N) n hN
  obtain⟨S2,t1,t2,t3⟩:=lS (R:=R) (N:=N) q hN
  refine⟨⟨decide (s<0),.of (Bj (a/c)) false false,.of (Bj (b/c)) false false⟩,rfl,rfl,rfl,fun K=>?_⟩
  rw[Eg];unfold Ql
  rw[show(((0:Nat):Int) != 0)=false by rfl,cf,Asb (by omega),cf,Akw,RD n,s3,cf,RD (show b<18446744073709551616 by omega),Akw,RD q,t3,Kr s1 s2,Kr t1 t2];rfl
 intro k
 induction k with
| zero =>
  intro fuel x y z e j f
  obtain⟨fuel,rfl⟩:∃ F,fuel=F+1:=⟨fuel - 1,by omega⟩
  have A:y=0:=by
   rcases A6w y with h|h
   ·exact h
   ·have S:=A7m x (show 1<=y by omega)
    rw[A9k]at e;omega
  subst A
  rw[Bab]at f;subst f
  exact base fuel
| succ k C =>
  intro fuel x y z e j f
  obtain⟨fuel,rfl⟩:∃ F,fuel=F+1:=⟨fuel - 1,by omega⟩
  rcases A6w y with h|h
  ·subst h;rw[Bab]at f;subst f;exact base fuel
  ·have T:=Avh (show 1<=y by omega) j
   have U:=A71 x h
   have m:Nat.gcd y (x%y)=Nat.gcd x y:=by rw[A9j,<-Nat.gcd_rec,A9j]
   obtain⟨d,D,G,I,L⟩:=C fuel y (x%y) (by omega) (by rw[A51]at e;omega) (by omega) (by rw[m,f])
   refine⟨d,D,G,I,fun K=>?_⟩
   rw[Eg];unfold Ql
   rw[show((y:Int) != 0)=true by rw[bne_iff_ne];omega,ct,Asb (by omega),cf,Akx]
   exact L K
def Aaw{N:Nat}{s:Int}{b:Nat}(hs:-9223372036854775808<=s/\s<=9223372036854775807)(m:0<b)(x:b<9223372036854775808)(hN:1000<=N):∃ d:RatD,d.can (mkRat s b)/\∀ K:LA->O R,Xx N s (b:Int) K=K d.av:=by
 obtain⟨m1,m2,m3⟩:=Avj s b (by omega)
 have f:∀ d:RatD,d.neg=decide (s<0)->d.ns.l=Bj (s.natAbs/Nat.gcd s.natAbs b)->d.ds.l=Bj (b/Nat.gcd s.natAbs b)->d.can (mkRat s b):=by
  intro d y z A
  exact⟨by rw[y];congr 1;exact propext m2.symm,by rw[z,m1],by rw[A,m3]⟩
 have k:s.natAbs<18446744073709551616:=by omega
 have start:∀ K:LA->O R,Xx N s (b:Int) K=Eg N K s (b:Int) (s.natAbs:Int) N (b:Int) (s.natAbs:Int):=by
  intro K
  rw[ZU];unfold IT Zg GF
  dsimp only
  by_cases h:s<0
  ·have e:wrap .u64 ((0:Int) - wrap .u64 s)=(s.natAbs:Int):=by rw[mX,mX];omega
   rw[decide_eq_true h,ct,e,RD (by omega)]
  ·have e:wrap .u64 s=(s.natAbs:Int):=by rw[mX];omega
   rw[decide_eq_false h,cf,e,RD (by omega)]
 have j:0<Nat.gcd s.natAbs b:=A86 _ m
 by_cases n:s.natAbs<=b
 ·obtain⟨d,q,t,u,v⟩:=Acw (R:=R) (N:=N) (a:=s.natAbs) (b:=b) (c:=Nat.gcd s.natAbs b) (s:=s) (by omega) k x j (A9b _ _) 128 N b s.natAbs (by omega) (by
   have:=A9d (show b<18446744073709551616 by omega) k;exact this) n (A9j _ _)
  exact⟨d,f d q t u,fun K=>by rw[start,v]⟩
 ·obtain⟨F,hF⟩:∃ F,N=F+1:=⟨N - 1,by omega⟩
  obtain⟨d,q,t,u,v⟩:=Acw (R:=R) (N:=N) (a:=s.natAbs) (b:=b) (c:=Nat.gcd s.natAbs b) (s:=s) (by omega) k x j (A9b _ _) 128 F s.natAbs (b%s.natAbs) (by omega) (by
   rw[A59 (by omega)]
   have:=A9d k (show b<18446744073709551616 by omega);exact this) (by rw[A59 (by omega)];omega) (by rw[A59 (by omega)])
  refine⟨d,f d q t u,fun K=>?_⟩
  rw[start,<-v K]
  conv=>lhs;rw[show(Eg N K s (b:Int) (s.natAbs:Int) N)=Eg N K s (b:Int) (s.natAbs:Int) (F+1) by rw[<-hF]]
  rw[Eg];unfold Ql
  rw[show((s.natAbs:Int) != 0)=true by rw[bne_iff_ne];omega,ct,Asb (by omega),cf,Akx]
def Ak0{N:Nat}{a b:Int}{K:Int->O R}:Ws N a b K=K (Aat a b):=by
 rw[G'];unfold BG
 simp only[O_];unfold LO
 rw[show(a != a)=false by simp,show(b != b)=false by simp]
 dsimp only
 rw[cf,cf]
 unfold Aat
 by_cases h:a<b
 ·rw[decide_eq_true h,ct,if_pos h]
 ·rw[decide_eq_false h,cf,if_neg h]
  by_cases d:b<a
  ·rw[decide_eq_true (show a>b from d),ct,if_pos d]
  ·rw[decide_eq_false (show ¬ a>b from d),cf,if_neg d]
def Aax{N:Nat}{a b:Int}{K:Int->O R}:Rz N a b K=K (Aat a b):=by
 rw[AE];unfold Xg
 simp only[HH];unfold BJ
 rw[show(a != a)=false by simp,show(b != b)=false by simp]
 dsimp only
 rw[cf,cf]
 unfold Aat
 by_cases h:a<b
 ·rw[decide_eq_true h,ct,if_pos h]
 ·rw[decide_eq_false h,cf,if_neg h]
  by_cases d:b<a
  ·rw[decide_eq_true (show a>b from d),ct,if_pos d]
  ·rw[decide_eq_false (show ¬ a>b from d),cf,if_neg d]
def Avk{k l:Nat}(h:k<=l):4294967296 ^ k<=4294967296 ^ l:=A54 (by omega) h
def Az1{v k:Nat}(h:(Bj v).length<=k):v<4294967296 ^ k:=by
 have:=O3 (Ba v);rw[Bc]at this
 exact A68 this (Avk h)
def Wj(z:Int):LA:=FU (decide (z<0)) (.of (Bj z.natAbs) false false)
def Avl(z:Int)(K:LA->O R):(cond ((beq 0 0)&&((beq (List.length (Wj z)) 2)&&(beq 2 2))) (cond (ble 2 (List.length (Wj z))) (K (take 2 (Wj z))) none) none)=K (Wj z):=rfl
def A3o(z w:Int):setCells (Wj z) 0 (Wj w)=Wj w:=rfl
def A38(z:Int):take 2 (Wj z)=Wj z:=rfl
def A1f(z:Int):ble 2 (List.length (Wj z))=true:=rfl
def A1g(z:Int):beq (List.length (Wj z)) 2=true:=rfl
def A0q(v:Nat):take ((Bj v).length*1) (A2 (Bj v))=A2 (Bj v):=Kr (Ba _) (Bc v)
def lV{N:Nat}{neg:Bool}{l:List Nat}{n:Nat}{t o:Bool}{K:LA->O R}(hn:n=l.length)(d:A7 l)(e:fit l.length N):TH N neg (A2 l) n t o K=K (Wj (if neg then -(val l:Int)else(val l:Int))):=by
 obtain⟨c1,f⟩:=J_ (z:=if neg then -(val l:Int)else(val l:Int)) (c:=neg) (m:=val l) rfl
 rw[mY];unfold pv
 rw[H5 hn d e,A0q]
 unfold Wj
 rw[<-c1,f]
 cases neg
 ·rfl
 ·rw[show((true:Bool)==true)=true by rfl,ct,Azl];simp[FU,LS.av]
def Aay{N:Nat}{v:Int}{K:LA->O R}(f:-9223372036854775808<=v/\v<=9223372036854775807)(hN:2000<=N):EL N v K=K (Wj v):=by
 have d:v.natAbs<18446744073709551616:=by omega
 have j:=ge d
 rw[ZL];unfold WJ
 by_cases h:v<0
 ·have e:wrap .u64 (wrap .u64 (wrap .i64 ((0:Int) - wrap .i64 (v+1)))+1)=(v.natAbs:Int):=by
   rw[i64 (a:=v+1) (by omega),i64 (by omega),mX,mX];omega
  rw[decide_eq_true h,ct,e,QO d (by omega),A0q,lV rfl (Ba _) ⟨by omega,by omega⟩,Bc]
  have:(if true=true then -(v.natAbs:Int)else(v.natAbs:Int))=v:=by rw[if_pos rfl];omega
  rw[this];exact Avl _ _
 ·have e:wrap .u64 v=(v.natAbs:Int):=by rw[mX];omega
  rw[decide_eq_false h,cf,e,QO d (by omega),A0q,lV rfl (Ba _) ⟨by omega,by omega⟩,Bc]
  have:(if false=true then -(v.natAbs:Int)else(v.natAbs:Int))=v:=by rw[if_neg (by decide)];omega
  rw[this];exact Avl _ _
def Aok{N:Nat}{n:Bool}{s:LS}{o:Bool}{K:LA->O R}(hs:A7 s.l)(d:fit s.l.length N):mZ N (FU n s) o K=K (Wj (Mq n s)):=by
 rw[m0];unfold pw
 rw[lU,ou,lV rfl hs d];exact Avl _ _
end
end Gx
namespace Gx
open Go
def D4(c:UInt8):Bool:=decide (48<=c.toNat)&&decide (c.toNat<=57)
def Kx(s:Lu):Nat:=s.foldl (fun a c=>10*a+(c.toNat - 48)) 0
def Ak1(s:Lu):Bool:=s.all D4&&!s.isEmpty
def Vw(s:Lu):Bool:=Ak1 s&&(s==[48]||s.head? != some 48)
abbrev dec:=Lib.decDigits
def Asj(s:Lu):∀ a,s.foldl (fun a c=>10*a+(c.toNat - 48)) a=a*10 ^ s.length+Kx s:=by
 unfold Kx
 induction s with
|nil=>intro a;simp
|cons c r d =>
  intro a
  rw[A53,A53,d,d (10*0+_),A42,A51,A62,A62]
  have:10*a*10 ^ r.length=a*(10 ^ r.length*10):=by rw[A60 10 a,A6r,A60 10]
  rw[this];omega
def fN(a b:Lu):Kx (a++b)=Kx a*10 ^ b.length+Kx b:=by
 have:=Asj b (Kx a)
 unfold Kx at *
 rw[A6j];exact this
def Ask(a:Lu)(c:UInt8):Kx (a++[c])=10*Kx a+(c.toNat - 48):=by rw[fN];simp[Kx];omega
def rG(c:UInt8)(r:Lu):Kx (c::r)=(c.toNat - 48)*10 ^ r.length+Kx r:=by
 have:=fN [c] r
 simpa[Kx]using this
def Agr{s:Lu}(h:s.all D4=true):Kx s<10 ^ s.length:=by
 induction s with
|nil=>simp[Kx]
|cons c r d =>
  simp only[A5s,A47]at h
  have e:=d h.2
  have f:c.toNat<=57:=by have:=h.1;simp[D4]at this;omega
  rw[rG,A42,A51]
  have:(c.toNat - 48)*10 ^ r.length<=9*10 ^ r.length:=A5y _ (by omega)
  omega
def Ya{u:Nat}(h:u<10):dec u=[UInt8.ofNat (48+u)]:=by rw[dec,Lib.decDigits,dif_pos h]
def YO{u:Nat}(h:10<=u):dec u=dec (u/10)++[UInt8.ofNat (48+u%10)]:=by rw[dec,Lib.decDigits,dif_neg (by omega)]
def gf{k:Nat}(h:k<10):D4 (UInt8.ofNat (48+k))=true/\(UInt8.ofNat (48+k)).toNat=48+k:=by
 have:(UInt8.ofNat (48+k)).toNat=48+k:=by simp;omega
 exact⟨by simp[D4,this];omega,this⟩
def US:∀ u,(dec u).all D4=true:=by
 intro u
 induction u using Nat.strongRecOn with
| ind u d =>
  by_cases h:u<10
  ·rw[Ya h];simpa using(gf h).1
  ·rw[YO (by omega),List.all_append,d (u/10) (by omega)]
   simpa using(gf (k:=u%10) (by omega)).1
def lX(u:Nat):dec u≠[]:=by
 by_cases h:u<10
 ·rw[Ya h];simp
 ·rw[YO (by omega)];simp
def fO:∀ u,Kx (dec u)=u:=by
 intro u
 induction u using Nat.strongRecOn with
|ind u d =>
  by_cases h:u<10
  ·rw[Ya h];simp only[Kx,A53,A7d,(gf h).2];omega
  ·rw[YO (by omega),Ask,d (u/10) (by omega),(gf (k:=u%10) (by omega)).2];omega
def Ak2:∀ u,0<u->(dec u).head?≠some 48:=by
 intro u
 induction u using Nat.strongRecOn with
| ind u f =>
  intro j
  by_cases h:u<10
  ·rw[Ya h]
   intro e
   simp at e
   have:=congrArg UInt8.toNat e
   simp at this;omega
  ·rw[YO (by omega)]
   have:=f (u/10) (by omega) (by omega)
   cases d:dec (u/10)with
   |nil=>exact absurd d (lX _)
   |cons c r=>rw[d]at this;simpa using this
def rH(u:Nat):Vw (dec u)=true:=by
 have d:=US u
 have e:=lX u
 rcases A6w u with h|h
 ·subst h;rw[Ya (by omega)];decide
 ·have f:=Ak2 u h
  simp only[Vw,Ak1,d,A52,A47,A8o,bne_iff_ne]
  refine⟨?_,.inr f⟩
  cases j:dec u with
  |nil=>exact absurd j e
  |cons c r=>rfl
def Axp{u k:Nat}(t:0<k):(dec u).length<=k↔u<10 ^ k:=by
 constructor
 ·intro h
  have:=Agr (US u)
  rw[fO]at this
  exact A68 this (A54 (by omega) h)
 ·intro h
  apply A8x
  intro hn
  have d:k<(dec u).length:=by omega
  have m:0<u:=by
   rcases A6w u with e|e
   ·subst e;rw[Ya (by omega)]at d;simp at d;omega
   ·exact e
  have l:=Ak2 u m
  cases f:dec u with
  |nil=>exact lX u f
  | cons c r =>
   rw[f]at l d
   have n:D4 c=true:=by have:=US u;rw[f]at this;simp at this;exact this.1
   have j:c≠48:=by simpa using l
   have q:1<=c.toNat - 48:=by
    simp[D4]at n
    have:c.toNat≠48:=fun e=>j (A8q.1 (by simpa using e))
    omega
   have s:=fO u
   rw[f,rG]at s
   simp at d
   have v:10 ^ k<=10 ^ r.length:=A54 (by omega) (by omega)
   have x:1*10 ^ r.length<=(c.toNat - 48)*10 ^ r.length:=A5y _ q
   omega
end Gx
namespace Gx
open Go Go.Proofs
section
variable{R:Type}
def Avm{v:Int}(h:v.natAbs<18446744073709551616):qm (v:Rat)<=2:=by
 unfold qm;rw[A6u,A7o,DV]
 have:=ge h
 simp;omega
def Acx{N:Nat}{n1:Bool}{s1:LS}{o1:Bool}{K:Bool->Nat->LA->O R}(d:A7 s1.l)(e:fit s1.l.length N):qG N (FU n1 s1) o1 K=K (decide (-Mq n1 s1<0)) (Bj (Mq n1 s1).natAbs).length (A2 (Bj (Mq n1 s1).natAbs)):=by
 obtain⟨c1,f⟩:=J_ (z:=-Mq n1 s1) (c:=!n1) (m:=val s1.l) (by unfold Mq;cases n1<;>simp)
 rw[wy];unfold Ae1
 rw[lU,ou,Asc rfl d e,T5,c1,tU]
def A4w(z:Int):((beq 0 0)&&((beq (List.length (Wj z)) 2)&&(beq 2 2)))=true:=rfl
def A3p(z:Int):((beq (List.length (Wj z)) 2)&&(true&&(!false)))=true:=rfl
def A3q(z:Int)(f:Bool->O R):QY (Wj z) f=f (decide (z<0)):=lU
def A1t(z:Int)(f:LA->Nat->O R):A5 1 (drop 1 (Wj z)) f=f (A2 (Bj z.natAbs)) (Bj z.natAbs).length:=ou
def Avn(v:Nat):Wj (v:Int)=FU false (.of (Bj v) false false):=by unfold Wj;rw[decide_eq_false (by omega),A7r]
def Ay0(z:Int):Wj z=FU (decide (z<0)) (.of (Bj z.natAbs) false false):=rfl
def jm{N:Nat}{b:Lu}{c:UInt8}{K:Lu->Bool->O R}:Gq N (c::b) [c] K=K b true:=by
 rw[Rf];unfold Pm
 rw[Fx];unfold Ec
 rw[Fw];unfold Eb
 have d:((decide ((((c::b).length:Nat):Int)>=((([c]:Lu).length:Nat):Int)))==true)=true:=by simp;omega
 have e:((decide ((0:Int)<=(0:Int)))&&((decide ((0:Int)<=((([c]:Lu).length:Nat):Int)))&&((decide (((([c]:Lu).length:Nat):Int)<=(((c::b).length:Nat):Int)))&&(decide ((((c::b).length:Nat):Int)<=(((c::b).length:Nat):Int))))))=true:=by simp;omega
 have f:((decide ((0:Int)<=((([c]:Lu).length:Nat):Int)))&&((decide (((([c]:Lu).length:Nat):Int)<=(((c::b).length:Nat):Int)))&&((decide ((((c::b).length:Nat):Int)<=(((c::b).length:Nat):Int)))&&(decide ((((c::b).length:Nat):Int)<=(((c::b).length:Nat):Int))))))=true:=by simp;omega
 rw[d,ct,e,ct,show cond true ((take ([c]:Lu).length (c::b))==[c]) false=true by simp]
 dsimp only
 rw[show(!true)=false by rfl,cf,f,ct]
 simp
def fP{N:Nat}{b:Lu}{c:UInt8}{K:Lu->Bool->O R}(h:b.head?≠some c):Gq N b [c] K=K b false:=by
 rw[Rf];unfold Pm
 rw[Fx];unfold Ec
 rw[Fw];unfold Eb
 cases b with
|nil=>rfl
|cons d r =>
  have e:d≠c:=by simpa using h
  have f:((decide ((((d::r).length:Nat):Int)>=((([c]:Lu).length:Nat):Int)))==true)=true:=by simp;omega
  have j:((decide ((0:Int)<=(0:Int)))&&((decide ((0:Int)<=((([c]:Lu).length:Nat):Int)))&&((decide (((([c]:Lu).length:Nat):Int)<=(((d::r).length:Nat):Int)))&&(decide ((((d::r).length:Nat):Int)<=(((d::r).length:Nat):Int))))))=true:=by simp;omega
  rw[f,ct,j,ct,show cond true ((take ([c]:Lu).length (d::r))==[c]) false=false by simp[e]]
  rfl
def lY{s:Lu}{p:Nat}(h:p<s.length)(d:s[p].toNat<128):FX s (p:Int)=(s[p].toNat,1):=by
 unfold FX
 rw[A45]
 exact decode_ascii ⟨⟨s⟩⟩ p h d
def Asl{s:Lu}{p:Nat}(h:p<s.length)(d:128<=s[p].toNat):128<=(FX s (p:Int)).1:=by
 unfold FX
 rw[A45]
 exact(decode_high ⟨⟨s⟩⟩ p h d).1
def Aaz{N:Nat}{s:Lu}{K:Bool->O R}(hs:s≠[]):∀(m p fuel:Nat),p<=s.length->s.length - p=m->m<fuel->Kn N K s fuel (p:Int)=K ((s.drop p).all D4):=by
 intro m
 induction m with
| zero =>
  intro p fuel e f j
  cases fuel with
  |zero=>omega
  |succ fuel =>
   rw[Kn];unfold Wv
   rw[Fk (by omega),cf,A7j (by omega),show(!(s==([]:Lu)))=true by simp[hs]]
   rfl
| succ m k =>
  intro p fuel e f j
  cases fuel with
  |zero=>omega
  | succ fuel =>
   have d:p<s.length:=by omega
   rw[Kn];unfold Wv
   rw[Er d,ct,A6m d,A5s]
   by_cases l:s[p].toNat<128
   ·rw[lY d l]
    simp only
    by_cases n:s[p].toNat<48
    ·rw[show(decide (((s[p].toNat:Nat):Int)<48)==false)=false by simp;omega,cf]
     have:D4 s[p]=false:=by simp[D4];omega
     rw[this];rfl
    ·rw[show(decide (((s[p].toNat:Nat):Int)<48)==false)=true by simp;omega,ct]
     by_cases q:s[p].toNat>57
     ·rw[show cond false true (decide (((s[p].toNat:Nat):Int)>57))=true by simp;omega,ct]
      have:D4 s[p]=false:=by simp[D4];omega
      rw[this];rfl
     ·rw[show cond false true (decide (((s[p].toNat:Nat):Int)>57))=false by simp;omega,cf]
      have:D4 s[p]=true:=by simp[D4];omega
      rw[this,A52,show((p:Int)+((1:Nat):Int))=((p+1:Nat):Int) by omega]
      exact k (p+1) fuel (by omega) (by omega) (by omega)
   ·have t:=Asl d (by omega)
    have:D4 s[p]=false:=by simp[D4];omega
    rw[this,show(decide ((((FX s (p:Int)).1:Nat):Int)<48)==false)=true by simp;omega,ct,show cond false true (decide ((((FX s (p:Int)).1:Nat):Int)>57))=true by simp;omega,ct]
    rfl
def Aa0{N:Nat}{s:Lu}{K:Bool->O R}(d:s.length<N):Xy N s K=K (Ak1 s):=by
 rw[ZV];unfold IU
 cases s with
|nil =>
  obtain⟨n,rfl⟩:∃ n,N=n+1:=⟨N - 1,by simp at d;omega⟩
  rfl
|cons c r =>
  have:=Aaz (R:=R) (N:=N) (s:=c::r) (K:=K) (by simp) (c::r).length 0 N (by omega) (by omega) d
  refine A7p this ?_
  congr 1
  simp[Ak1]
def ov{N:Nat}{s:Lu}{K:Bool->O R}(k:s.length<N):BL N s K=K (Vw s):=by
 rw[eE];unfold eD
 rw[Aa0 k]
 by_cases d:Ak1 s=true
 ·rw[d,show(true==true)=true by rfl,ct]
  unfold Vw
  rw[d,A52]
  by_cases j:s=[48]
  ·subst j;rfl
  ·have l:(s==[48])=false:=by simpa using j
   rw[l,show(false==false)=true by rfl,ct,A56]
   cases s with
   |nil=>simp[Ak1]at d
   | cons c r =>
    rw[show Ac 0 (c::r).length=true by unfold Ac;simp,ct]
    congr 1
    simp only[cond_true,cond_false,List.getD_cons_zero,List.head?_cons]
    by_cases f:c=48
    ·subst f;rfl
    ·have:((c.toNat:Int) != 48)=true:=by
      rw[bne_iff_ne];intro e
      apply f;apply A8q.1
      have:c.toNat=48:=by omega
      rw[this];rfl
     rw[this]
     have m:((some c:Option UInt8) != some 48)=true:=by rw[bne_iff_ne];simpa using f
     rw[m]
 ·have d:Ak1 s=false:=by simpa using d
  rw[d,show(false==true)=false by rfl,cf]
  unfold Vw
  rw[d];rfl
def rI(s:Lu):Bool:=match s with
|45::r=>Vw r&&!(r==[48])
|s=>Vw s
def jn{N:Nat}{s:Lu}{K:Bool->O R}(d:s.length<N):Xz N s K=K (rI s):=by
 rw[ZW];unfold XN
 by_cases h:s.head?=some 45
 ·obtain⟨r,rfl⟩:∃ r,s=45::r:=by
   cases s with
   |nil=>simp at h
   |cons c r=>simp at h;exact⟨r,by rw[h]⟩
  rw[jm,ov (by simp at d;omega)]
  show _=K (Vw r&&!(r==[48]))
  cases Vw r
  ·rfl
  ·rw[A52];cases r==[48]<;>rfl
 ·rw[fP h,ov d]
  have:rI s=Vw s:=by
   unfold rI
   split
   ·simp at h
   ·rfl
  rw[this]
  cases Vw s<;>rfl
def Ags(s:Lu):Nat:=s.countP D4
def Agt{N:Nat}{s:Lu}{K:Bool->O R}(hs:∀ c∈s,c.toNat<128)(t:s.length<=1000000000000):∀(m p d fuel:Nat),p<=s.length->s.length - p=m->m<fuel->d<=p->Nc N K s fuel (d:Int) (p:Int)=K (decide (4096<d+Ags (s.drop p))):=by
 intro m
 induction m with
| zero =>
  intro p d fuel j k l n
  cases fuel with
  |zero=>omega
  |succ fuel =>
   rw[Nc];unfold Zi
   rw[Fk (by omega),cf,A7j (by omega)]
   congr 1
   rw[decide_eq_decide];simp[Ags];omega
| succ m f =>
  intro p d fuel j k l n
  cases fuel with
  |zero=>omega
  | succ fuel =>
   have e:p<s.length:=by omega
   have q:s[p].toNat<128:=hs _ (A5g e)
   rw[Nc];unfold Zi
   rw[Er e,ct,A6m e,lY e q]
   simp only
   rw[show((p:Int)+((1:Nat):Int))=((p+1:Nat):Int) by omega]
   have hn:Ags (s[p]::s.drop (p+1))=Ags (s.drop (p+1))+(if D4 s[p]then 1 else 0):=by unfold Ags;rw[List.countP_cons]
   rw[hn]
   by_cases u:48<=s[p].toNat
   ·rw[show(decide (((s[p].toNat:Nat):Int)>=48)==true)=true by simp;omega,ct]
    by_cases v:s[p].toNat<=57
    ·rw[show cond true (decide (((s[p].toNat:Nat):Int)<=57)) false=true by simp;omega,ct,wS (by omega),f (p+1) (d+1) fuel (by omega) (by omega) (by omega) (by omega)]
     have:D4 s[p]=true:=by simp[D4];omega
     rw[this,if_pos rfl]
     congr 1;rw[decide_eq_decide];omega
    ·rw[show cond true (decide (((s[p].toNat:Nat):Int)<=57)) false=false by simp;omega,cf,f (p+1) d fuel (by omega) (by omega) (by omega) (by omega)]
     have:D4 s[p]=false:=by simp[D4];omega
     rw[this];rfl
   ·rw[show(decide (((s[p].toNat:Nat):Int)>=48)==true)=false by simp;omega,cf,f (p+1) d fuel (by omega) (by omega) (by omega) (by omega)]
    have:D4 s[p]=false:=by simp[D4];omega
    rw[this];rfl
def ow{N:Nat}{s:Lu}{K:Bool->O R}(hs:∀ c∈s,c.toNat<128)(d:s.length<=1000000000000)(e:s.length<N):BM N s K=K (decide (4096<Ags s)):=by
 rw[eF];unfold PO
 have:=Agt (R:=R) (N:=N) (K:=K) hs d s.length 0 0 N (by omega) (by omega) e (by omega)
 simpa using this
def Avo(m:Nat):(Int.tmod (m:Int) 2==1)=decide (m%2=1):=by
 rw[show Int.tmod (m:Int) 2=((m%2:Nat):Int) by rfl]
 rw[Bool.eq_iff_iff];simp;omega
def Avp{m:Nat}(h:m<=1000000000000):wrap .i64 (Int.tdiv (m:Int) 2)=((m/2:Nat):Int):=by rw[show Int.tdiv (m:Int) 2=((m/2:Nat):Int) by rfl,i64 (by omega)]
def Ap8(n:Bool)(s:LS)(x y:AV):Gh (FU n s) 0 [x,y]=[x,y]:=rfl
def A0r(s:LS):Mq false s=(val s.l:Int):=rfl
def Avq{N:Nat}{s1 s2:LS}{o1 o2:Bool}(d:A7 s1.l)(e:A7 s2.l)(f:fit (s1.l.length+s2.l.length) N):∃ S,A7 S/\val S=val s1.l*val s2.l/\∀ K:Bool->Nat->LA->O R,dJ N (FU false s1) o1 (FU false s2) o2 K=K false (Bj (val s1.l*val s2.l)).length (A2 S):=by
 obtain⟨S,a1,a2,a3⟩:=Asg (R:=R) (N:=N) (n1:=false) (n2:=false) (o1:=o1) (o2:=o2) d e f
 rw[A0r,A0r,<-Int.natCast_mul]at a2 a3
 rw[A7r]at a2 a3
 refine⟨S,a1,a2,fun K=>?_⟩
 rw[a3,decide_eq_false (by omega)]
def lZ{P Q m j:Nat}(hP:1<=P)(hQ:1<=Q)(d:j<=m):P ^ j<=Q*P ^ m:=by
 have e:P ^ j<=P ^ m:=A54 hP d
 have f:1*P ^ m<=Q*P ^ m:=A5y _ hQ
 omega
def Aol{N k:Nat}(G:fit (2*k+4) N):∀(fuel m P Q:Nat)(c:Bool)(s:LS)(S:List Nat),m<fuel->m<=1000000000->1<=P->1<=Q->Q*P ^ m<4294967296 ^ k->A7 s.l->val s.l=P->s.l.length<=k+1->A7 S->val S=Q ->
  ∃ S',A7 S'/\val S'=Q*P ^ m/\∀ K:Bool->Nat->LA->O R,Mb N K fuel (m:Int) c (FU false s) false (Bj Q).length (A2 S)=K false (Bj (Q*P ^ m)).length (A2 S'):=by
 intro fuel
 induction fuel with
|zero=>intro m P Q c s S h;omega
| succ fuel x =>
  intro m P Q c s S T L hP hQ f hs y z hS hSv
  rcases A6w m with A|A
  ·subst A
   refine⟨S,hS,by simp[hSv],fun K=>?_⟩
   rw[Mb];unfold Us
   rw[show decide (((0:Nat):Int)>0)=false by decide,cf,A9k,A5m]
  ·have lQ:(Bj Q).length<=k:=LD (A6d (A9c Q (A8m hP)) f)
   have hPm:P ^ 1<=Q*P ^ m:=lZ hP hQ A
   obtain⟨S1,a1,a2,a3⟩:=Avq (R:=R) (N:=N) (s1:=.of (Bj Q) false true) (s2:=s) (o1:=true) (o2:=c) (Ba _) hs (G.le (show(Bj Q).length+s.l.length<=_ by omega))
   have vQ:val (LS.of (Bj Q) false true).l=Q:=Bc Q
   rw[vQ,y]at a2 a3
   obtain⟨S2,I,C,D⟩:=Avq (R:=R) (N:=N) (s1:=s) (s2:=s) (o1:=c) (o2:=c) hs hs (G.le (show s.l.length+s.l.length<=_ by omega))
   rw[y]at C D
   have sq:∀ n t:Nat,(P*P) ^ n=P ^ (2*n):=fun n t=>by rw[<-Bao,<-A91]
   have gt0:decide ((m:Int)>0)=true:=by simp;omega
   have cell:∀(t:Nat)(u:List Nat),([.bool false,.imm (take ((Bj t).length*1) (A2 u)) (Bj t).length 1 false false]:LA)=[.bool false,.imm (take ((Bj t).length*1) (A2 u)) (Bj t).length 1 false false]:=fun _ _=>rfl
   by_cases d:m%2=1
   ·by_cases M:1<m
    ·have e:Q*P ^ m=(Q*P)*(P*P) ^ (m/2):=by
      rw[sq _ 0,A6r,<-Nat.pow_succ']
      congr 2;omega
     have l2:(Bj (P*P)).length<=k:=LD (A6d (by have:=lZ (j:=2) hP hQ (show 2<=m by omega);rwa [Bao]at this) f)
     obtain⟨S',c1,q,v⟩:=x (m/2) (P*P) (Q*P) (c||false) (.of (Bj (P*P)) false false) S1 (by omega) (by omega) (A9z hP hP) (A9z hQ hP) (by rw[<-e];exact f) (Ba _) (Bc _) (by show(Bj (P*P)).length<=_;omega) a1 a2
     refine⟨S',c1,by rw[q,e],fun K=>?_⟩
     rw[Mb];unfold Us
     rw[gt0,ct,Avo,decide_eq_true d,ct,Aau,ct,A1d,Kr hS hSv,Axn,a3,show decide ((m:Int)>1)=true by simp;omega,ct,ct,ct,D,show((beq 2 2)&&(true&&(!false)))=true by rfl,ct,Avp (by omega),Ap8,Kr I C,Axn,v,e]
    ·have F:m=1:=by omega
     subst F
     obtain⟨S',c1,q,v⟩:=x 0 P (Q*P) c s S1 (by omega) (by omega) hP (A9z hQ hP) (by simpa using f) hs y z a1 a2
     rw[A9k,A5m]at q v
     refine⟨S',c1,by rw[q,Nat.pow_one],fun K=>?_⟩
     rw[Mb];unfold Us
     rw[gt0,ct,Avo,decide_eq_true d,ct,Aau,ct,A1d,Kr hS hSv,Axn,a3,show decide (((1:Nat):Int)>1)=false by decide,cf,Avp (by omega),v,Nat.pow_one]
   ·have M:1<m:=by omega
    have e:Q*P ^ m=Q*(P*P) ^ (m/2):=by
     rw[sq _ 0];congr 2;omega
    have l2:(Bj (P*P)).length<=k:=LD (A6d (by have:=lZ (j:=2) hP hQ (show 2<=m by omega);rwa [Bao]at this) f)
    obtain⟨S',c1,q,v⟩:=x (m/2) (P*P) Q (c||false) (.of (Bj (P*P)) false false) S (by omega) (by omega) (A9z hP hP) hQ (by rw[<-e];exact f) (Ba _) (Bc _) (by show(Bj (P*P)).length<=_;omega) hS hSv
    refine⟨S',c1,by rw[q,e],fun K=>?_⟩
    rw[Mb];unfold Us
    rw[gt0,ct,Avo,decide_eq_false d,cf,show decide ((m:Int)>1)=true by simp;omega,ct,Aau,ct,ct,A1d,D,show((beq 2 2)&&(true&&(!false)))=true by rfl,ct,Avp (by omega),Ap8,Kr I C,Axn,v,e]
def Axq:Bj 10=[10]:=by rw[II (by omega)];simp[He]
def Avr(n:Nat):10 ^ n<4294967296 ^ (n+1):=by
 have d:10 ^ n<=4294967296 ^ n:=A94 (by omega) n
 have e:4294967296 ^ n<4294967296 ^ (n+1):=Nat.pow_lt_pow_right (by omega) (by omega)
 omega
def Asm{N n:Nat}(d:fit (2*n+6) N):∃ S,A7 S/\val S=10 ^ n/\∀(K:Bool->Nat->LA->O R),(O5 N 10 fun g e i=>eG N [.bool g,.imm (i.take (e*1)) e 1 false true] true (n:Int) K)=K false (Bj (10 ^ n)).length (A2 S):=by
 have t:=d.1;have u:=d.2
 obtain⟨S0,a1,a2,a3⟩:=Wi (R:=R) (N:=N) (v:=1) (by omega) (by omega)
 obtain⟨S1,m,q,s⟩:=Wi (R:=R) (N:=N) (v:=10) (by omega) (by omega)
 obtain⟨S',c1,f,j⟩:=Aol (R:=R) (N:=N) (k:=n+1) (d.le (by omega)) N n 10 1 true (.of (Bj 10) false true) S0 (by omega) (by omega) (by omega) (by omega) (by rw[A90];exact Avr n) (Ba _) (Bc _) (by rw[Axq];simp[LS.l]) a1 a2
 rw[A90]at f j
 refine⟨S',c1,f,fun K=>?_⟩
 rw[s,ng];unfold gK
 rw[a3]
 refine A7p ?_ (j K)
 rw[show(10:Int).natAbs=10 by rfl,show(1:Int).natAbs=1 by rfl]at *
 rw[Kr m q]
 rfl
def A3r:(Bj (10 ^ 9)).length<=1:=LD (by decide)
def NX(v:Nat)(a b:Bool):A7 (LS.of (Bj v) a b).l:=Ba v
def Avs{N v:Nat}{o:Bool}{K:Int->O R}(d:fit ((Bj v).length) N):gF N (Wj (v:Int)) o K=K (v:Int).sign:=by
 rw[Avn,yn (NX _ _ _) d,A0r]
 simp only[LS.l]
 rw[Bc]
def Aom{v k:Nat}(h:v<10 ^ k):(dec v).length<=k+1:=by
 have:=(Axp (u:=v) (k:=k+1) (by omega)).2 (A68 h (A54 (by omega) (by omega)))
 exact this
def Axr(k:Nat):4294967296 ^ k<=10 ^ (10*k):=by rw[A91];exact A94 (by decide) _
def yp(v:Nat):(dec v).length<=10*(Bj v).length+1:=Aom (A68 (Az1 (A49 _)) (Axr _))
def Ak3(z:Int)(s:Lu):Lu:=if z<0 then 45::s else s
def Avt{a b:Nat}(h:a<=b):ble a b=true:=by simpa using h
def yq(z:Int):Lu:=Ak3 z (dec z.natAbs)
def yr{v:Nat}(d:v<10):(take ((wrap .u64 ((v:Int)+1)).toNat - (v:Int).toNat) (drop (v:Int).toNat ([48,49,50,51,52,53,54,55,56,57]:Lu)))=[UInt8.ofNat (48+v)]:=by
 rw[show(v:Int)+1=((v+1:Nat):Int) by omega,RD (by omega),A45,A45]
 rcases v with _|_|_|_|_|_|_|_|_|_|v<;>first|rfl|omega
def Ak4{v:Nat}(d:v<10):((decide (0<=(v:Int)))&&((decide ((v:Int)<=(wrap .u64 ((v:Int)+1))))&&((decide ((wrap .u64 ((v:Int)+1))<=10))&&(decide ((10:Int)<=(10:Int))))))=true:=by
 rw[show(v:Int)+1=((v+1:Nat):Int) by omega,RD (by omega)]
 simp;omega
def A1h{N v:Nat}{t o:Bool}{K:Nat->Nat->Bool->LA->LA->O R}(d:fit ((Bj v).length+6) N):Xe N (A2 (Bj v)) (Bj v).length t o [.int .u32 10] 1 false true K=K (Bj (v/10)).length (Bj (v%10)).length true (A2 (Bj (v/10))) (A2 (Bj (v%10))):=by
 have:=Agq (R:=R) (N:=N) (a:=Bj v) (b:=[10]) (t:=t) (o:=o) (t':=false) (o':=true) (K:=K) rfl rfl (Ba _) (by intro x hx;simp at hx;omega) (by decide) (d.le (by simp))
 rw[Bc]at this
 exact this
def Avu{N v:Nat}{K:Int->Bool->O R}(e:v<10)(d:fit 1 N):O4 N (take ((Bj v).length*1) (A2 (Bj v))) (Bj v).length false true K=K (v:Int) true:=by
 have:(Bj v).length<=1:=LD (by omega)
 rw[A0q,JO rfl (Ba _) (d.le (by omega)),Bc,if_pos (by omega)]
def Agu{N:Nat}{l:LA}{c:Nat}{e d:Bool}{K:Lu->O R}:∀(fuel v:Nat)(f:Lu),0<v->(dec v).length<=fuel->(dec v).length+f.length<=100000000000->fit ((Bj v).length+6) N->Wa N K l c e d fuel (Bj v).length f (A2 (Bj v))=K (dec v++f):=by
 intro fuel
 induction fuel with
|zero=>intro v f _ h;exact absurd (A7g.1 (by omega)) (lX v)
| succ fuel m =>
  intro v f t n q j
  have k:v%10<10:=A71 _ (by omega)
  have hs:(([UInt8.ofNat (48+v%10)]:Lu).length)=1:=rfl
  rw[Wa];unfold LY
  rw[A0q,A1h j,Avu k (j.le (by omega)),Ak4 k,ct,yr k,Avt (by rw[hs];omega),ct]
  by_cases h:v<10
  ·rw[A7h h,He,show(((([]:List Nat).length:Nat):Int)==0)=true by rfl,ct,Ya h,A59 h]
  ·have s:0<v/10:=Nat.div_pos (by omega) (by omega)
   rw[Asb (fun e=>by have:=Fq.1 e;omega),cf]
   rw[YO (by omega),A41,A5w]at n q
   rw[m (v/10) _ s (by omega) (by rw[A41,hs];omega) (j.le (by have:=Mz (A77 v 10);omega)),YO (u:=v) (by omega),A5e]
def pA{N v:Nat}{e d:Bool}{K:Lu->O R}(f:fit ((Bj v).length+6) N):BI N (A2 (Bj v)) (Bj v).length e d K=K (dec v):=by
 have q:=f.1;have s:=f.2
 have t:=yp v
 rw[dV];unfold PH
 obtain⟨n,rfl⟩:∃ n,N=n+1:=⟨N - 1,by omega⟩
 have j:v%10<10:=A71 _ (by omega)
 have hs:(([UInt8.ofNat (48+v%10)]:Lu).length)=1:=rfl
 rw[Wb];unfold LZ
 rw[A1h f,Avu j (f.le (by omega)),Ak4 j,ct,yr j,Avt (by rw[hs];omega),ct]
 by_cases h:v<10
 ·rw[A7h h,He,show(((([]:List Nat).length:Nat):Int)==0)=true by rfl,ct,Ya h,A59 h];rfl
 ·have k:0<v/10:=Nat.div_pos (by omega) (by omega)
  have l:=yp (v/10)
  have m:=Mz (A77 v 10)
  rw[Asb (fun e=>by have:=Fq.1 e;omega),cf,A5h]
  exact(Agu (R:=R) n (v/10) _ k (by omega) (by rw[hs];omega) (f.le (by omega))).trans (by rw[YO (u:=v) (by omega)])
def Avv{N:Nat}{z:Int}{u:Bool}{K:Lu->O R}(d:fit ((Bj z.natAbs).length+6) N):Wc N (Wj z) u K=K (yq z):=by
 have e:=d.2
 have f:=yp z.natAbs
 rw[PI];unfold L_
 rw[A1f,ct,A38,Ay0,Aok (NX _ _ _) (d.le (by show(Bj z.natAbs).length<=_;omega)),Axo,<-Ay0,A3p,ct,A3o,A3q]
 unfold yq Ak3
 by_cases h:z<0
 ·rw[decide_eq_true h,ct,A1t,pA d,Avt (by omega),ct,if_pos h];rfl
 ·rw[decide_eq_false h,cf,A1t,pA d,if_neg h]
end
end Gx
namespace Gx.Ct
open Go Go.Proofs Gx.Cf
def NY:B9:=fun z h=>A6k (Lib.itoa_length_le z h.1 h.2) (by decide)
def Zz(z:Int):tx z=yq z:=by
 unfold tx Lib.itoa yq Ak3
 by_cases d:z<0
 ·rw[if_pos d,if_pos d]
 ·rw[if_neg d,if_neg d];unfold dec
  first|rfl|(rw[show z.toNat=z.natAbs by omega])
def Avw(u:Nat):Lib.decDigits u≠[]/\(Lib.decDigits u).getLast?≠some 10:=by
 have d:(Lib.decDigits u).length≠0:=by rw[Lib.decDigits_length];rw[Lib.nDigits];split<;>omega
 refine⟨fun e=>d (by rw[e];rfl),fun e=>?_⟩
 rw[Lib.decDigits]at e
 split at e
 ·simp at e
  rename_i h
  have:u=0\/u=1\/u=2\/u=3\/u=4\/u=5\/u=6\/u=7\/u=8\/u=9:=by omega
  rcases this with rfl|rfl|rfl|rfl|rfl|rfl|rfl|rfl|rfl|rfl<;>revert e<;>decide
 ·rw[A8k]at e
  simp at e
  generalize f:u%10=v at e
  have:v=0\/v=1\/v=2\/v=3\/v=4\/v=5\/v=6\/v=7\/v=8\/v=9:=by omega
  rcases this with rfl|rfl|rfl|rfl|rfl|rfl|rfl|rfl|rfl|rfl<;>revert e<;>decide
def Ak5(z:Int):Ams (tx z):=by
 unfold tx Lib.itoa
 split
 ·obtain⟨d,e⟩:=Avw z.natAbs
  refine⟨by simp,?_⟩
  rw[show(45::Lib.decDigits z.natAbs)=[45]++Lib.decDigits z.natAbs from rfl,EK d]
  exact e
 ·exact Avw _
def A1i{R:Type}{N:Nat}(hN:1000000000<N):FI R N:=fun z d K=>by
 rw[Aay d (by omega),Avv,Zz]
 have:=ge (v:=z.natAbs) (by unfold Yb at d;omega)
 exact⟨by omega,by omega⟩
def Js{lo hi v:Int}(h:G6 lo hi v=true)(d:-1000000000000000000<=lo)(e:hi<=1000000000000000000):Yb v:=by unfold G6 at h;simp only[A47,decide_eq_true_eq]at h;unfold Yb;omega
def HY{v:Int}(h:-1000000000000000000<=v/\v<=1000000000000000000):Yb v:=by unfold Yb;omega
def yt{f:FracD}(h:O1 f=true):Yb f.num/\Yb f.den:=by
 unfold O1 at h;simp only[A47]at h
 exact⟨Js h.2 (by decide) (by decide),Js h.1 (by decide) (by decide)⟩
def UT{M:Nat}(hM:1000<=M){c:CaseD}(g:FR c):CaseI M c/\ListsOk c:=by
 obtain⟨H,res,bs,ls,us,ss,ts,os,b,og,t,rfl⟩:=g
 have h:=b.h;have bl:=b.bl;have ll:=b.ll;have ul:=b.ul;have sl:=b.sl;have tl:=b.tl;have ol:=og.l
 refine⟨⟨HY (by simp only[bH];omega),⟨fun z d=>HY (by have:=b.rr z d;omega),by have:=b.rl;simp only[bH,Sl.l];omega⟩,fun x hx=>?_,fun x hx=>?_,fun x hx=>?_,fun x hx=>?_,fun x hx=>?_,fun x hx=>?_⟩,
  ⟨by simp only[bH,Sl.l];omega,by simp only[bH,Sl.l];omega,by simp only[bH,Sl.l];omega,by simp only[bH,Sl.l];omega,by simp only[bH,Sl.l];omega,by simp only[bH,Sl.l];omega⟩⟩
 all_goals simp only[bH,Sl.l]at hx
 ·obtain⟨i,hi,rfl⟩:=A5q hx
  have g:=b.bg i hi
  exact⟨⟨fun z d=>HY (by have:=g.dr z d;omega),by have:=g.dl;omega⟩,HY (by have:=g.shed;omega)⟩
 ·obtain⟨i,hi,rfl⟩:=A5q hx
  have g:=(b.lg i hi).g
  have f:=g.re;have j:=g.smin;have e:=g.smax;have n:=g.lim;have k:=g.em
  simp only[A47]at f j e
  refine⟨yt f.1,yt j.1,yt e.1,⟨Js n (by decide) (by decide),?_⟩,fun z d=>HY (by have:=g.awr z d;omega),by have:=g.aw;omega⟩
  unfold G6 at n k
  simp only[A47,decide_eq_true_eq]at n k
  exact HY (by omega)
 ·obtain⟨i,hi,rfl⟩:=A5q hx
  have g:=b.ug i hi
  have so:=A5n.1 g.sok
  refine⟨?_,⟨fun s hs=>?_,by have:=g.sl;omega⟩,fun z d=>HY (by have:=g.awr z d;omega),by have:=g.aw;omega⟩
  ·have f:=g.min;have j:=g.max;have e:=g.startRamp;have n:=g.stopRamp;have k:=g.output
   unfold G6 at f j e n k
   simp only[A47,decide_eq_true_eq]at f j e n k
   intro z d
   simp only[A5b,A5l,or_false]at d
   rcases d with rfl|rfl|rfl|rfl|rfl|rfl|rfl|rfl|rfl|rfl|rfl|rfl|rfl|rfl|rfl|rfl|rfl
   ·exact HY (by omega)
   ·exact HY (by omega)
   ·exact Js g.noLoad (by decide) (by decide)
   ·exact Js g.rampUp (by decide) (by decide)
   ·exact Js g.rampDown (by decide) (by decide)
   ·exact HY (by omega)
   ·exact HY (by omega)
   ·exact Js g.upTime (by decide) (by decide)
   ·exact Js g.downTime (by decide) (by decide)
   ·exact Js g.startTime (by decide) (by decide)
   ·exact Js g.hotCost (by decide) (by decide)
   ·exact Js g.coldCost (by decide) (by decide)
   ·exact Js g.hotHours (by decide) (by decide)
   ·exact Js g.reserve (by decide) (by decide)
   ·exact Js g.reservePrice (by decide) (by decide)
   ·exact Js g.hours (by decide) (by decide)
   ·refine HY ?_
    cases hs:us[i].state==2<;>rw[hs]at k<;>simp at k<;>omega
  ·have:=so s hs
   unfold nA at this
   simp only[A47]at this
   exact⟨Js this.1 (by decide) (by decide),Js this.2 (by decide) (by decide)⟩
 ·have g:=b.sg x hx
  have f:=g.cap;have j:=g.ini;have e:=g.fin;have n:=g.ch;have k:=g.dis;have u:=g.eff
  refine⟨fun z d=>?_⟩
  simp only[A5b,A5l,or_false]at d
  rcases d with rfl|rfl|rfl|rfl|rfl|rfl|rfl<;>exact HY (by omega)
 ·have g:=b.tg x hx
  have f:=g.il;have j:=g.el;have e:=g.pl
  exact⟨⟨fun z d=>HY (by have:=g.ir z d;omega),by omega⟩,⟨fun z d=>HY (by have:=g.er z d;omega),by omega⟩,⟨fun z d=>HY (by have:=g.pr z d;omega),by omega⟩⟩
 ·obtain⟨i,hi,rfl⟩:=A5q hx
  have g:=og.g i hi
  have f:=g.ll;have j:=g.ml;have e:=A5n.1 g.mi
  refine⟨by omega,fun m q=>?_,by omega⟩
  have:=e m q
  unfold Ai1 at this
  simp only[A47]at this
  exact⟨Js this.1 (by decide) (by decide),Js this.2 (by decide) (by decide)⟩
end Gx.Ct
namespace Gx
open Go Go.Proofs
section
variable{R:Type}
def Ak6:∀(s:Lu)(d k:Nat),d<10 ^ k->s.length+k<=18->s.all D4=true->Lib.parseUint10 d s=.ok (d*10 ^ s.length+Kx s)
|[],d,_,_,_,_=>by simp[Lib.parseUint10,Kx]
|c::r,d,k,q,n,f=>by
  simp only[A5s,A47]at f
  have m:=f.1
  simp[D4]at m
  simp only[A42]at n
  have e:10 ^ (k+1)<=10 ^ 18:=A54 (by omega) (by omega)
  rw[A51]at e
  have j:d*10+(c.toNat - 48)<10 ^ k*10:=by omega
  have l:(10:Nat) ^ 18=1000000000000000000:=by decide
  rw[l]at e
  rw[Lib.parseUint10,if_pos m,if_neg (by omega),if_neg (by omega),Ak6 r (d*10+(c.toNat - 48)) (k+1) (by rw[A51];exact j) (by omega) f.2,rG,A42,A51,A62]
  congr 1
  rw[show d*10*10 ^ r.length=d*(10 ^ r.length*10) by rw[A6r,A60 10]]
  omega
def Asn{N:Nat}{s:Lu}{K:Int->O R}(hs:s.all D4=true)(d:s≠[])(e:s.length<=18):IN N s K=K (Kx s:Int):=by
 have f:=Agr hs
 have j:10 ^ s.length<=10 ^ 18:=A54 (by omega) e
 have k:(10:Nat) ^ 18=1000000000000000000:=by decide
 have key:Lib.atoiAll s=.ok (Kx s:Int):=by
  cases s with
  |nil=>exact absurd rfl d
  |cons c r =>
   have l:D4 c=true:=by simp only[A5s,A47]at hs;exact hs.1
   simp[D4]at l
   rw[Lib.atoiAll_plain c r (by omega) (by omega),Lib.parseMag,if_neg d,Ak6 (c::r) 0 0 (by decide) (by omega) hs,A70,A5j,Lib.signless,if_neg (by omega)]
 rw[N8];unfold Q5
 rw[Avt (by omega),ct,key]
def Axs(k:Nat):10 ^ k<4294967296 ^ (k+1):=Avr k
def Ay1{v k:Nat}(h:v<10 ^ k):(Bj v).length<=k+1:=LD (Nat.lt_trans h (Axs k))
def FK{N:Nat}{c:Bool}{q:Nat}{S9:List Nat}{K:LA->O R}(Y:A7 S9)(h2:val S9=10 ^ q)(hq:q=9):∀(fuel j v:Nat)(g:Lu)(S:List Nat),g.length<fuel->g.all D4=true->v<10 ^ j->(v=0\/g.length%9=0)->fit (j+g.length+20) N->A7 S->val S=v ->
  Mc N K c false (Bj (10 ^ q)).length (A2 S9) fuel g false (Bj v).length (A2 S)=K (Wj (if c then -((v*10 ^ g.length+Kx g:Nat):Int)else((v*10 ^ g.length+Kx g:Nat):Int))):=by
 intro fuel
 induction fuel with
|zero=>intro j v g S h;omega
| succ fuel ih =>
  intro j v g S hl z C m k hS hSv
  have f1:=k.1;have f2:=k.2
  have D:(Bj (10 ^ q)).length<=1:=by rw[hq];exact A3r
  have hdv:=Ay1 C
  rw[Mc];unfold RR
  cases n:g with
  | nil =>
   rw[show(!(([]:Lu)==[]))=false by rfl,cf]
   rw[show v*10 ^ ([]:Lu).length+Kx []=v by simp[Kx]]
   cases c
   ·rw[cf,Kr hS hSv,if_neg (by simp)]
    congr 1
   ·rw[ct,Kr hS hSv,Axn,Acx (NX _ _ _) (k.le (by show(Bj v).length<=_;omega)),A0r,show val (LS.of (Bj v) false true).l=v from Bc v,A7r,A0q,if_pos rfl]
    congr 1
    unfold Wj
    rw[Int.natAbs_neg,A7r];rfl
  | cons d r =>
   rw[<-n]
   have s:g≠[]:=by rw[n];simp
   have I:=A93.2 s
   rw[show(!(g==[]))=true by simp[s],ct]
   have step:∀ o:Nat,1<=o->o<=9->o<=g.length->(g.length - o)%9=0->(v=0\/o=q)->Zj N (Mc N K c false (Bj (10 ^ q)).length (A2 S9) fuel) K c false (Bj (10 ^ q)).length (A2 S9) g (o:Int) false (Bj v).length (A2 S)=K (Wj (if c then -((v*10 ^ g.length+Kx g:Nat):Int)else((v*10 ^ g.length+Kx g:Nat):Int))):=by
    intro o o1 o9 ol om oz
    have L:(g.take o).all D4=true:=by
     rw[A5n]at z ⊢;exact fun x hx=>z x (A8l hx)
    have f:(g.take o).length=o:=by rw[A58];omega
    have t:(g.drop o).length=g.length - o:=List.length_drop ..
    have u:=Agr L
    rw[f]at u
    have A:10 ^ o<=10 ^ q:=A54 (by omega) (by omega)
    have e9:10 ^ q=1000000000:=by rw[hq]
    obtain⟨S1,a1,a2,a3⟩:=Avq (R:=R) (N:=N) (s1:=.of (Bj v) false true) (s2:=.of (Bj (10 ^ q)) false true) (o1:=true) (o2:=true) (NX _ _ _) (NX _ _ _) (k.le (by have:=D;show(Bj v).length+(Bj (10 ^ q)).length<=_;omega))
    rw[show val (LS.of (Bj v) false true).l=v from Bc v,show val (LS.of (Bj (10 ^ q)) false true).l=10 ^ q from Bc _]at a2 a3
    obtain⟨S2,b1,M,T⟩:=Wi (R:=R) (N:=N) (v:=(Kx (g.take o):Int)) (by omega) (by omega)
    rw[A7r]at M T
    have hm:v*10 ^ q<10 ^ (j+q):=by rw[A7z];exact Nat.mul_lt_mul_of_pos_right C (A8m (by omega))
    have hdm:=Ay1 hm
    have hdx:(Bj (Kx (g.take o))).length<=1:=LD (by omega)
    obtain⟨S3,c1,U,V⟩:=Ash (R:=R) (N:=N) (n1:=false) (n2:=false) (s1:=.of (Bj (v*10 ^ q)) false true) (s2:=.of (Bj (Kx (g.take o))) false true) (o1:=true) (o2:=true) (NX _ _ _) (NX _ _ _) (k.le (by show(Bj (v*10 ^ q)).length+(Bj (Kx (g.take o))).length+1<=_;omega))
    rw[A0r,A0r,show val (LS.of (Bj (v*10 ^ q)) false true).l=v*10 ^ q from Bc _,show val (LS.of (Bj (Kx (g.take o))) false true).l=Kx (g.take o)from Bc _,Aeq,A7r]at U V
    unfold Zj
    rw[show((decide ((0:Int)<=(0:Int)))&&((decide (0<=(o:Int)))&&((decide ((o:Int)<=((g.length:Nat):Int)))&&(decide (((g.length:Nat):Int)<=((g.length:Nat):Int))))))=true by simp;omega,ct,A45]
    rw[Asn L (by intro e;rw[e]at f;simp at f;omega) (by omega)]
    rw[Kr hS hSv,Kr Y h2,Axn,Axn,a3,T,Kr a1 a2,Kr b1 M,Axn,show decide (((Kx (g.take o):Nat):Int)<0)=false by simp,Axn,V]
    rw[show decide (((v*10 ^ q+Kx (g.take o):Nat):Int)<0)=false by rw[decide_eq_false_iff_not];omega]
    rw[show((decide (0<=(o:Int)))&&((decide ((o:Int)<=((g.length:Nat):Int)))&&((decide (((g.length:Nat):Int)<=((g.length:Nat):Int)))&&(decide (((g.length:Nat):Int)<=((g.length:Nat):Int))))))=true by simp;omega,ct]
    rw[A44 (l:=g.drop o) (by omega)]
    have F:v*10 ^ q+Kx (g.take o)<10 ^ (j+q):=by
     rcases oz with oz|oz
     ·subst oz;rw[A70,A5j]
      have:10 ^ q<=10 ^ (j+q):=A54 (by omega) (by omega)
      omega
     ·have:(v+1)*10 ^ q<=10 ^ j*10 ^ q:=A5y _ C
      rw[A62,A90]at this
      rw[A7z];omega
    have G:v*10 ^ q+Kx (g.take o)<10 ^ (j+o):=by
     rcases oz with oz|oz
     ·subst oz;rw[A70,A5j]
      have:10 ^ o<=10 ^ (j+o):=A54 (by omega) (by omega)
      omega
     ·rw[show j+o=j+q by rw[oz]];exact F
    rw[ih (j+o) (v*10 ^ q+Kx (g.take o)) (g.drop o) S3 (by omega) (by rw[A5n]at z ⊢;exact fun x hx=>z x (List.mem_of_mem_drop hx)) G (.inr (by rw[t];exact om)) (k.le (by omega)) c1 U]
    have e:(v*10 ^ q+Kx (g.take o))*10 ^ (g.drop o).length+Kx (g.drop o)=v*10 ^ g.length+Kx g:=by
     have X:=fN (g.take o) (g.drop o)
     rw[A9p]at X
     rw[X,A62,A6l]
     congr 1
     rcases oz with oz|oz
     ·subst oz;simp
     ·rw[A6r,<-A7z,t];congr 2;omega
    rw[e]
   have y:Int.tmod (g.length:Int) 9=((g.length%9:Nat):Int):=rfl
   rw[y]
   by_cases A:g.length%9=0
   ·rw[A,show(((0:Nat):Int)==0)=true by rfl,ct]
    exact step 9 (by omega) (by omega) (by omega) (by omega) (.inr hq.symm)
   ·rw[Asb A,cf]
    exact step (g.length%9) (by omega) (by omega) (Nat.mod_le _ _) (by omega) (.inl (by rcases m with m|m;exact m;exact absurd m A))
def NZ(s:Lu):Int:=match s with
|45::r=>-((Kx r:Nat):Int)
|s=>((Kx s:Nat):Int)
def YP(s:Lu):Bool:=match s with
|45::r=>r.all D4
|s=>s.all D4
def FL{N:Nat}{s:Lu}{K:LA->O R}(hs:YP s=true)(d:fit (s.length+30) N):BN N s K=K (Wj (NZ s)):=by
 have k:=d.1;have m:=d.2
 obtain⟨S0,a1,a2,a3⟩:=Wi (R:=R) (N:=N) (v:=0) (by omega) (by omega)
 obtain⟨S,e,f,j⟩:=Asm (R:=R) (N:=N) (n:=9) (d.le (by omega))
 rw[jd];unfold XO
 by_cases h:s.head?=some 45
 ·obtain⟨r,rfl⟩:∃ r,s=45::r:=by
   cases s with
   |nil=>simp at h
   |cons c r=>simp at h;exact⟨r,by rw[h]⟩
  rw[jm,a3]
  refine A7p (j _) ?_
  have:=FK (R:=R) (N:=N) (c:=true) (K:=K) e f rfl N 0 0 r S0 (by rw[A42]at k;omega) hs (by decide) (.inl rfl) (d.le (by rw[A42];omega)) a1 a2
  rw[A70,A5j]at this
  exact this
 ·have e1:NZ s=((Kx s:Nat):Int):=by
   unfold NZ
   split
   ·simp at h
   ·rfl
  have l:s.all D4=true:=by
   rw[<-hs];unfold YP
   split
   ·simp at h
   ·rfl
  rw[fP h,a3]
  refine A7p (j _) ?_
  have:=FK (R:=R) (N:=N) (c:=false) (K:=K) e f rfl N 0 0 s S0 (by omega) l (by decide) (.inl rfl) (d.le (by omega)) a1 a2
  rw[A70,A5j]at this
  rw[e1]
  exact this
def gg{s:Lu}(h:Vw s=true):s.all D4=true:=by simp only[Vw,Ak1,A47]at h;exact h.1.1
def gh{s:Lu}(h:rI s=true):YP s=true:=by
 by_cases d:s.head?=some 45
 ·obtain⟨r,rfl⟩:∃ r,s=45::r:=by
   cases s with
   |nil=>simp at d
   |cons c r=>simp at d;exact⟨r,by rw[d]⟩
  have h:(Vw r&&!(r==[48]))=true:=h
  simp only[A47]at h;exact gg h.1
 ·have e1:rI s=Vw s:=by
   unfold rI;split
   ·simp at d
   ·rfl
  have e:YP s=s.all D4:=by
   unfold YP;split
   ·simp at d
   ·rfl
  rw[e];rw[e1]at h;exact gg h
def Acy{s:Lu}(h:s.all D4=true):∀ c∈s,c.toNat<128:=by
 intro c d
 have:=A5n.1 h c d
 simp[D4]at this;omega
def Ak7{s:Lu}(h:YP s=true):∀ c∈s,c.toNat<128:=by
 unfold YP at h
 split at h
 ·intro c d
  rcases A5b.1 d with rfl|d
  ·decide
  ·exact Acy h c d
 ·exact Acy h
def Aa1{N:Nat}{s:Lu}{K:LA->Int->O R}(hs:rI s=true)(d:fit (s.length+30) N):PP N s K=if 4096<Ags s then K [.bool false,.nsl] 8 else K (Wj (NZ s)) 0:=by
 have e:=d.1;have f:=d.2
 rw[ZX];unfold XP
 rw[jn (by omega),hs,show(!true)=false by rfl,cf,ow (Ak7 (gh hs)) (by omega) (by omega)]
 by_cases h:4096<Ags s
 ·rw[decide_eq_true h,ct,if_pos h]
 ·rw[decide_eq_false h,cf,FL (gh hs) d,A4w,ct,A1f,ct,A38,if_neg h]
def Avx(u:Nat):rI (dec u)=true:=by
 have d:=rH u
 unfold rI
 split
 ·rename_i r e
  have:=gg d
  rw[e]at this
  simp only[A5s,A47]at this
  exact absurd this.1 (by decide)
 ·exact d
def Aon(u:Nat):NZ (dec u)=(u:Int):=by
 unfold NZ
 split
 ·rename_i r d
  have:=gg (rH u)
  rw[d]at this
  simp only[A5s,A47]at this
  exact absurd this.1 (by decide)
 ·rw[fO]
def gi(z:Int):rI (yq z)=true:=by
 unfold yq Ak3
 by_cases h:z<0
 ·rw[if_pos h]
  show(Vw (dec z.natAbs)&&!(dec z.natAbs==[48]))=true
  rw[rH,A52]
  simp only[A8z,beq_eq_false_iff_ne]
  intro e
  have:=congrArg Kx e
  rw[fO]at this
  have:z.natAbs=0:=this
  omega
 ·rw[if_neg h];exact Avx _
def fQ(z:Int):NZ (yq z)=z:=by
 unfold yq Ak3
 by_cases h:z<0
 ·rw[if_pos h]
  show -((Kx (dec z.natAbs):Nat):Int)=z
  rw[fO];omega
 ·rw[if_neg h,Aon];omega
def l7(c b:UInt8)(l:Lu):Lib.index (b::l) [c]=if c=b then 0 else if Lib.index l [c]=-1 then -1 else Lib.index l [c]+1:=by
 rw[Lib.index]
 have f:([c].isPrefixOf (b::l)=true)↔c=b:=by simp[List.isPrefixOf]
 by_cases h:c=b
 ·rw[if_pos (f.2 h),if_pos h]
 ·rw[if_neg (fun e=>h (f.1 e)),if_neg h]
  by_cases d:Lib.index l [c]=-1
  ·rw[d];rfl
  ·rw[if_neg (by simpa using d),if_neg d]
def Ak8(c:UInt8):∀ s:Lu,c∉s->Lib.index s [c]=-1
|[],_=>rfl
|b::l,h=>by rw[l7,if_neg (fun e=>h (by simp[e])),Ak8 c l (fun e=>h (by simp[e])),if_pos rfl]
def UU(c:UInt8)(b:Lu):∀ a:Lu,c∉a->Lib.index (a++c::b) [c]=(a.length:Int)
|[],_=>by rw[A50,l7,if_pos rfl];rfl
|d::l,h=>by
  have:=UU c b l (fun e=>h (by simp[e]))
  rw[A5i,l7,if_neg (fun e=>h (by simp[e])),this,if_neg (by omega),A42];omega
def Az2{c:UInt8}{s:Lu}(h:c∉s):Lib.cut s [c]=(s,[],false):=by unfold Lib.cut;rw[Ak8 c s h,if_neg (by omega)]
def Avy{c:UInt8}{a b:Lu}(h:c∉a):Lib.cut (a++c::b) [c]=(a,b,true):=by
 unfold Lib.cut;rw[UU c b a h,if_pos (by omega),A45]
 rw[A9w,A5w,<-List.drop_drop,A8u];rfl
def Axt{N:Nat}{s t:Lu}{K:Lu->Lu->Bool->O R}(h:s.length<=4294967280):strings_Cut N s t K=K (Lib.cut s t).1 (Lib.cut s t).2.1 (Lib.cut s t).2.2:=by rw[Qi];unfold Ul;rw[Avt h,ct]
def Aso{N:Nat}{s:Lu}{K:Lu->Lu->Bool->O R}(hs:rI s=true)(d:s.length<N):eJ N s K=K s [49] true:=by
 rw[nv];unfold gN
 rw[jn d,hs,ct]
end
end Gx
namespace Gx.Ct
open Go Go.Proofs Gx.Cf
def An(z:Int):Prop:=-1073741824<=z/\z<=1073741824
section
variable{R:Type}{N:Nat}
def Asp{x:RatD}{z:Int}(h:x.can (z:Rat))(d:An z):val x.ns.l=z.natAbs/\val x.ds.l=1/\z.natAbs<2147483648:=by
 unfold An at d
 refine⟨?_,?_,by omega⟩
 ·rw[h.2.1,A6u,Bc]
 ·rw[h.2.2,A7o,Bc]
def Ak9{x:RatD}{z:Int}(h:x.can (z:Rat)):Mq x.neg x.ns=z:=by
 unfold Mq
 rw[h.1,h.2.1,A6u,Bc]
 by_cases d:z<0
 ·rw[if_pos (by simpa using d)];omega
 ·rw[if_neg (by simpa using d)];omega
def rJ{x:RatD}{z:Int}{o:Bool}(hx:x.can (z:Rat))(k:An z)(f:fit x.m N){K:Int->Int->Bool->O R}:MM N x.av o K=K z 1 true:=by
 have d:x.ns.l.length<=x.m:=A9l _ _
 have e:x.ds.l.length<=x.m:=Nat.le_max_right _ _
 obtain⟨v1,v2,v3⟩:=Asp hx k
 have hi:=Ak9 hx
 have hn:=tU x.neg x.ns
 rw[nX];unfold gI
 rw[Az0,tT rfl hx.ok.1 (f.le d),if_pos (by omega),Aoi,tT rfl hx.ok.2 (f.le e),if_pos (by omega),v2]
 rw[show((!true)==false)=true by rfl,ct,show((cond false true (!true))==false)=true by rfl,ct,show decide (((val x.ns.l:Nat):Int)>=2147483648)=false by rw[decide_eq_false_iff_not];omega]
 show E_ N K (val x.ns.l:Int) ((1:Nat):Int) o x.av false=_
 unfold E_
 rw[cf,Asb (by omega),cf,Azz,i64 (a:=((val x.ns.l:Nat):Int)) (by omega)]
 unfold Mq at hi
 cases j:x.neg
 ·rw[j,if_neg (by decide)]at hi
  rw[hi];rfl
 ·rw[j,if_pos rfl]at hi
  show K (wrap .i64 (0 - ((val x.ns.l:Nat):Int))) (wrap .i64 ((1:Nat):Int)) true=_
  rw[Gx.i64 (by omega),show(0:Int) - ((val x.ns.l:Nat):Int)=z by omega];rfl
def l8{x:RatD}{z:Int}{o:Bool}(hx:x.can (z:Rat))(e:An z)(f:fit (4*x.m+1000) N):∃ d:RatD,d.can (z:Rat)/\∀ K:LA->O R,gJ N x.av o K=K d.av:=by
 have k:=f.1
 unfold An at e
 obtain⟨c,c1,j⟩:=Aaw (R:=R) (N:=N) (s:=z) (b:=1) (by omega) (by omega) (by omega) (by omega)
 rw[Rat.mkRat_one]at c1
 refine⟨c,c1,fun K=>?_⟩
 rw[sT];unfold xU
 rw[Akz,ct,tV,rJ hx e (f.le (by omega)),ct]
 refine(j _).trans ?_
 rfl
def Asq{x:RatD}{z:Int}(hx:x.can (z:Rat))(j:An z)(f:fit (4*x.m+1000) N):∃ d:RatD,d.can ((-z:Int):Rat)/\∀ K:LA->O R,Afy N x.av false K=K d.av:=by
 have e:RatD.can ⟨x.neg,.of x.ns.l false false,.of x.ds.l false false⟩ (z:Rat):=hx
 obtain⟨c,c1,k⟩:=l8 (R:=R) (N:=N) (o:=false) e j f
 have n:c.ns.l.length<=x.m:=by
  rw[hx.m];rw[c1.2.1];exact A9l _ _
 refine⟨⟨decide (-z<0),.of (Bj z.natAbs) false false,c.ds⟩,⟨by rw[A6u],by rw[A6u,Int.natAbs_neg];rfl,by rw[A7o];exact c1.2.2⟩,fun K=>?_⟩
 rw[xV];unfold Afx
 rw[Azz,Az0,Aoi,A3n,ct]
 refine(k _).trans ?_
 show qG N (FU c.neg c.ns) false _=_
 rw[Acx c1.ok.1 (f.le (by omega)),Ak9 c1]
 rw[A44 (l:=A2 (Bj z.natAbs)) (by rw[show(A2 (Bj z.natAbs)).length=(Bj z.natAbs).length from A48 _];omega)]
 rfl
def Acz{x y:RatD}{a b:Int}{o o':Bool}{K:Int->O R}(hx:x.can (a:Rat))(f:An a)(e:y.can (b:Rat))(j:An b)(d:fit (4*(x.m+y.m)+10) N):BK N x.av o y.av o' K=K (Aat a b):=by
 have k:=d.1
 rw[d9];unfold PN
 rw[Akz,ct,tV,yo hx.ok (d.le (by omega)),Akz,ct,tV,yo e.ok (d.le (by omega)),hx.q,e.q,A6u,A6u]
 unfold An at f j
 by_cases hs:a.sign=b.sign
 ·rw[show(a.sign != b.sign)=false by simp[hs],cf,ct,rJ hx f (d.le (by omega)),ct,rJ e j (d.le (by omega)),show((true:Bool)==true)=true by rfl,ct,Azl,ct,Aax,Int.mul_one,Int.mul_one,i64 (by omega),i64 (by omega)]
 ·rw[show(a.sign != b.sign)=true by simp[hs],ct,Ak0]
  congr 1
  unfold Aat
  rcases A80 a 0 with p|p|p<;>rcases A80 b 0 with q|q|q
  all_goals first
   |(rw[A6i p,A6i q]at hs;exact absurd rfl hs)
   |(rw[A6z p,A6z q]at hs;exact absurd rfl hs)
   |(rw[p,q]at hs;exact absurd rfl hs)
   |skip
  ·rw[A6i p,q];rw[if_pos (by decide),if_pos (by omega)]
  ·rw[A6i p,A6z q];rw[if_pos (by decide),if_pos (by omega)]
  ·rw[p,A6i q];rw[if_neg (by decide),if_pos (by decide),if_neg (by omega),if_pos (by omega)]
  ·rw[p,A6z q];rw[if_pos (by decide),if_pos (by omega)]
  ·rw[A6z p,A6i q];rw[if_neg (by decide),if_pos (by decide),if_neg (by omega),if_pos (by omega)]
  ·rw[A6z p,q];rw[if_neg (by decide),if_pos (by decide),if_neg (by omega),if_pos (by omega)]
def Asr{a:Int}(f:An a)(e:fit (4*((Bj a.natAbs).length+2)+1000) N):∃ d:RatD,d.can (a:Rat)/\∀ K:LA->Bool->O R,Af0 N (Wj a) false (Wj 1) false K=K d.av true:=by
 have hx:RatD.can ⟨decide (a<0),.of (Bj a.natAbs) false false,.of [1] false false⟩ (a:Rat):=⟨by rw[A6u],by rw[A6u];rfl,by rw[A7o,DV];rfl⟩
 have n:RatD.m ⟨decide (a<0),.of (Bj a.natAbs) false false,.of [1] false false⟩<=(Bj a.natAbs).length+1:=Nat.max_le.2 ⟨by show(Bj a.natAbs).length<=_;omega,by show 1<=_;omega⟩
 obtain⟨d,j,k⟩:=l8 (R:=R) (N:=N) (o:=(false||(false||false))) hx f (e.le (by omega))
 refine⟨d,j,fun K=>?_⟩
 rw[xW];unfold Afz
 rw[A3q,A1t,A1g,ct,A3q,A1t,A1g,ct]
 have e1:([.bool (decide ((1:Int)<0)),.imm (A2 (Bj (1:Int).natAbs)) (Bj (1:Int).natAbs).length 1 false false]:LA)=Wj ((1:Nat):Int):=rfl
 rw[e1,Avs (e.le (by show(Bj 1).length<=_;rw[DV,A5w];omega))]
 show cond ((1:Int).sign==0) _ _=_
 rw[show((1:Int).sign==0)=false from rfl,cf]
 have l:([.bool (!(decide (a<0)==decide ((1:Int)<0))),.imm (A2 (Bj a.natAbs)) (Bj a.natAbs).length 1 false false,.imm (A2 (Bj (1:Int).natAbs)) (Bj (1:Int).natAbs).length 1 false false]:LA)=RatD.av ⟨decide (a<0),.of (Bj a.natAbs) false false,.of [1] false false⟩:=by
  rw[show(1:Int).natAbs=1 from rfl,DV,show(!(decide (a<0)==decide ((1:Int)<0)))=decide (a<0) by cases decide (a<0)<;>rfl];rfl
 rw[l]
 refine(k _).trans ?_
 rfl
end
end Gx.Ct
