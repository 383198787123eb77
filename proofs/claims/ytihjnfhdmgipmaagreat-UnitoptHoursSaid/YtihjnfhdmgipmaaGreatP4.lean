/- A part of the proof; each theorem says what it holds. -/
import Derived.Test.YtihjnfhdmgipmaaGreatP3
set_option linter.unusedVariables false
set_option linter.defProp false
set_option linter.unusedSimpArgs false
open Nat (ble beq)
open List (take drop replicate)
open Go.IntKind (wrap)
namespace Gx.Cf
open Go Go.Proofs
section
variable{R:Type}
def Gi:Hm->Int
|none=>0
|some x=>x.2.1
def CE{c:CaseD}{f:Int->O R}:Au .i64 c.av f=f c.hours:=by simp[CaseD.av,Av]
def ud{c:CaseD}{f:LA->Nat->O R}:Bv 1 (drop 1 c.av) f=f (Ap c.reserve.l) c.reserve.l.length:=by simp[CaseD.av,H4,Fk]
def P4{c:CaseD}{f:LA->Nat->O R}:Bv 3 (drop 2 c.av) f=f (c.buses.l.flatMap BusD.av) c.buses.l.length:=by simp[CaseD.av,H4]
def Nk{c:CaseD}{f:LA->Nat->O R}:Bv 12 (drop 3 c.av) f=f (c.lines.l.flatMap LineD.av) c.lines.l.length:=by simp[CaseD.av,H4]
def Xo{c:CaseD}{f:LA->Nat->O R}:Bv 22 (drop 4 c.av) f=f (c.units.l.flatMap UnitD.av) c.units.l.length:=by simp[CaseD.av,H4]
def Wc{c:CaseD}{f:LA->Nat->O R}:Bv 9 (drop 5 c.av) f=f (c.stores.l.flatMap StoreD.av) c.stores.l.length:=by simp[CaseD.av,H4]
def M_{c:CaseD}{f:LA->Nat->O R}:Bv 5 (drop 6 c.av) f=f (c.ties.l.flatMap TieD.av) c.ties.l.length:=by simp[CaseD.av,H4]
def Vy{c:CaseD}{f:LA->Nat->O R}:Bv 4 (drop 7 c.av) f=f (c.outs.l.flatMap OutD.av) c.outs.l.length:=by simp[CaseD.av,H4]
def Cd(p:Hm):LA:=zw p 0 0
def Ae{N:Nat}{p:Hm}{k i f e:Int}{ok:Bool}{K:LA->O R}(A:e≠0):
  Aa N ok k i f e (Cd p) K=K (Cd (nd p ok (k,i,f) ⟨e,A⟩)):=by
 rw[Tb];unfold Ko Hp
 rcases p with _|⟨⟨a,b,B⟩,e',v⟩
 ·cases ok<;>simp[Cd,zw,Av,nd,Dx,C8]
 ·have:(e'==0)=false:=by simpa using v
  simp[Cd,zw,Av,nd,this]
def mq(h:Int)(l:List Int)(lo hi:Int)(w:Int×Int×Int)(p:Hm):Hm:=nd (nd p ((l.length:Int)==h) w ⟨4,by decide⟩) (l.all (D7 lo hi)) w ⟨3,by decide⟩
def j0(h:Int)(l:List Int)(w:Int×Int×Int)(p:Hm):Hm:=nd (nd p (l.all (D7 0 (wrap .i64 (h - 1)))) w ⟨3,by decide⟩) (asc l) w ⟨11,by decide⟩
def Dj{N:Nat}{c:CaseD}{p:Hm}{k i f lo hi:Int}{l:List Int}{n:Nat}{t o o1:Bool}{K:LA->O R}(hn:n=l.length)(hs:Oa l.length N):
  Ck N c.av o1 (Ap l) n t o lo hi k i f (Cd p) K=K (Cd (mq c.hours l lo hi (k,i,f) p)):=by
 rw[Pf];unfold Mx
 rw[CE,Ae (by decide),Fn hn hs,Ae (by decide),hn];rfl
def Qe{N:Nat}{c:CaseD}{p:Hm}{k i f:Int}{l:List Int}{n:Nat}{t o o1:Bool}{K:LA->O R}(hn:n=l.length)(hs:Oa l.length N):
  H0 N c.av o1 (Ap l) n t o k i f (Cd p) K=K (Cd (j0 c.hours l (k,i,f) p)):=by
 rw[Te];unfold Ph
 rw[CE,Fn hn hs,Ae (by decide),T6 hn hs,Ae (by decide)];rfl
def cT(c:CaseD)(b:Int):Bool:=decide (0<=b)&&decide (b<(c.buses.l.length:Int))
def ue(n:Nat)(b:Int)(h:n<4611686018427387904):D7 0 (wrap .i64 ((n:Int) - 1)) b=(decide (0<=b)&&decide (b<(n:Int))):=by
 rw[Bi _ (by omega),D7]
 congr 1
 simp;omega
def Ha{N:Nat}{c:CaseD}{p:Hm}{k i f b:Int}{o1:Bool}{K:LA->O R}(hN:8<=N)(v:c.buses.l.length<4611686018427387904):
  D1 N c.av o1 b k i f (Cd p) K=K (Cd (nd p (cT c b) (k,i,f) ⟨12,by decide⟩)):=by
 rw[Ue];unfold Rc
 rw[P4,C7 hN,ue _ _ v,Ae (by decide)];rfl
def Ob(f:FracD):Bool:=D7 1 1048576 f.den&&D7 (-1048576) 1048576 f.num
def Zg{N:Nat}{f:FracD}{o:Bool}{K:Bool->O R}(hN:8<=N):Iz N [.int .i64 f.num,.int .i64 f.den] o K=K (Ob f):=by
 rw[BB];unfold Zs
 simp only[Aiu,Aid,Av,C7 hN]
 unfold Ob
 cases D7 1 1048576 f.den<;>simp
def pd(c:UInt8):Bool:=decide (97<=c.toNat)&&decide (c.toNat<=122)
def Adw(c:UInt8):Bool:=pd c||(decide (48<=c.toNat)&&decide (c.toNat<=57))||decide (c.toNat=95)
def pe(s:Lu):Bool:=decide (1<=s.length)&&(decide (s.length<=16)&&(!(s==[99,111,114,114,101,99,116,105,118,101])&&(pd (s.getD 0 0)&&s.all Adw)))
def vj{s:Lu}{j:Nat}(h:j<s.length):List.getD s (Int.toNat (j:Int)) 0=s[j]:=by rw[Ahm,Ahr,Ahk h];rfl
def PL{N:Nat}{s:Lu}{K:Bool->O R}(hs:s.length<4611686018427387904):∀(m j fuel:Nat),j+m=s.length->m<fuel ->
  Lg N K s fuel (j:Int)=K ((decide (j≠0)||(decide (s.length=0)||pd (s.getD 0 0)))&&(s.drop j).all Adw)
| 0,j,fuel+1,D,_=>by
  rw[Lg];unfold Vd
  rw[K4 (by omega),cf,Gh (by omega)]
  by_cases h:j=0
  ·have:s.length=0:=by omega
   simp[this]
  ·simp[h]
| m+1,j,fuel+1,D,V=>by
  rw[Lg];unfold Vd Yh
  have h:j<s.length:=by omega
  rw[Jy h,ct,Ab h,ct,D6 (by omega),PL hs m (j+1) fuel (by omega) (by omega),Eh h,Aji,vj h]
  have G:j=0->s.getD 0 0=s[j]:=fun e=>by
   have:=vj h;rw[<-this,e];rfl
  unfold Adw pd
  by_cases k:j=0
  ·rw[G k]
   have A:decide (s.length=0)=false:=decide_eq_false (by omega)
   have e:((j:Int)==0)=true:=by simp;omega
   simp only[ct,k,ne_eq,not_true_eq_false,decide_false,Ald,A,Ah0,show decide (¬ (1=0))=true by decide,Akm,Al6]
   simp only[k]at *
   generalize s[0].toNat=v
   by_cases B:97<=v<;>by_cases C:v<=122<;>simp[B,C,show((97:Int)<=v)↔97<=v by omega,show((v:Int)<=122)↔v<=122 by omega]
  ·have e:((j:Int)==0)=false:=by simp;omega
   simp only[ct,e,k,ne_eq,not_false_eq_true,decide_true,Akm,Al6,show decide (¬ (j+1=0))=true by simp]
   generalize s[j].toNat=v
   generalize (s.drop (j+1)).all _=r
   by_cases B:97<=v<;>by_cases C:v<=122<;>by_cases I:48<=v<;>by_cases L:v<=57<;>by_cases T:v=95 <;>
    simp[B,C,I,L,show((97:Int)<=v)↔97<=v by omega,show((v:Int)<=122)↔v<=122 by omega,show((v:Int)<48)↔¬ 48<=v by omega,show((57:Int)<v)↔¬ v<=57 by omega,show((v:Int) != 95)=!decide (v=95) by(by_cases v=95<;>simp_all<;>omega),T]
def lD{N:Nat}{s:Lu}{K:Bool->O R}(hN:64<=N):JL N s K=K (pe s):=by
 rw[TI];unfold ML Yi DR
 unfold pe
 by_cases k:1<=s.length
 ·by_cases v:s.length<=16
  ·have A:=PL (R:=R) (N:=N) (s:=s) (K:=K) (by omega) s.length 0 N (by omega) (by omega)
   simp only[Aid,Aj2]at A
   rw[A]
   simp only[k,v,show(decide ((s.length:Int)<1))=false by simp;omega,show(decide ((s.length:Int)>16))=false by simp;omega,decide_true,cond_true,cond_false,beq_self_eq_true]
   have:s.length≠0:=by omega
   cases s==[99,111,114,114,101,99,116,105,118,101]<;>simp[this]
  ·simp[k,v,show((s.length:Int)<1)↔¬ 1<=s.length by omega,show((16:Int)<s.length)↔¬ s.length<=16 by omega]
 ·simp[k,show((s.length:Int)<1)↔¬ 1<=s.length by omega]
def VR(names:List Lu)(k i:Int)(s:Lu)(p:Hm):Hm:=nd (nd p (pe s) (k,i,0) ⟨9,by decide⟩) (names.all fun x=>!(x==s)) (k,i,0) ⟨10,by decide⟩
def CF(a:BusD):a.av.length=3:=rfl
def Fo(a:LineD):a.av.length=12:=rfl
def Mt(a:UnitD):a.av.length=22:=rfl
def Ly(a:StoreD):a.av.length=9:=rfl
def Tt(a:TieD):a.av.length=5:=rfl
def Lz(a:OutD):a.av.length=4:=rfl
structure Small(c:CaseD)(N:Nat):Prop where
 n64:64<=N
 res:Oa c.reserve.l.length N
 bus:Oa c.buses.l.length N
 lin:Oa c.lines.l.length N
 uni:Oa c.units.l.length N
 sto:Oa c.stores.l.length N
 tie:Oa c.ties.l.length N
 out:Oa c.outs.l.length N
 dem:∀ b∈c.buses.l,Oa b.demand.l.length N
 law:∀ b∈c.lines.l,Oa b.away.l.length N
 seg:∀ b∈c.units.l,Oa b.segs.l.length N
 uaw:∀ b∈c.units.l,Oa b.away.l.length N
 tim:∀ b∈c.ties.l,Oa b.imp.l.length N
 tex:∀ b∈c.ties.l,Oa b.exp.l.length N
 tpr:∀ b∈c.ties.l,Oa b.price.l.length N
 oli:∀ b∈c.outs.l,Oa b.lines.l.length N
 omo:∀ b∈c.outs.l,Oa b.moves.l.length N
 omb:∀ b∈c.outs.l,b.moves.l.length<8796093022208
 top:c.buses.l.length<=1000000/\c.lines.l.length<=1000000/\c.units.l.length<=1000000/\c.stores.l.length<=1000000/\c.ties.l.length<=1000000/\c.outs.l.length<=1000000
def Ez{α:Type}(f:Nat->α->Hm->Hm):List α->Nat->Hm->Hm
|[],_,p=>p
|a::r,j,p=>Ez f r (j+1) (f j a p)
def L0{α:Type}{f:Nat->α->Hm->Hm}{x:(Int×Int×Int)×{e:Int // e≠0}}(k:∀ j a,f j a (some x)=some x):∀(l:List α)(j:Nat),Ez f l j (some x)=some x
|[],_=>rfl
|a::r,j=>by rw[Ez,k];exact L0 k r (j+1)
abbrev e1:{e:Int // e≠0}:=⟨1,by decide⟩
abbrev e3:{e:Int // e≠0}:=⟨3,by decide⟩
abbrev e4:{e:Int // e≠0}:=⟨4,by decide⟩
abbrev e8:{e:Int // e≠0}:=⟨8,by decide⟩
abbrev Adx:{e:Int // e≠0}:=⟨11,by decide⟩
abbrev xv:{e:Int // e≠0}:=⟨12,by decide⟩
abbrev Ahh:{e:Int // e≠0}:=⟨13,by decide⟩
abbrev Afa:{e:Int // e≠0}:=⟨16,by decide⟩
def uf(c:CaseD)(p:Hm):Hm :=
 let p:=nd p (D7 1 24 c.hours) (0,0,0) e3
 let p:=mq c.hours c.reserve.l 0 1048576 (0,0,1) p
 let p:=nd p (D7 1 32 (c.buses.l.length:Int)) (0,0,2) e8
 let p:=nd p (decide ((c.lines.l.length:Int)<=64)) (0,0,3) e8
 let p:=nd p (decide ((c.units.l.length:Int)<=16)) (0,0,4) e8
 let p:=nd p (decide ((c.stores.l.length:Int)<=8)) (0,0,5) e8
 let p:=nd p (decide ((c.ties.l.length:Int)<=8)) (0,0,6) e8
 nd p (decide ((c.outs.l.length:Int)<=64)) (0,0,7) e8
def Abw(c:CaseD)(j:Nat)(b:BusD)(p:Hm):Hm :=
 let p:=VR ((c.buses.l.map (·.name)).take j) 1 j b.name p
 let p:=mq c.hours b.demand.l 0 1048576 (1,j,1) p
 nd p (D7 0 1048576 b.shed) (1,j,2) e3
def mt(c:CaseD)(j:Nat)(x:LineD)(p:Hm):Hm :=
 let p:=VR ((c.lines.l.map (·.name)).take j) 2 j x.name p
 let p:=nd p (cT c x.fr) (2,j,1) xv
 let p:=nd p (cT c x.tl) (2,j,2) xv
 let p:=nd p (x.tl != x.fr) (2,j,2) e1
 let p:=nd p (Ob x.re&&decide (x.re.num>0)) (2,j,3) e3
 let p:=nd p (Ob x.smin&&decide (x.smin.num<=0)) (2,j,4) e3
 let p:=nd p (Ob x.smax&&decide (x.smax.num>=0)) (2,j,5) e3
 let p:=nd p (D7 0 1048576 x.limit) (2,j,6) e3
 let p:=nd p (D7 x.limit 1048576 x.emer) (2,j,7) e3
 j0 c.hours x.away.l (2,j,8) p
def j1(c:CaseD)(j:Nat)(x:StoreD)(p:Hm):Hm :=
 let p:=VR ((c.stores.l.map (·.name)).take j) 4 j x.name p
 let p:=nd p (cT c x.bus) (4,j,1) xv
 let p:=nd p (D7 0 1048576 x.capacity) (4,j,2) e3
 let p:=nd p (D7 0 x.capacity x.initial) (4,j,3) e3
 let p:=nd p (D7 0 x.capacity x.final) (4,j,4) e3
 let p:=nd p (D7 0 1048576 x.charge) (4,j,5) e3
 let p:=nd p (D7 0 1048576 x.discharge) (4,j,6) e3
 nd p (Ob x.eff&&(decide (x.eff.num>0)&&decide (x.eff.num<=x.eff.den))) (4,j,7) e3
def Abx(c:CaseD)(j:Nat)(x:TieD)(p:Hm):Hm :=
 let p:=VR ((c.ties.l.map (·.name)).take j) 5 j x.name p
 let p:=nd p (cT c x.bus) (5,j,1) xv
 let p:=mq c.hours x.imp.l 0 1048576 (5,j,2) p
 let p:=mq c.hours x.exp.l 0 1048576 (5,j,3) p
 mq c.hours x.price.l (-1048576) 1048576 (5,j,4) p
def Xp(a:SegD):a.av.length=2:=rfl
def Mu(a:MoveD):a.av.length=3:=rfl
def Dh(s:SegD):Bool:=D7 1 1048576 s.width&&D7 (-1048576) 1048576 s.price
def FM(a:Int):List SegD->Int
|[]=>a
|s::r=>FM (wrap .i64 (a+s.width)) r
def LH:List SegD->Bool
|a::b::r=>decide (b.price>=a.price)&&LH (b::r)
|_=>true
def FN(a b:SegD)(r:List SegD):LH (a::b::r)=(decide (b.price>=a.price)&&LH (b::r)):=by rw[LH]
def j2(a:SegD):LH [a]=true:=by rw[LH];intros;simp_all
def s8:LH []=true:=by rw[LH];intros;simp_all
def zx(u:UnitD)(j:Nat)(p:Hm):Hm :=
 let p:=nd p (decide ((u.segs.l.length:Int)<=8)) (3,j,4) e8
 let p:=nd p (u.segs.l.all Dh) (3,j,4) e3
 let p:=nd p (LH u.segs.l) (3,j,4) Adx
 nd p (FM 0 u.segs.l==wrap .i64 (u.max - u.min)) (3,j,4) e4
def ZK{u:UnitD}{f:LA->Nat->O R}:Bv 2 (drop 4 u.av) f=f (u.segs.l.flatMap SegD.av) u.segs.l.length:=by simp[UnitD.av,H4]
def Acx{u:UnitD}{f:Int->O R}:Au .i64 (drop 3 u.av) f=f u.max:=by simp[UnitD.av,Av]
def Acy{u:UnitD}{f:Int->O R}:Au .i64 (drop 2 u.av) f=f u.min:=by simp[UnitD.av,Av]
def mu{l:List SegD}{j:Nat}(h:j<l.length){f:Int->O R}:Au .i64 (drop 1 (drop ((Int.toNat (j:Int))*2) (l.flatMap SegD.av))) f=f l[j].price:=by rw[Ahm,A7 Xp _ _ h];simp[SegD.av,Av]
def xw{l:List SegD}{j:Nat}(h:j<l.length){f:Int->O R}:Au .i64 (drop ((Int.toNat (j:Int))*2) (l.flatMap SegD.av)) f=f l[j].width:=by rw[Ahm,A7 Xp _ _ h];simp[SegD.av,Av]
def s9(c:CaseD)(j:Nat)(u:UnitD)(p:Hm):Hm :=
 let p:=VR ((c.units.l.map (·.name)).take j) 3 j u.name p
 let p:=nd p (cT c u.bus) (3,j,1) xv
 let p:=nd p (D7 0 1048576 u.min) (3,j,2) e3
 let p:=nd p (D7 u.min 1048576 u.max) (3,j,3) e3
 let p:=zx u j p
 let p:=nd p (D7 0 1048576 u.noLoad) (3,j,5) e3
 let p:=nd p (D7 0 1048576 u.rampUp) (3,j,6) e3
 let p:=nd p (D7 0 1048576 u.rampDown) (3,j,7) e3
 let p:=nd p (D7 u.min u.max u.startRamp) (3,j,8) e3
 let p:=nd p (D7 u.min u.max u.stopRamp) (3,j,9) e3
 let p:=nd p (D7 0 24 u.upTime) (3,j,10) e3
 let p:=nd p (D7 0 24 u.downTime) (3,j,11) e3
 let p:=nd p (D7 0 24 u.startTime) (3,j,12) e3
 let p:=nd p (D7 0 1048576 u.hotCost) (3,j,13) e3
 let p:=nd p (D7 0 1048576 u.coldCost) (3,j,14) e3
 let p:=nd p (D7 0 24 u.hotHours) (3,j,15) e3
 let p:=nd p (D7 0 1048576 u.reserve) (3,j,16) e3
 let p:=nd p (D7 0 1048576 u.reservePrice) (3,j,17) e3
 let p:=j0 c.hours u.away.l (3,j,18) p
 let p:=nd p (D7 0 2 u.state) (3,j,19) xv
 let p:=nd p (u.state != 1||u.startTime != 0) (3,j,19) Afa
 let p:=nd p (D7 1 48 u.hours) (3,j,20) e3
 let p:=nd p (u.state != 1||decide (u.hours<=u.startTime)) (3,j,20) e3
 cond (u.state==2) (nd p (D7 u.min u.max u.output) (3,j,21) e3) (nd p (D7 0 0 u.output) (3,j,21) e3)
def Aby(c:CaseD)(m:MoveD):Bool:=decide (0<=m.unit)&&decide (m.unit<(c.units.l.length:Int))
def xx(m:MoveD):Bool:=D7 0 1048576 m.up&&D7 0 1048576 m.down
def uh(c:CaseD)(o:OutD)(j:Nat)(p:Hm):Hm :=
 let p:=nd p ((o.moves.l.length:Int)==0||o.corr) (6,j,3) Afa
 let p:=nd p (decide ((o.moves.l.length:Int)<=16)) (6,j,3) e8
 let p:=nd p (o.moves.l.all (Aby c)) (6,j,3) xv
 let p:=nd p (asc (o.moves.l.map (·.unit))) (6,j,3) Adx
 nd p (o.moves.l.all xx) (6,j,3) e3
def vq{u:OutD}{f:LA->Nat->O R}:Bv 3 (drop 3 u.av) f=f (u.moves.l.flatMap MoveD.av) u.moves.l.length:=by simp[OutD.av,H4]
def Ady{u:OutD}{f:Bool->O R}:X2 (drop 2 u.av) f=f u.corr:=by simp[OutD.av,zu]
def xy(c:CaseD)(j:Nat)(x:OutD)(p:Hm):Hm :=
 let p:=VR ((c.outs.l.map (·.name)).take j) 6 j x.name p
 let p:=nd p ((x.lines.l.length:Int)==1||(x.lines.l.length:Int)==2) (6,j,1) e4
 let p:=nd p (x.lines.l.all fun n=>decide (0<=n)&&decide (n<(c.lines.l.length:Int))) (6,j,1) xv
 let p:=nd p (asc x.lines.l) (6,j,1) Adx
 uh c x j p
def ZL{c:CaseD}{j:Nat}{x:OutD}{y:(Int×Int×Int)×{e:Int // e≠0}}:xy c j x (some y)=some y:=rfl
def Abz{u:OutD}{f:LA->Nat->O R}:Bv 1 (drop 1 u.av) f=f (Ap u.lines.l) u.lines.l.length:=by simp[OutD.av,H4,Fk]
def Fp(l:List Lu):LA:=l.map fun s=>.str s
def Ox(l:List Lu):(Fp l).length=l.length:=by simp[Fp]
def j3{l:List Lu}{i:Nat}(h:i<l.length){f:Lu->O R}:pn (drop i (Fp l)) f=f l[i]:=by rw[Fp,Aip (by simpa using h)];simp[Xn]
def En{c:CaseD}:take 8 c.av=c.av:=rfl
def L5{c:CaseD}:ble 8 (List.length c.av)=true:=rfl
def CG{N:Nat}{c:CaseD}{o:Bool}{K:Nat->LA->O R}(v:c.buses.l.length<=1000000):∀(m j fuel:Nat),j+m=c.buses.l.length->m<fuel ->
  Ir N K o c.av fuel j (j:Int) (Fp ((c.buses.l.take j).map (·.name)))=K c.buses.l.length (Fp (c.buses.l.map (·.name)))
|0,j,fuel+1,A,_=>by
  rw[Ir];unfold Sa
  have k:j=c.buses.l.length:=by omega
  rw[P4,K4 (by omega),cf,Ahi (by omega),k]
| m+1,j,fuel+1,A,D=>by
  rw[Ir];unfold Sa
  have h:j<c.buses.l.length:=by omega
  have b3:(ble (j+1) 140737488355328&&ble ((j+1)*16) 140737488355328)=true:=by rw[Dx,Dx];simp;omega
  have B:take (j*1) (Fp ((c.buses.l.take j).map (·.name)))++[.str c.buses.l[j].name]=Fp ((c.buses.l.take (j+1)).map (·.name)):=by
   rw[Ahi (by simp[Ox];omega),Ah2 h,Ajk];simp[Fp]
  have C:∀ f:Lu->O R,pn (drop (j*3) (List.flatMap BusD.av c.buses.l)) f=f c.buses.l[j].name:=fun f=>by rw[A7 CF _ _ h];simp[BusD.av,Xn]
  rw[P4,Jy h,ct,P4,Ab h,ct,Ahm,C,b3,ct,B,D6 (by omega),CG v m (j+1) fuel (by omega) (by omega)]
def s_{N:Nat}{c:CaseD}{o:Bool}{K:Nat->LA->O R}(hs:Small c N):Gr N c.av o 1 K=K (c.buses.l.map (·.name)).length (Fp (c.buses.l.map (·.name))):=by
 rw[Hf];unfold Ix
 have:=CG (R:=R) (N:=N) (c:=c) (o:=o) (K:=K) hs.top.1 c.buses.l.length 0 N (by omega) hs.bus.1
 simpa[Fp]using this
def CH{N:Nat}{c:CaseD}{o:Bool}{K:Nat->LA->O R}(v:c.lines.l.length<=1000000):∀(m j fuel:Nat),j+m=c.lines.l.length->m<fuel ->
  Is N K o c.av fuel j (j:Int) (Fp ((c.lines.l.take j).map (·.name)))=K c.lines.l.length (Fp (c.lines.l.map (·.name)))
|0,j,fuel+1,A,_=>by
  rw[Is];unfold Sb
  have k:j=c.lines.l.length:=by omega
  rw[Nk,K4 (by omega),cf,Ahi (by omega),k]
| m+1,j,fuel+1,A,D=>by
  rw[Is];unfold Sb
  have h:j<c.lines.l.length:=by omega
  have b3:(ble (j+1) 140737488355328&&ble ((j+1)*16) 140737488355328)=true:=by rw[Dx,Dx];simp;omega
  have B:take (j*1) (Fp ((c.lines.l.take j).map (·.name)))++[.str c.lines.l[j].name]=Fp ((c.lines.l.take (j+1)).map (·.name)):=by
   rw[Ahi (by simp[Ox];omega),Ah2 h,Ajk];simp[Fp]
  have C:∀ f:Lu->O R,pn (drop (j*12) (List.flatMap LineD.av c.lines.l)) f=f c.lines.l[j].name:=fun f=>by rw[A7 Fo _ _ h];simp[LineD.av,Xn]
  rw[Nk,Jy h,ct,Nk,Ab h,ct,Ahm,C,b3,ct,B,D6 (by omega),CH v m (j+1) fuel (by omega) (by omega)]
def cV{N:Nat}{c:CaseD}{o:Bool}{K:Nat->LA->O R}(hs:Small c N):Gr N c.av o 2 K=K (c.lines.l.map (·.name)).length (Fp (c.lines.l.map (·.name))):=by
 rw[Hf];unfold Ix
 have:=CH (R:=R) (N:=N) (c:=c) (o:=o) (K:=K) hs.top.2.1 c.lines.l.length 0 N (by omega) hs.lin.1
 simpa[Fp]using this
def CI{N:Nat}{c:CaseD}{o:Bool}{K:Nat->LA->O R}(v:c.units.l.length<=1000000):∀(m j fuel:Nat),j+m=c.units.l.length->m<fuel ->
  It N K o c.av fuel j (j:Int) (Fp ((c.units.l.take j).map (·.name)))=K c.units.l.length (Fp (c.units.l.map (·.name)))
|0,j,fuel+1,A,_=>by
  rw[It];unfold Sc
  have k:j=c.units.l.length:=by omega
  rw[Xo,K4 (by omega),cf,Ahi (by omega),k]
| m+1,j,fuel+1,A,D=>by
  rw[It];unfold Sc
  have h:j<c.units.l.length:=by omega
  have b3:(ble (j+1) 140737488355328&&ble ((j+1)*16) 140737488355328)=true:=by rw[Dx,Dx];simp;omega
  have B:take (j*1) (Fp ((c.units.l.take j).map (·.name)))++[.str c.units.l[j].name]=Fp ((c.units.l.take (j+1)).map (·.name)):=by
   rw[Ahi (by simp[Ox];omega),Ah2 h,Ajk];simp[Fp]
  have C:∀ f:Lu->O R,pn (drop (j*22) (List.flatMap UnitD.av c.units.l)) f=f c.units.l[j].name:=fun f=>by rw[A7 Mt _ _ h];simp[UnitD.av,Xn]
  rw[Xo,Jy h,ct,Xo,Ab h,ct,Ahm,C,b3,ct,B,D6 (by omega),CI v m (j+1) fuel (by omega) (by omega)]
def cW{N:Nat}{c:CaseD}{o:Bool}{K:Nat->LA->O R}(hs:Small c N):Gr N c.av o 3 K=K (c.units.l.map (·.name)).length (Fp (c.units.l.map (·.name))):=by
 rw[Hf];unfold Ix
 have:=CI (R:=R) (N:=N) (c:=c) (o:=o) (K:=K) hs.top.2.2.1 c.units.l.length 0 N (by omega) hs.uni.1
 simpa[Fp]using this
def Zh{N:Nat}{c:CaseD}{o:Bool}{K:Nat->LA->O R}(v:c.stores.l.length<=1000000):∀(m j fuel:Nat),j+m=c.stores.l.length->m<fuel ->
  Iu N K o c.av fuel j (j:Int) (Fp ((c.stores.l.take j).map (·.name)))=K c.stores.l.length (Fp (c.stores.l.map (·.name)))
|0,j,fuel+1,A,_=>by
  rw[Iu];unfold Sd
  have k:j=c.stores.l.length:=by omega
  rw[Wc,K4 (by omega),cf,Ahi (by omega),k]
| m+1,j,fuel+1,A,D=>by
  rw[Iu];unfold Sd
  have h:j<c.stores.l.length:=by omega
  have b3:(ble (j+1) 140737488355328&&ble ((j+1)*16) 140737488355328)=true:=by rw[Dx,Dx];simp;omega
  have B:take (j*1) (Fp ((c.stores.l.take j).map (·.name)))++[.str c.stores.l[j].name]=Fp ((c.stores.l.take (j+1)).map (·.name)):=by
   rw[Ahi (by simp[Ox];omega),Ah2 h,Ajk];simp[Fp]
  have C:∀ f:Lu->O R,pn (drop (j*9) (List.flatMap StoreD.av c.stores.l)) f=f c.stores.l[j].name:=fun f=>by rw[A7 Ly _ _ h];simp[StoreD.av,Xn]
  rw[Wc,Jy h,ct,Wc,Ab h,ct,Ahm,C,b3,ct,B,D6 (by omega),Zh v m (j+1) fuel (by omega) (by omega)]
def VS{N:Nat}{c:CaseD}{o:Bool}{K:Nat->LA->O R}(hs:Small c N):Gr N c.av o 4 K=K (c.stores.l.map (·.name)).length (Fp (c.stores.l.map (·.name))):=by
 rw[Hf];unfold Ix
 have:=Zh (R:=R) (N:=N) (c:=c) (o:=o) (K:=K) hs.top.2.2.2.1 c.stores.l.length 0 N (by omega) hs.sto.1
 simpa[Fp]using this
def HA{N:Nat}{c:CaseD}{o:Bool}{K:Nat->LA->O R}(v:c.ties.l.length<=1000000):∀(m j fuel:Nat),j+m=c.ties.l.length->m<fuel ->
  Iv N K o c.av fuel j (j:Int) (Fp ((c.ties.l.take j).map (·.name)))=K c.ties.l.length (Fp (c.ties.l.map (·.name)))
|0,j,fuel+1,A,_=>by
  rw[Iv];unfold Se
  have k:j=c.ties.l.length:=by omega
  rw[M_,K4 (by omega),cf,Ahi (by omega),k]
| m+1,j,fuel+1,A,D=>by
  rw[Iv];unfold Se
  have h:j<c.ties.l.length:=by omega
  have b3:(ble (j+1) 140737488355328&&ble ((j+1)*16) 140737488355328)=true:=by rw[Dx,Dx];simp;omega
  have B:take (j*1) (Fp ((c.ties.l.take j).map (·.name)))++[.str c.ties.l[j].name]=Fp ((c.ties.l.take (j+1)).map (·.name)):=by
   rw[Ahi (by simp[Ox];omega),Ah2 h,Ajk];simp[Fp]
  have C:∀ f:Lu->O R,pn (drop (j*5) (List.flatMap TieD.av c.ties.l)) f=f c.ties.l[j].name:=fun f=>by rw[A7 Tt _ _ h];simp[TieD.av,Xn]
  rw[M_,Jy h,ct,M_,Ab h,ct,Ahm,C,b3,ct,B,D6 (by omega),HA v m (j+1) fuel (by omega) (by omega)]
def j4{N:Nat}{c:CaseD}{o:Bool}{K:Nat->LA->O R}(hs:Small c N):Gr N c.av o 5 K=K (c.ties.l.map (·.name)).length (Fp (c.ties.l.map (·.name))):=by
 rw[Hf];unfold Ix
 have:=HA (R:=R) (N:=N) (c:=c) (o:=o) (K:=K) hs.top.2.2.2.2.1 c.ties.l.length 0 N (by omega) hs.tie.1
 simpa[Fp]using this
def HB{N:Nat}{c:CaseD}{o:Bool}{K:Nat->LA->O R}(v:c.outs.l.length<=1000000):∀(m j fuel:Nat),j+m=c.outs.l.length->m<fuel ->
  Iw N K o c.av fuel j (j:Int) (Fp ((c.outs.l.take j).map (·.name)))=K c.outs.l.length (Fp (c.outs.l.map (·.name)))
|0,j,fuel+1,A,_=>by
  rw[Iw];unfold Sf
  have k:j=c.outs.l.length:=by omega
  rw[Vy,K4 (by omega),cf,Ahi (by omega),k]
| m+1,j,fuel+1,A,D=>by
  rw[Iw];unfold Sf
  have h:j<c.outs.l.length:=by omega
  have b3:(ble (j+1) 140737488355328&&ble ((j+1)*16) 140737488355328)=true:=by rw[Dx,Dx];simp;omega
  have B:take (j*1) (Fp ((c.outs.l.take j).map (·.name)))++[.str c.outs.l[j].name]=Fp ((c.outs.l.take (j+1)).map (·.name)):=by
   rw[Ahi (by simp[Ox];omega),Ah2 h,Ajk];simp[Fp]
  have C:∀ f:Lu->O R,pn (drop (j*4) (List.flatMap OutD.av c.outs.l)) f=f c.outs.l[j].name:=fun f=>by rw[A7 Lz _ _ h];simp[OutD.av,Xn]
  rw[Vy,Jy h,ct,Vy,Ab h,ct,Ahm,C,b3,ct,B,D6 (by omega),HB v m (j+1) fuel (by omega) (by omega)]
def j5{N:Nat}{c:CaseD}{o:Bool}{K:Nat->LA->O R}(hs:Small c N):Gr N c.av o 6 K=K (c.outs.l.map (·.name)).length (Fp (c.outs.l.map (·.name))):=by
 rw[Hf];unfold Ix
 have:=HB (R:=R) (N:=N) (c:=c) (o:=o) (K:=K) hs.top.2.2.2.2.2 c.outs.l.length 0 N (by omega) hs.out.1
 simpa[Fp]using this
def Qf{N:Nat}{L:List Lu}{k:Int}{n:Nat}{K:LA->O R}(hn:n<L.length)(hs:n<4611686018427387904):∀(m j fuel:Nat)(p:Hm),j+m=n->m<fuel ->
  Cs N K k (n:Int) L.length (Fp L) fuel (j:Int) (Cd p)=K (Cd (nd p (((L.take n).drop j).all fun x=>!(x==L[n])) (k,n,0) ⟨10,by decide⟩))
|0,j,fuel+1,p,v,_=>by
  rw[Cs];unfold G0
  rw[K4 (by omega),cf,Gh (l:=L.take n) (by simp;omega),Ak8,FK]
|m+1,j,fuel+1,p,v,B=>by
  rw[Cs];unfold G0
  have h:j<L.length:=by omega
  have A:j<(L.take n).length:=by simp;omega
  rw[Jy (by omega),ct,Ab h,ct,Ahm,Ah0,Ah1,j3 h,Ab hn,ct,Ahm,Ah0,Ah1,j3 hn,Ae (by decide),D6 (by omega),Qf hn hs m (j+1) fuel _ (by omega) (by omega),Eh A,Aji,s7]
  have e:(L.take n)[j]=L[j]:=by simp
  rw[e]
def C0{N:Nat}{c:CaseD}{L:List Lu}{o:Bool}{p:Hm}{k:Int}{n:Nat}{K:LA->O R}(hN:64<=N)(hL:∀ K:Nat->LA->O R,Gr N c.av o k K=K L.length (Fp L))(hn:n<L.length)(hs:Oa n N):
  B6 N c.av o k (n:Int) (Cd p) K=K (Cd (VR (L.take n) k n L[n] p)):=by
 rw[Td];unfold Kp
 rw[En,L5,ct,hL,Ab hn,ct,Ahm,Ah0,Ah1,j3 hn,lD hN,Ae (by decide)]
 have:=Qf (R:=R) (N:=N) (L:=L) (k:=k) (n:=n) (K:=K) hn hs.2 n 0 N (nd p (pe L[n]) (k,n,0) ⟨9,by decide⟩) (by omega) hs.1
 simpa[VR]using this
def FO {N fuel:Nat} {c:CaseD} {o:Bool} {p:Hm} {K:LA->O R} (hs:Small c N):A5 N K o c.av (fuel+6) 2 (Cd p)=K (Cd
  (nd (nd (nd (nd (nd p (decide ((c.lines.l.length:Int)<=64)) (0,0,3) e8) (decide ((c.units.l.length:Int)<=16)) (0,0,4) e8) (decide ((c.stores.l.length:Int)<=8)) (0,0,5) e8) (decide ((c.ties.l.length:Int)<=8)) (0,0,6) e8) (decide ((c.outs.l.length:Int)<=64)) (0,0,7) e8)):=by
 have most:∀(k:Nat)(n:Int)(K:Int->O R),k<7->([0,32,64,16,8,8,64]:List Int)[k]?=some n->Pg N (k:Int) K=K n:=by
  intro k n K v A
  rw[TH];unfold XT
  rw[Ab v,ct]
  have e:[.int .i64 (0:Int),.int .i64 (32:Int),.int .i64 (64:Int),.int .i64 (16:Int),.int .i64 (8:Int),.int .i64 (8:Int),.int .i64 (64:Int)]=Ap [0,32,64,16,8,8,64]:=rfl
  rw[e,Ahm,Ah0,Ah1,KJ (by simpa using v)]
  rw[Ahk (by simpa using v)]at A
  simp only[Ajm]at A
  rw[A]
 have m2:∀ K:Int->O R,Pg N 2 K=K 64:=fun K=>most 2 64 K (by omega) rfl
 have m3:∀ K:Int->O R,Pg N 3 K=K 16:=fun K=>most 3 16 K (by omega) rfl
 have m4:∀ K:Int->O R,Pg N 4 K=K 8:=fun K=>most 4 8 K (by omega) rfl
 have m5:∀ K:Int->O R,Pg N 5 K=K 8:=fun K=>most 5 8 K (by omega) rfl
 have m6:∀ K:Int->O R,Pg N 6 K=K 64:=fun K=>most 6 64 K (by omega) rfl
 have B:wrap .i64 (2+1)=3:=rfl
 have w3:wrap .i64 (3+1)=4:=rfl
 have C:wrap .i64 (4+1)=5:=rfl
 have D:wrap .i64 (5+1)=6:=rfl
 have G:wrap .i64 (6+1)=7:=rfl
 rw[A5];unfold Bq
 rw[show decide ((2:Int)<=6)=true from rfl,ct,L5,ct,En,cV hs,m2,Ae (by decide),B]
 rw[A5];unfold Bq
 rw[show decide ((3:Int)<=6)=true from rfl,ct,L5,ct,En,cW hs,m3,Ae (by decide),w3]
 rw[A5];unfold Bq
 rw[show decide ((4:Int)<=6)=true from rfl,ct,L5,ct,En,VS hs,m4,Ae (by decide),C]
 rw[A5];unfold Bq
 rw[show decide ((5:Int)<=6)=true from rfl,ct,L5,ct,En,j4 hs,m5,Ae (by decide),D]
 rw[A5];unfold Bq
 rw[show decide ((6:Int)<=6)=true from rfl,ct,L5,ct,En,j5 hs,m6,Ae (by decide),G]
 rw[A5];unfold Bq
 rw[show decide ((7:Int)<=6)=false from rfl,cf]
 simp only[Ajx]
def FP{N:Nat}{c:CaseD}{o:Bool}{p:Hm}{K:LA->O R}(hs:Small c N):Gz N c.av o (Cd p) K=K (Cd (uf c p)):=by
 have hN:=hs.n64
 rw[P8];unfold Iy
 have:=fun p=>FO (fuel:=N - 6) (o:=o) (p:=p) (K:=K) hs
 rw[show N - 6+6=N by omega]at this
 simp only[CE,C7 (show 8<=N by omega),Ae (show(3:Int)≠0 by decide),Ae (show(8:Int)≠0 by decide),L5,ct,En,ud,P4,Dj rfl hs.res,this]
 rfl
def AA{p:Hm}{f:Int->O R}:Au .i64 (drop 3 (Cd p)) f=f (Gi p):=by rcases p with _|⟨⟨a,b,k⟩,e,v⟩<;>simp[Cd,zw,Av,Gi]
def Kk{N:Nat}{i:Int}{u:UnitD}{o:Bool}{p:Hm}{K:LA->O R}(hs:u.segs.l.length<4611686018427387904):∀(m j fuel:Nat)(a:Int),j+m=u.segs.l.length->m<fuel ->
  Cc N K i (Cd p) o u.av fuel a (j:Int)=K (Cd (nd p (FM a (u.segs.l.drop j)==wrap .i64 (u.max - u.min)) (3,i,4) e4))
| 0,j,fuel+1,a,v,_=>by
  rw[Cc];unfold Ek
  simp only[ZK,Acx,Acy,AA,Ae (show(4:Int)≠0 by decide)]
  rw[K4 (by omega),Gh (l:=u.segs.l) (by omega),FM,FK]
  rcases p with _|⟨x,e,k⟩
  ·simp[Gi]
  ·have:(e != 0)=true:=by simpa using k
   simp[Gi,this,nd]
| m+1,j,fuel+1,a,v,C=>by
  rw[Cc];unfold Ek
  have h:j<u.segs.l.length:=by omega
  simp only[ZK,Acx,Acy,AA,Ae (show(4:Int)≠0 by decide),xw h,Ab h]
  rw[Jy h,D6 (by omega),Kk hs m (j+1) fuel _ (by omega) (by omega),Eh h,FM,FK]
  rcases p with _|⟨x,e,k⟩
  ·simp[Gi]
  ·have A:(e != 0)=true:=by simpa using k
   have B:(e==0)=false:=by simpa using k
   simp[Gi,A,B,nd]
def Qg{N:Nat}{i:Int}{u:UnitD}{o:Bool}{K:LA->O R}(hs:Oa u.segs.l.length N):∀(m j fuel:Nat)(p:Hm),j+1+m=u.segs.l.length->m<fuel ->
  Bs N K i o u.av fuel ((j+1:Nat):Int) (Cd p)=K (Cd (nd (nd p (LH (u.segs.l.drop j)) (3,i,4) Adx) (FM 0 u.segs.l==wrap .i64 (u.max - u.min)) (3,i,4) e4))
|0,j,fuel+1,p,k,_=>by
  rw[Bs];unfold C4
  rw[ZK,K4 (by omega),cf,Eh (l:=u.segs.l) (j:=j) (by omega),Gh (l:=u.segs.l) (j:=j+1) (by omega),j2,FK]
  have:=Kk (R:=R) (N:=N) (i:=i) (u:=u) (o:=o) (p:=p) (K:=K) hs.2 u.segs.l.length 0 N 0 (by omega) hs.1
  simpa using this
|m+1,j,fuel+1,p,k,A=>by
  rw[Bs];unfold C4
  have h:j+1<u.segs.l.length:=by omega
  have h':j<u.segs.l.length:=by omega
  have v:=hs.2
  simp only[ZK]
  rw[Jy h,ct,Ab h,ct,mu h,jZ (by omega),Ab h',ct,mu h',D6 (by omega),Ae (by decide),Qg hs m (j+1) fuel _ (by omega) (by omega),Eh h',Eh h,FN,s7]
def Qh{N:Nat}{i:Int}{u:UnitD}{o:Bool}{K:LA->O R}(hN:8<=N)(hs:Oa u.segs.l.length N):∀(m j fuel:Nat)(p:Hm),j+m=u.segs.l.length->m<fuel ->
  Bt N K i (u.segs.l.flatMap SegD.av) u.segs.l.length o u.av fuel (u.segs.l.length:Int) (j:Int) (Cd p) =
   K (Cd (nd (nd (nd p ((u.segs.l.drop j).all Dh) (3,i,4) e3) (LH u.segs.l) (3,i,4) Adx) (FM 0 u.segs.l==wrap .i64 (u.max - u.min)) (3,i,4) e4))
| 0,j,fuel+1,p,v,_=>by
  rw[Bt];unfold El
  rw[K4 (by omega),cf,Gh (l:=u.segs.l) (by omega),Ak8,FK]
  rcases k:u.segs.l with _|⟨b,r⟩
  ·rw[s8,FK]
   have l2:=Kk (R:=R) (N:=N) (i:=i) (u:=u) (o:=o) (p:=p) (K:=K) hs.2 u.segs.l.length 0 N 0 (by omega) hs.1
   rcases N with _|N
   ·omega
   ·rw[Bs];unfold C4
    rw[ZK,k]
    simp only[Ajo,Aj2]
    rw[show decide ((1:Int)<0)=false by decide,cf]
    rw[k]at l2
    simpa using l2
  ·have:=Qg (R:=R) (N:=N) (i:=i) (u:=u) (o:=o) (K:=K) hs r.length 0 N p (by rw[k];simp;omega) (by have:=hs.1;rw[k]at this;simp at this;omega)
   rw[k]at this
   simpa using this
|m+1,j,fuel+1,p,v,D=>by
  rw[Bt];unfold El
  have h:j<u.segs.l.length:=by omega
  have A:=hs.2
  rw[Jy h,ct,Ab h,ct,Ahm,A7 Xp _ _ h,Eh h,Aji,D6 (by omega)]
  have B:ble 2 (List.length (u.segs.l[j].av++List.flatMap SegD.av (drop (j+1) u.segs.l)))=true:=by rw[Dx,Ahy,Xp];simp
  have C:take 2 (u.segs.l[j].av++List.flatMap SegD.av (drop (j+1) u.segs.l))=u.segs.l[j].av:=Ajq (Xp _)
  rw[B,ct,C,Xp]
  simp only[SegD.av,setCells,C8,Ajy,Aiy,Anu,Aiu,Aid,Aj8,Ah8,Ajo,Av,Dx,pb,A4,Nat.reduceAdd,decide_true,Akg,Ake,Ajn,cond_true,Ah0,Ahl,C7 hN,Ae (show(3:Int)≠0 by decide),Qh hN hs m (j+1) fuel _ (show j+1+m=_ by omega) (show m<fuel by omega)]
  unfold Dh
  rw[s7,s7]
  cases D7 1 1048576 u.segs.l[j].width<;>rfl
def Xw{N:Nat}{p:Hm}{j:Nat}{u:UnitD}{o:Bool}{K:LA->O R}(hN:8<=N)(hs:Oa u.segs.l.length N):
  De N u.av o (j:Int) (Cd p) K=K (Cd (zx u j p)):=by
 rw[Nb];unfold Gb
 simp only[ZK,Ae (show(8:Int)≠0 by decide)]
 have:=Qh (R:=R) (N:=N) (i:=j) (u:=u) (o:=o) (K:=K) hN hs u.segs.l.length 0 N (nd p (decide ((u.segs.l.length:Int)<=8)) (3,j,4) e8) (by omega) hs.1
 simpa[zx]using this
def Tu{N:Nat}{i:Int}{l:List MoveD}{o:Bool}{K:LA->O R}(hN:8<=N)(hs:l.length<4611686018427387904):∀(m j fuel:Nat)(p:Hm),j+m=l.length->m<fuel ->
  Cx N K i (l.flatMap MoveD.av) l.length o fuel (l.length:Int) (j:Int) (Cd p)=K (Cd (nd p ((l.drop j).all xx) (6,i,3) e3))
|0,j,fuel+1,p,k,_=>by
  rw[Cx];unfold Fb
  rw[K4 (by omega),cf,Gh (by omega),Ak8,FK]
|m+1,j,fuel+1,p,k,B=>by
  rw[Cx];unfold Fb
  have h:j<l.length:=by omega
  rw[Jy h,ct,Ab h,ct,Ahm,A7 Mu _ _ h,Eh h,Aji,D6 (by omega)]
  have v:ble 3 (List.length (l[j].av++List.flatMap MoveD.av (drop (j+1) l)))=true:=by rw[Dx,Ahy,Mu];simp
  have A:take 3 (l[j].av++List.flatMap MoveD.av (drop (j+1) l))=l[j].av:=Ajq (Mu _)
  rw[v,ct,A,Mu]
  simp only[MoveD.av,setCells,C8,Ajy,Aiy,Anu,Aiu,Aid,Aj8,Ah8,Ajo,Av,Dx,pb,A4,Nat.reduceAdd,decide_true,Akg,Ake,Ajn,cond_true,Ah0,Ahl,eT hN,Ae (show(3:Int)≠0 by decide),Tu hN hs m (j+1) fuel _ (show j+1+m=_ by omega) (show m<fuel by omega)]
  rw[s7];rfl
def Tv{N:Nat}{c:CaseD}{i:Int}{u:OutD}{o:Bool}{p:Hm}{K:LA->O R}(hN:8<=N)(k:c.units.l.length<=1000000)(hs:Oa u.moves.l.length N)(v:u.moves.l.length<8796093022208):∀(m j fuel:Nat),j+m=u.moves.l.length->m<fuel ->
  Cy N K i (u.moves.l.flatMap MoveD.av) u.moves.l.length o (Cd p) c.av u.av fuel j (u.moves.l.length:Int) (j:Int) (Ap ((u.moves.l.take j).map (·.unit))) =
   K (Cd (nd (nd (nd p (u.moves.l.all (Aby c)) (6,i,3) xv) (asc (u.moves.l.map (·.unit))) (6,i,3) Adx) (u.moves.l.all xx) (6,i,3) e3))
| 0,j,fuel+1,A,_=>by
  rw[Cy];unfold Fc
  have B:j=u.moves.l.length:=by omega
  rw[K4 (by omega),cf,Ah1,Ahi (by simp[G5];omega),Ahi (show u.moves.l.length<=j by omega)]
  rw[Xo,Fn (by simp;omega) (by simpa using hs),Ae (by decide),T6 (by simp;omega) (by simpa using hs),Ae (by decide),vq]
  have:=Tu (R:=R) (N:=N) (i:=i) (l:=u.moves.l) (o:=o) (K:=K) hN hs.2 u.moves.l.length 0 N (nd (nd p (u.moves.l.all (Aby c)) (6,i,3) xv) (asc (u.moves.l.map (·.unit))) (6,i,3) Adx) (by omega) hs.1
  have e:(u.moves.l.map (·.unit)).all (D7 0 (wrap .i64 ((c.units.l.length:Int) - 1)))=u.moves.l.all (Aby c):=by
   rw[List.all_map];congr 1;funext m;exact ue _ _ (by omega)
  rw[e]
  simpa using this
| m+1,j,fuel+1,A,I=>by
  rw[Cy];unfold Fc
  have h:j<u.moves.l.length:=by omega
  have C:ble 3 (List.length (u.moves.l[j].av++List.flatMap MoveD.av (drop (j+1) u.moves.l)))=true:=by rw[Dx,Ahy,Mu];simp
  have D:take 3 (u.moves.l[j].av++List.flatMap MoveD.av (drop (j+1) u.moves.l))=u.moves.l[j].av:=Ajq (Mu _)
  have b3:(decide (j<=140737488355327)&&decide ((j+1)*8<=140737488355328))=true:=by simp;omega
  have G:take (j*1) (Ap ((u.moves.l.take j).map (·.unit)))++[.int .i64 u.moves.l[j].unit]=Ap ((u.moves.l.take (j+1)).map (·.unit)):=by
   rw[Ahi (by simp[G5];omega),Ah2 h,Ajk,<-cS];rfl
  rw[Jy h,ct,Ab h,ct,Ahm,A7 Mu _ _ h,D6 (by omega),C,ct,D,Mu]
  simp only[MoveD.av,setCells,C8,Ajy,Aiy,Anu,Aiu,Aj8,Ah8,Ajo,Av,Dx,pb,A4,Nat.reduceAdd,Nat.reduceLeDiff,decide_true,Akg,Ake,Ajn,cond_true,Ah0,Ahl,b3,G,Tv hN k hs v m (j+1) fuel (show j+1+m=_ by omega) (show m<fuel by omega)]
def LI{N:Nat}{c:CaseD}{p:Hm}{o:Bool}{j:Nat}{K:LA->O R}(hs:Small c N)(h:j<c.ties.l.length):
  Np N c.av o (j:Int) (Cd p) K=K (Cd (Abx c j c.ties.l[j] p)):=by
 have hN:=hs.n64
 have hN8:8<=N:=by omega
 have v:=hs.tie
 have I:=hs.top
 have B:c.ties.l[j]∈c.ties.l:=Ahu h
 have L:=hs.tim _ B;have C:=hs.tex _ B;have D:=hs.tpr _ B
 have A:=@C0 R N c (c.ties.l.map (·.name)) o (k:=5) (n:=j) (hN:=hN) (hL:=fun K=>j4 hs) (hn:=by simpa using h) (hs:=⟨by have:=v.1;omega,by have:=v.2;omega⟩)
 have G:(c.ties.l.map (·.name))[j]'(by simpa using h)=c.ties.l[j].name:=by simp
 rw[G]at A
 rw[Ui];unfold Rd 
 rw[M_,Ab h,ct,Ahm,A7 Tt _ _ h]
 generalize c.ties.l[j]=b at *
 have T:ble 5 (List.length (b.av++List.flatMap TieD.av (drop (j+1) c.ties.l)))=true:=by rw[Dx,Ahy,Tt];simp
 have V:take 5 (b.av++List.flatMap TieD.av (drop (j+1) c.ties.l))=b.av:=Ajq (Tt b)
 rw[T,ct,V,Tt]
 simp only[En,A,TieD.av,Aiu,Aid,Av,H4,Fk,Dx,pb,decide_true,Akg,cond_true]
 simp only[Ha hN8 (show c.buses.l.length<4611686018427387904 by omega),Dj rfl L,Dj rfl C,Dj rfl D]
 rfl
def FQ{N:Nat}{c:CaseD}{p:Hm}{o:Bool}{j:Nat}{K:LA->O R}(hs:Small c N)(h:j<c.stores.l.length):
  Kt N c.av o (j:Int) (Cd p) K=K (Cd (j1 c j c.stores.l[j] p)):=by
 have hN:=hs.n64
 have hN8:8<=N:=by omega
 have v:=hs.sto
 have C:=hs.top
 have I:c.stores.l[j]∈c.stores.l:=Ahu h
 skip
 have A:=@C0 R N c (c.stores.l.map (·.name)) o (k:=4) (n:=j) (hN:=hN) (hL:=fun K=>VS hs) (hn:=by simpa using h) (hs:=⟨by have:=v.1;omega,by have:=v.2;omega⟩)
 have B:(c.stores.l.map (·.name))[j]'(by simpa using h)=c.stores.l[j].name:=by simp
 rw[B]at A
 rw[P9];unfold N3 
 rw[Wc,Ab h,ct,Ahm,A7 Ly _ _ h]
 generalize c.stores.l[j]=b at *
 have D:ble 9 (List.length (b.av++List.flatMap StoreD.av (drop (j+1) c.stores.l)))=true:=by rw[Dx,Ahy,Ly];simp
 have G:take 9 (b.av++List.flatMap StoreD.av (drop (j+1) c.stores.l))=b.av:=Ajq (Ly b)
 rw[D,ct,G,Ly]
 simp only[En,A,StoreD.av,Aiu,Aid,Alc,Aj8,Ah8,Ajo,Av,Dx,pb,A4,Nat.reduceAdd,decide_true,Akg,Ake,cond_true,Ah0,Ahl]
 simp only[Ha hN8 (show c.buses.l.length<4611686018427387904 by omega),C7 hN8,Ae (show(3:Int)≠0 by decide),Zg hN8]
 unfold j1;cases Ob b.eff<;>cases decide (b.eff.num>0)<;>rfl
def HU{N:Nat}{c:CaseD}{p:Hm}{o:Bool}{j:Nat}{K:LA->O R}(hs:Small c N)(h:j<c.lines.l.length):
  H1 N c.av o (j:Int) (Cd p) K=K (Cd (mt c j c.lines.l[j] p)):=by
 have hN:=hs.n64
 have hN8:8<=N:=by omega
 have v:=hs.lin
 have C:=hs.top
 have D:c.lines.l[j]∈c.lines.l:=Ahu h
 have G:=hs.law _ D
 have A:=@C0 R N c (c.lines.l.map (·.name)) o (k:=2) (n:=j) (hN:=hN) (hL:=fun K=>cV hs) (hn:=by simpa using h) (hs:=⟨by have:=v.1;omega,by have:=v.2;omega⟩)
 have B:(c.lines.l.map (·.name))[j]'(by simpa using h)=c.lines.l[j].name:=by simp
 rw[B]at A
 rw[Tf];unfold Kr Hq Lj Mz Li My
 rw[Nk,Ab h,ct,Ahm,A7 Fo _ _ h]
 generalize c.lines.l[j]=b at *
 have I:ble 12 (List.length (b.av++List.flatMap LineD.av (drop (j+1) c.lines.l)))=true:=by rw[Dx,Ahy,Fo];simp
 have L:take 12 (b.av++List.flatMap LineD.av (drop (j+1) c.lines.l))=b.av:=Ajq (Fo b)
 rw[I,ct,L,Fo]
 simp only[En,A,LineD.av,Aiu,Aid,Alc,Aj8,Ah8,Ajo,Av,H4,Fk,Dx,pb,A4,Nat.reduceAdd,Nat.reduceLeDiff,decide_true,Akg,Ake,cond_true,Ah0]
 simp only[Ha hN8 (show c.buses.l.length<4611686018427387904 by omega),C7 hN8,Ae (show(1:Int)≠0 by decide),Ae (show(3:Int)≠0 by decide),Zg hN8,Qe rfl G]
 unfold mt;rw[show(b.fr != b.tl)=(b.tl != b.fr) by simp[bne,BEq.comm (a:=b.fr)]];cases Ob b.re<;>cases Ob b.smin<;>cases Ob b.smax<;>rfl
def vr(c:CaseD)(j:Nat)(u:UnitD)(p:Hm):Hm :=
 let p:=VR ((c.units.l.map (·.name)).take j) 3 j u.name p
 let p:=nd p (cT c u.bus) (3,j,1) xv
 let p:=nd p (D7 0 1048576 u.min) (3,j,2) e3
 let p:=nd p (D7 u.min 1048576 u.max) (3,j,3) e3
 let p:=zx u j p
 let p:=nd p (D7 0 1048576 u.noLoad) (3,j,5) e3
 let p:=nd p (D7 0 1048576 u.rampUp) (3,j,6) e3
 let p:=nd p (D7 0 1048576 u.rampDown) (3,j,7) e3
 let p:=nd p (D7 u.min u.max u.startRamp) (3,j,8) e3
 let p:=nd p (D7 u.min u.max u.stopRamp) (3,j,9) e3
 let p:=nd p (D7 0 24 u.upTime) (3,j,10) e3
 nd p (D7 0 24 u.downTime) (3,j,11) e3
def zy(c:CaseD)(j:Nat)(u:UnitD)(p:Hm):Hm :=
 let p:=nd p (D7 0 24 u.startTime) (3,j,12) e3
 let p:=nd p (D7 0 1048576 u.hotCost) (3,j,13) e3
 let p:=nd p (D7 0 1048576 u.coldCost) (3,j,14) e3
 let p:=nd p (D7 0 24 u.hotHours) (3,j,15) e3
 let p:=nd p (D7 0 1048576 u.reserve) (3,j,16) e3
 let p:=nd p (D7 0 1048576 u.reservePrice) (3,j,17) e3
 let p:=j0 c.hours u.away.l (3,j,18) p
 let p:=nd p (D7 0 2 u.state) (3,j,19) xv
 let p:=nd p (u.state != 1||decide (u.startTime>0)) (3,j,19) Afa
 let p:=nd p (D7 1 48 u.hours) (3,j,20) e3
 let p:=nd p (u.state != 1||decide (u.hours<=u.startTime)) (3,j,20) e3
 cond (u.state==2) (nd p (D7 u.min u.max u.output) (3,j,21) e3) (nd p (u.output==0) (3,j,21) e3)
def Aez(n:Int):D7 0 0 n=(n==0):=by
 unfold D7
 by_cases h:n=0
 ·simp[h]
 ·have:(n==0)=false:=by simpa using h
  rw[this];simp;omega
def Ab0{c:CaseD}{j:Nat}{u:UnitD}{p:Hm}:zy c j u (vr c j u p)=s9 c j u p:=by
 show _=(let p:=nd (vr c j u p) (D7 0 24 u.startTime) (3,j,12) e3
  let p:=nd p (D7 0 1048576 u.hotCost) (3,j,13) e3
  let p:=nd p (D7 0 1048576 u.coldCost) (3,j,14) e3
  let p:=nd p (D7 0 24 u.hotHours) (3,j,15) e3
  let p:=nd p (D7 0 1048576 u.reserve) (3,j,16) e3
  let p:=nd p (D7 0 1048576 u.reservePrice) (3,j,17) e3
  let p:=j0 c.hours u.away.l (3,j,18) p
  let p:=nd p (D7 0 2 u.state) (3,j,19) xv
  let p:=nd p (u.state != 1||u.startTime != 0) (3,j,19) Afa
  let p:=nd p (D7 1 48 u.hours) (3,j,20) e3
  let p:=nd p (u.state != 1||decide (u.hours<=u.startTime)) (3,j,20) e3
  cond (u.state==2) (nd p (D7 u.min u.max u.output) (3,j,21) e3) (nd p (D7 0 0 u.output) (3,j,21) e3))
 unfold zy
 rw[Aez]
 cases hq:nd (vr c j u p) (D7 0 24 u.startTime) (3,(j:Int),12) e3 with
|some x=>simp only[Abv,j0]
| none =>
  have k:D7 0 24 u.startTime=true:=by
   cases v:D7 0 24 u.startTime with
   |true=>rfl
   |false =>
    rw[v]at hq
    cases A:vr c j u p<;>rw[A]at hq<;>simp[nd]at hq
  have:decide (u.startTime>0)=(u.startTime != 0):=by
   unfold D7 at k
   simp at k
   by_cases h:u.startTime=0
   ·simp[h]
   ·have B:(u.startTime != 0)=true:=by simpa using h
    rw[B];simp;omega
  rw[this]
def HV{N:Nat}{c:CaseD}{p:Hm}{o:Bool}{j:Nat}{K:LA->O R}(hs:Small c N)(h:j<c.units.l.length):
  H3 N c.av o (j:Int) (Cd p) K=K (Cd (s9 c j c.units.l[j] p)):=by
 have hN:=hs.n64
 have hN8:8<=N:=by omega
 have v:=hs.uni
 have G:=hs.top
 have I:c.units.l[j]∈c.units.l:=Ahu h
 have L:=hs.seg _ I;have B:=hs.uaw _ I
 have A:=@C0 R N c (c.units.l.map (·.name)) o (k:=3) (n:=j) (hN:=hN) (hL:=fun K=>cW hs) (hn:=by simpa using h) (hs:=⟨by have:=v.1;omega,by have:=v.2;omega⟩)
 have C:(c.units.l.map (·.name))[j]'(by simpa using h)=c.units.l[j].name:=by simp
 rw[C]at A
 rw[Tg];unfold Ks Hr Lk M5
 rw[Xo,Ab h,ct,Ahm,A7 Mt _ _ h]
 generalize c.units.l[j]=b at *
 have T:ble 22 (List.length (b.av++List.flatMap UnitD.av (drop (j+1) c.units.l)))=true:=by rw[Dx,Ahy,Mt];simp
 have V:take 22 (b.av++List.flatMap UnitD.av (drop (j+1) c.units.l))=b.av:=Ajq (Mt b)
 rw[T,ct,V,Mt]
 have D:∀(p:Hm)(K:LA->O R),De N [.str b.name,.int .i64 b.bus,.int .i64 b.min,.int .i64 b.max,b.segs.av 2 SegD.av,.int .i64 b.noLoad,.int .i64 b.rampUp,.int .i64 b.rampDown,.int .i64 b.startRamp,.int .i64 b.stopRamp,.int .i64 b.upTime,.int .i64 b.downTime,.int .i64 b.startTime,.int .i64 b.hotCost,.int .i64 b.coldCost,.int .i64 b.hotHours,.int .i64 b.reserve,.int .i64 b.reservePrice,b.away.av 1 Xv,.int .i64 b.state,.int .i64 b.hours,.int .i64 b.output] o j (Cd p) K=K (Cd (zx b j p)):=fun p K=>Xw hN8 L
 simp only[En,A,UnitD.av,Aiu,Aid,Alc,Aj8,Av,H4,Fk,Dx,pb,decide_true,Akg,cond_true,cond_false,Ahl]
 simp only[Ha hN8 (show c.buses.l.length<4611686018427387904 by omega),C7 hN8,Ae (show(3:Int)≠0 by decide),Ae (show(12:Int)≠0 by decide),Ae (show(16:Int)≠0 by decide),D,Qe rfl B]
 rw[<-Ab0]
 unfold zy
 by_cases s1:b.state=1
 ·simp[s1];rfl
 ·have a4:(b.state != 1)=true:=by simpa using s1
  rw[a4]
  cases b.state==2<;>rfl
def CJ{N:Nat}{c:CaseD}{p:Hm}{o:Bool}{j:Nat}{K:LA->O R}(hs:Small c N)(h:j<c.outs.l.length):
  Fx N c.av o (j:Int) (Cd p) K=K (Cd (xy c j c.outs.l[j] p)):=by
 have hN:=hs.n64
 have hN8:8<=N:=by omega
 have v:=hs.out
 have A:=hs.top
 have D:c.outs.l[j]∈c.outs.l:=Ahu h
 have L:=hs.oli _ D;have B:=hs.omo _ D;have G:=hs.omb _ D
 have C:=@C0 R N c (c.outs.l.map (·.name)) o (k:=6) (n:=j) (hN:=hN) (hL:=fun K=>j5 hs) (hn:=by simpa using h) (hs:=⟨by have:=v.1;omega,by have:=v.2;omega⟩)
 have I:(c.outs.l.map (·.name))[j]'(by simpa using h)=c.outs.l[j].name:=by simp
 rw[I]at C
 rw[Pj];unfold Hs Gc I0
 rw[Vy,Ab h,ct,Ahm,A7 Lz _ _ h]
 generalize c.outs.l[j]=b at *
 have T:ble 4 (List.length (b.av++List.flatMap OutD.av (drop (j+1) c.outs.l)))=true:=by rw[Dx,Ahy,Lz];simp
 have V:take 4 (b.av++List.flatMap OutD.av (drop (j+1) c.outs.l))=b.av:=Ajq (Lz b)
 rw[T,ct,V,Lz]
 have l1:=fun p=>Tv (R:=R) (N:=N) (c:=c) (i:=j) (u:=b) (o:=o) (p:=p) (K:=K) hN8 A.2.2.1 B G b.moves.l.length 0 N (by omega) B.1
 simp only[Aj8,An8,Aj2,Ap]at l1
 simp only[pb,decide_true,Akg,cond_true,L5,En,C,Abz,vq,Ady,C7 hN8,Fn rfl L,T6 rfl L,Nk,Ae (show(4:Int)≠0 by decide),Ae (show(8:Int)≠0 by decide),Ae (show(11:Int)≠0 by decide),Ae (show(12:Int)≠0 by decide),Ae (show(16:Int)≠0 by decide),l1]
 have a1:D7 1 2 (b.lines.l.length:Int)=((b.lines.l.length:Int)==1||(b.lines.l.length:Int)==2):=by
  unfold D7
  by_cases x1:b.lines.l.length=1
  ·simp[x1]
  ·by_cases x2:b.lines.l.length=2
   ·simp[x2]
   ·have y1:((b.lines.l.length:Int)==1)=false:=by simp;omega
    have y2:((b.lines.l.length:Int)==2)=false:=by simp;omega
    rw[y1,y2];simp;omega
 have a2:b.lines.l.all (D7 0 (wrap .i64 ((c.lines.l.length:Int) - 1)))=b.lines.l.all fun n=>decide (0<=n)&&decide (n<(c.lines.l.length:Int)):=by
  congr 1;funext n;exact ue _ _ (by omega)
 rw[a1,a2]
 unfold xy uh
 cases b.corr
 ·simp
 ·simp
end
end Gx.Cf
namespace Gx.Cf
inductive Conn(es:List (Nat×Nat)):Nat->Nat->Prop
|refl (a:Nat):Conn es a a
|fwd {u v b:Nat}:(u,v)∈es->Conn es v b->Conn es u b
|bwd {u v b:Nat}:(u,v)∈es->Conn es u b->Conn es v b
def Conn.trans{es:List (Nat×Nat)}{a b c:Nat}(B:Conn es a b)(k:Conn es b c):Conn es a c:=by
 induction B with
|refl=>exact k
|fwd v _ A=>exact .fwd v (A k)
|bwd v _ A=>exact .bwd v (A k)
def Conn.symm{es:List (Nat×Nat)}{a b:Nat}(h:Conn es a b):Conn es b a:=by
 induction h with
|refl=>exact .refl _
|fwd k _ v=>exact v.trans (.bwd k (.refl _))
|bwd k _ v=>exact v.trans (.fwd k (.refl _))
def Conn.mono{es fs:List (Nat×Nat)}(hs:∀ e∈es,e∈fs){a b:Nat}(h:Conn es a b):Conn fs a b:=by
 induction h with
|refl=>exact .refl _
|fwd k _ v=>exact .fwd (hs _ k) v
|bwd k _ v=>exact .bwd (hs _ k) v
def cX(es:List (Nat×Nat))(b:Nat):Prop:=∀ a,a<b->¬ Conn es a b
open Classical in
noncomputable def Tx(n:Nat)(es:List (Nat×Nat)):Nat:=((List.range n).filter fun b=>decide (cX es b)).length
def ui{n:Nat}{es fs:List (Nat×Nat)}(h:∀ e∈es,e∈fs):Tx n fs<=Tx n es:=by
 unfold Tx
 have:∀(l:List Nat),(l.filter fun b=>@decide (cX fs b) (Classical.propDecidable _)).length<=(l.filter fun b=>@decide (cX es b) (Classical.propDecidable _)).length:=by
  intro l
  induction l with
  |nil=>simp
  | cons a r k =>
   rw[Akh,Akh]
   by_cases x:cX fs a
   ·have:cX es a:=fun b v A=>x b v (A.mono h)
    simp[x,this,k]
   ·by_cases y:cX es a<;>simp[x,y]<;>omega
 exact this _
def Nl(n:Nat):List Int:=(List.range n).map fun b:Nat=>(b:Int)
def mv{n a:Nat}(h:a<n):(Nl n).getD a 0=(a:Int):=by rw[Ahr,Nl,Akd,List.getElem?_range h];rfl
structure LeastOk(n:Nat)(es:List (Nat×Nat))(L:List Int):Prop where
 len:L.length=n
 low:∀ b,b<n->0<=L.getD b 0/\L.getD b 0<=b
 con:∀ b,b<n->Conn es (L.getD b 0).toNat b
def vt(es:List (Nat×Nat))(L:List Int):Prop:=∀ e∈es,L.getD e.1 0=L.getD e.2 0
def Ab1(L:List Int):Nat:=((List.range L.length).filter fun b=>L.getD b 0==(b:Int)).length
def cY{n:Nat}{es:List (Nat×Nat)}{L:List Int}(h:LeastOk n es L)(C:vt es L)(D:∀ e∈es,e.1<n/\e.2<n):Ab1 L=Tx n es:=by
 unfold Ab1 Tx
 rw[h.len]
 congr 1
 apply List.filter_congr
 intro b v
 have v:b<n:=by simpa using v
 have conn_eq:∀ a b,Conn es a b->L.getD a 0=L.getD b 0:=by
  intro a b A
  induction A with
  |refl=>rfl
  |fwd k _ B=>exact(C _ k).trans B
  |bwd k _ B=>exact(C _ k).symm.trans B
 have G:=h.low b v
 by_cases x:L.getD b 0=(b:Int)
 ·have:cX es b:=fun a I A=>by
   have e:=conn_eq a b A
   have:=(h.low a (by omega)).2
   omega
  have x':(L.getD b 0==(b:Int))=true:=by simpa using x
  rw[x'];simp[this]
 ·have x':(L.getD b 0==(b:Int))=false:=by simpa using x
  have:¬ cX es b:=fun k=>k (L.getD b 0).toNat (by omega) (h.con b v)
  rw[x'];simp[this]
end Gx.Cf
namespace Gx.Cf
open Go Go.Proofs
section
variable{R:Type}
def FR{l:List Int}{j:Nat}(h:j<l.length):l.getD j 0=l[j]:=by rw[Ahr,Ahk h];rfl
def mw{x:Int}{n:Nat}(k:0<=x)(v:x.toNat<n):Ah x n=true:=by simp[Ah];omega
def Aaa{l:List Int}{x:Int}(h:x.toNat<l.length){f:Int->O R}:Au .i64 (drop (0+((Int.toNat x)*1)) (Ap l)) f=f (l.getD x.toNat 0):=by rw[Ah0,Ah1,KJ h,FR h]
def VT(l:List Int)(j:Nat)(v:Int):List.set (Ap l) j (.int .i64 v)=Ap (l.set j v):=by simp[Ap,An9]
def pf{l:List Int}{x:Nat}(h:x<l.length):((beq 1 1)&&((ble ((0+(x*1))+1) (List.length (Ap l)))&&(!false)))=true:=by rw[pb,Dx,G5];simp;omega
def Gk(c:CaseD)(l:Int):Nat×Nat:=match c.lines.l[l.toNat]? with
|some x=>(x.fr.toNat,x.tl.toNat)
|none=>(0,0)
structure LnV(c:CaseD)(l:Int)(x:LineD):Prop where
 l0:0<=l
 lt:l.toNat<c.lines.l.length
 at':c.lines.l[l.toNat]?=some x
 f0:0<=x.fr
 f1:x.fr.toNat<c.buses.l.length
 t0:0<=x.tl
 t1:x.tl.toNat<c.buses.l.length
def vu{c:CaseD}{l:Int}{x:LineD}(h:LnV c l x):Gk c l=(x.fr.toNat,x.tl.toNat):=by unfold Gk;rw[h.at']
def Ae0{c:CaseD}{l:Int}{x:LineD}(h:LnV c l x){f:Int->O R}:Au .i64 (drop 1 (drop ((Int.toNat l)*12) (c.lines.l.flatMap LineD.av))) f=f x.fr:=by
 have e:c.lines.l[l.toNat]'h.lt=x:=by have:=h.at';rw[Ahk h.lt]at this;simpa using this
 rw[A7 Fo _ _ h.lt,e];simp[LineD.av,Av]
def Ae1{c:CaseD}{l:Int}{x:LineD}(h:LnV c l x){f:Int->O R}:Au .i64 (drop 2 (drop ((Int.toNat l)*12) (c.lines.l.flatMap LineD.av))) f=f x.tl:=by
 have e:c.lines.l[l.toNat]'h.lt=x:=by have:=h.at';rw[Ahk h.lt]at this;simpa using this
 rw[A7 Fo _ _ h.lt,e];simp[LineD.av,Av]
def uj{L:List Int}{n j:Nat}(v:L.length=n)(h:j<n):((Nl n).take j++L.drop j).set j (j:Int)=(Nl n).take (j+1)++L.drop (j+1):=by
 have hi:(Nl n).length=n:=by simp[Nl]
 have e:(Nl n)[j]'(by omega)=(j:Int):=by simp[Nl]
 have k:j - ((Nl n).take j).length=0:=by simp[hi];omega
 rw[Alz _ _ (by simp;omega),k,Ah2 (by omega),Eh (l:=L) (by omega),e,List.set_cons_zero,Akc];rfl
def ZM(h:Int):List LineD->Nat->List Int
|[],_=>[]
|x::r,j=>cond (x.away.l.contains h) (ZM h r (j+1)) ((j:Int)::ZM h r (j+1))
def LJ(h:Int):∀(l:List LineD)(j:Nat),(ZM h l j).length<=l.length
|[],_=>by simp[ZM]
|x::r,j=>by rw[ZM];have:=LJ h r (j+1);cases x.away.l.contains h<;>simp<;>omega
def sa(h:Int):∀(l:List LineD)(j:Nat)(a:Int),a∈ZM h l j->(j:Int)<=a/\a<j+l.length
|[],_,_,k=>by simp[ZM]at k
| x::r,j,a,k=>by
  rw[ZM]at k
  have v:=sa h r (j+1) a
  cases A:x.away.l.contains h<;>rw[A]at k<;>simp at k
  ·rcases k with rfl|k
   ·simp;omega
   ·have:=v k;simp at this ⊢;omega
  ·have:=v k;simp at this ⊢;omega
def A1(c:CaseD)(h:Int):List Int:=ZM h c.lines.l 0
def pg{A B:List Int}{n:Nat}(h:n=A.length):(take (n*1) (Ap A))++Ap B=Ap (A++B):=by rw[Ah1,Ahi (by simp[G5,h]),cS]
def LK{N:Nat}{c:CaseD}{h:Int}{o:Bool}{K:Nat->LA->O R}(hs:Small c N):∀(m j fuel:Nat)(A:List Int),j+m=c.lines.l.length->m<fuel->A.length<=j ->
  Ec N K h o c.av fuel A.length (j:Int) (Ap A)=K (A++ZM h (c.lines.l.drop j) j).length (Ap (A++ZM h (c.lines.l.drop j) j))
|0,j,fuel+1,A,G,_,_=>by
  rw[Ec];unfold Ku
  rw[Nk,K4 (by omega),cf,Gh (l:=c.lines.l) (by omega),ZM,Aiy]
| m+1,j,fuel+1,A,G,Y,hA=>by
  rw[Ec];unfold Ku
  have k:j<c.lines.l.length:=by omega
  have D:=hs.top.2.1
  have I:c.lines.l[j]∈c.lines.l:=Ahu k
  have L:=hs.law _ I
  simp only[Nk]
  rw[Jy k,ct,Ab k,ct,Ahm,A7 Fo _ _ k,Eh (l:=c.lines.l) k,ZM]
  have v:=LK (N:=N) (c:=c) (h:=h) (o:=o) (K:=K) hs m (j+1) fuel (A++[(j:Int)]) (by omega) (by omega) (by simp;omega)
  have C:=LK (N:=N) (c:=c) (h:=h) (o:=o) (K:=K) hs m (j+1) fuel A (by omega) (by omega) (by omega)
  generalize c.lines.l[j]=b at *
  have b3:(ble (A.length+1) 140737488355328&&ble ((A.length+1)*8) 140737488355328)=true:=by rw[Dx,Dx];simp;omega
  have T:∀(r:LA)(f:LA->Nat->O R),Bv 1 (drop 11 (b.av++r)) f=f (Ap b.away.l) b.away.l.length:=fun r f=>by simp[LineD.av,H4,Fk]
  have V:take (A.length*1) (Ap A)++[.int .i64 (j:Int)]=Ap (A++[(j:Int)]):=pg (B:=[(j:Int)]) rfl
  rw[T,FL rfl L,b3,ct,V,D6 (by omega)]
  cases b.away.l.contains h with
  |true=>simp only[Akq,cond_false,cond_true];exact C
  |false =>
   simp only[Ajn,cond_true,cond_false]
   rw[Ahy]at v
   simpa using v
def sb{N:Nat}{c:CaseD}{h:Int}{o:Bool}{K:Nat->LA->O R}(hs:Small c N):Nc N c.av o h K=K (A1 c h).length (Ap (A1 c h)):=by
 rw[Yl];unfold Pk
 have:=LK (R:=R) (N:=N) (c:=c) (h:=h) (o:=o) (K:=K) hs c.lines.l.length 0 N [] (by omega) hs.lin.1 (by simp)
 simpa[A1,Ap]using this
def Bf(e:Nat×Nat):LA:=[.int .i64 (e.1:Int),.int .i64 (e.2:Int)]
def P5(e:Nat×Nat):(Bf e).length=2:=rfl
def M'(es:List (Nat×Nat)):(es.flatMap Bf).length=es.length*2:=by
 induction es with
|nil=>rfl
|cons e r k=>rw[Aie,Ahy,k,P5];simp;omega
def j6{N:Nat}{c:CaseD}{o:Bool}{ls:List Int}{K:Nat->Nat->LA->LA->O R}(A:ls.length<=1000000)(v:∀ l∈ls,∃ x,LnV c l x):∀(m j fuel:Nat),j+m=ls.length->m<fuel ->
  I3 N K ls.length o c.av (Ap ls) fuel j (ls.length:Int) (j:Int) (((ls.take j).map (Gk c)).flatMap Bf)=K ls.length ls.length ((ls.map (Gk c)).flatMap Bf) (Ap ls)
|0,j,fuel+1,B,_=>by
  rw[I3];unfold Sg
  have:j=ls.length:=by omega
  rw[K4 (by omega),cf,Ahi (by omega),this]
| m+1,j,fuel+1,B,D=>by
  rw[I3];unfold Sg
  have h:j<ls.length:=by omega
  obtain⟨x,k⟩:=v ls[j] (Ahu h)
  have b3:(ble (j+1) 140737488355328&&ble ((j+1)*16) 140737488355328)=true:=by rw[Dx,Dx];simp;omega
  have C:take (j*2) (((ls.take j).map (Gk c)).flatMap Bf)++[.int .i64 x.fr,.int .i64 x.tl]=((ls.take (j+1)).map (Gk c)).flatMap Bf:=by
   rw[Ahi (by rw[M'];simp;omega),Ah2 h,Ajk,Ame]
   simp only[Ah9,An8,vu k,Aie,List.flatMap_nil,Aiy,Bf]
   have:=k.f0;have:=k.t0
   rw[Anq k.f0,Anq k.t0]
  rw[Jy h,ct,Ab h,ct,Aaa (by simpa using h),Ahm,FR h]
  simp only[Nk,Ae0 k,Ae1 k]
  rw[mw k.l0 k.lt,ct,ct,b3,ct,C,D6 (by omega),j6 A v m (j+1) fuel (by omega) (by omega)]
def uk{N:Nat}{c:CaseD}{h:Int}{o:Bool}{K:Nat->Nat->LA->LA->O R}(hs:Small c N)(A:∀ l∈A1 c h,∃ x,LnV c l x):
  BG N c.av o h K=K (A1 c h).length (A1 c h).length (((A1 c h).map (Gk c)).flatMap Bf) (Ap (A1 c h)):=by
 rw[OS];unfold D_
 have B:=LJ h c.lines.l 0
 have k:=hs.top.2.1
 have v:=hs.lin.1
 have:=j6 (R:=R) (N:=N) (c:=c) (o:=o) (ls:=A1 c h) (K:=K) (by unfold A1;omega) A (A1 c h).length 0 N (by omega) (by unfold A1;omega)
 rw[L5,ct,En,sb hs]
 simpa using this
def Ef(st:Bool×List Int)(e:Nat×Nat):Bool×List Int :=
 let m:=E2 (st.2.getD e.1 0) (st.2.getD e.2 0)
 ((st.1||(st.2.getD e.1 0 != m))||(st.2.getD e.2 0 != m),(st.2.set e.1 m).set e.2 m)
def cZ{N:Nat}{es:List (Nat×Nat)}{n:Nat}{t o:Bool}{K1:Bool->LA->O R}{K:Nat->LA->O R}(hs:es.length<4611686018427387904)(B:∀ e∈es,e.1<n/\e.2<n):∀(m j fuel:Nat)(st:Bool×List Int),j+m=es.length->m<fuel->st.2.length=n ->
  Fy N K1 K (es.flatMap Bf) es.length t o n fuel st.1 (es.length:Int) (j:Int) (Ap st.2)=K1 ((es.drop j).foldl Ef st).1 (Ap ((es.drop j).foldl Ef st).2)
|0,j,fuel+1,st,C,_,_=>by
  rw[Fy];unfold Nq
  rw[K4 (by omega),cf,Gh (l:=es) (by omega)];rfl
| m+1,j,fuel+1,st,C,hf,k=>by
  rw[Fy];unfold Nq
  have h:j<es.length:=by omega
  obtain⟨v,A⟩:=B es[j] (Ahu h)
  have D:=cZ (N:=N) (es:=es) (n:=n) (t:=t) (o:=o) (K1:=K1) (K:=K) hs B m (j+1) fuel (Ef st es[j]) (by omega) (by omega) (by simp[Ef,k])
  rw[Jy h,ct,Ab h,ct,Ahm,A7 P5 _ _ h,Eh (l:=es) h,Alf,<-D]
  generalize es[j]=e at *
  have G:ble 2 (List.length (Bf e++List.flatMap Bf (drop (j+1) es)))=true:=by rw[Dx,Ahy,P5];simp
  have I:take 2 (Bf e++List.flatMap Bf (drop (j+1) es))=Bf e:=Ajq (P5 e)
  rw[G,ct,I,P5]
  have iu:Ah (e.1:Int) n=true:=Ab v
  have iv:Ah (e.2:Int) n=true:=Ab A
  have ru:∀ f:Int->O R,Au .i64 (drop (0+((Int.toNat (e.1:Int))*1)) (Ap st.2)) f=f (st.2.getD e.1 0):=fun f=>by rw[Aaa (by rw[k];simpa using v)];rfl
  have rv:∀ f:Int->O R,Au .i64 (drop (0+((Int.toNat (e.2:Int))*1)) (Ap st.2)) f=f (st.2.getD e.2 0):=fun f=>by rw[Aaa (by rw[k];simpa using A)];rfl
  have s1:=pf (l:=st.2) (x:=Int.toNat (e.1:Int)) (by rw[k];simpa using v)
  have s2:∀ m:Int,((beq 1 1)&&((ble ((0+((Int.toNat (e.2:Int))*1))+1) (List.length (List.set (Ap st.2) (0+((Int.toNat (e.1:Int))*1)) (.int .i64 m))))&&(!false)))=true:=fun m=>by
   rw[VT];exact pf (by simpa[k]using A)
  have L:∀ m:Int,List.set (List.set (Ap st.2) (0+((Int.toNat (e.1:Int))*1)) (.int .i64 m)) (0+((Int.toNat (e.2:Int))*1)) (.int .i64 m)=Ap ((st.2.set e.1 m).set e.2 m):=fun m=>by
   rw[VT,VT];simp
  have T:(!o||A4 (Bf e))=true:=by simp[Bf,A4]
  have V:(beq 2 2&&(ble 2 2&&!false))=true:=rfl
  have Y:setCells [.int .i64 (0:Int),.int .i64 (0:Int)] 0 (Bf e)=Bf e:=rfl
  have p4:∀ f:Int->O R,Au .i64 (Bf e) f=f e.1:=fun f=>by simp[Bf,Av]
  have p5:∀ f:Int->O R,Au .i64 (drop 1 (Bf e)) f=f e.2:=fun f=>by simp[Bf,Av]
  simp only[T,V,Y,p4,p5,ct,iu,iv,ru,rv,s1,s2,L,D6 (show j<4611686018427387904 by omega)]
  unfold Ef
  cases st.1
  ·cases hm:(st.2.getD e.1 0 != E2 (st.2.getD e.1 0) (st.2.getD e.2 0))<;>simp only[hm,Ald,Akm,cond_true,cond_false,beq_self_eq_true,show(true==false)=false from rfl]
  ·simp only[Akm,cond_false,show(true==false)=false from rfl]
def RP(L:List Int):Nat:=(L.map Int.toNat).sum
def vw{L:List Int}{x:Nat}{v:Int}(h:x<L.length):RP (L.set x v)+(L.getD x 0).toNat=RP L+v.toNat:=by
 unfold RP
 rw[FR h]
 induction L generalizing x with
|nil=>simp at h
|cons a r k =>
  cases x with
  |zero=>simp;omega
  |succ x=>have:=k (x:=x) (by simpa using h);simp at this ⊢;omega
def j7{L:List Int}{x y:Nat}{v:Int}(h:x<L.length):(L.set x v).getD y 0=if x=y then v else L.getD y 0:=by
 rw[Ahr,Ahr,List.getElem?_set]
 by_cases e:x=y
 ·subst e;simp[h]
 ·simp[e]
def Ab2(a b:Int):E2 a b<=a/\E2 a b<=b/\(E2 a b=a\/E2 a b=b):=by
 unfold E2
 by_cases h:b<a
 ·simp[h];omega
 ·simp[h];omega
def xz {n:Nat} {es:List (Nat×Nat)} {e:Nat×Nat} (V:e ∈ es) (D:e.1<n) (G:e.2<n) {b:Bool} {L:List Int} (h:LeastOk n es L) :
    LeastOk n es (Ef (b,L) e).2/\(((Ef (b,L) e).1=true/\RP (Ef (b,L) e).2<RP L)\/((Ef (b,L) e)=(b,L)/\L.getD e.1 0=L.getD e.2 0)):=by
  obtain⟨u,v⟩:=e
  simp only at D G
  obtain⟨m1,m2,m3⟩:=Ab2 (L.getD u 0) (L.getD v 0)
  have k:u<L.length:=by rw[h.len];exact D
  have B:v<L.length:=by rw[h.len];exact G
  have A:Conn es u v:=.fwd V (.refl _)
  have Al:∀ y,((L.set u (E2 (L.getD u 0) (L.getD v 0))).set v (E2 (L.getD u 0) (L.getD v 0))).getD y 0=if v=y then E2 (L.getD u 0) (L.getD v 0)else if u=y then E2 (L.getD u 0) (L.getD v 0)else L.getD y 0:=fun y=>by
    rw[j7 (by simpa using B),j7 k]
  have lu:=h.low u D
  have lv:=h.low v G
  refine⟨⟨by simp[Ef,h.len],fun y T=>?_,fun y T=>?_⟩,?_⟩
  · simp only[Ef,Al]
    split
    · rename_i e;subst e;omega
    · split
      · rename_i e;subst e;omega
      · exact h.low y T
  · simp only[Ef,Al]
    have cm:Conn es (E2 (L.getD u 0) (L.getD v 0)).toNat u:=by
      rcases m3 with e|e<;>rw[e]
      · exact h.con u D
      · exact(h.con v G).trans A.symm
    split
    · rename_i e;subst e;exact cm.trans A
    · split
      · rename_i e;subst e;exact cm
      · exact h.con y T
  · by_cases e1:L.getD u 0=E2 (L.getD u 0) (L.getD v 0)<;>by_cases I:L.getD v 0=E2 (L.getD u 0) (L.getD v 0)
    · right
      have q:(L.set u (E2 (L.getD u 0) (L.getD v 0))).set v (E2 (L.getD u 0) (L.getD v 0))=L:=by
        have key:∀ m:Int,L.getD u 0=m->L.getD v 0=m->(L.set u m).set v m=L:=by
          intro m Y h2
          have a1:L.set u m=L:=by rw[<-Y,FR k,Anh]
          have a2:L.set v m=L:=by rw[<-h2,FR B,Anh]
          rw[a1,a2]
        exact key _ e1 I
      have x1:(L.getD u 0 != E2 (L.getD u 0) (L.getD v 0))=false:=by simpa using e1
      have x2:(L.getD v 0 != E2 (L.getD u 0) (L.getD v 0))=false:=by simpa using I
      refine⟨by simp only[Ef,q,x1,x2,Bool.or_false],by rw[e1];exact I.symm⟩
    all_goals
      left
      have hs1:=vw (v:=E2 (L.getD u 0) (L.getD v 0)) k
      have C:=vw (L:=L.set u (E2 (L.getD u 0) (L.getD v 0))) (x:=v) (v:=E2 (L.getD u 0) (L.getD v 0)) (by simpa using B)
      rw[j7 k]at C
      refine⟨?_,?_⟩
      · first
          | (have x2 : (L.getD v 0 != E2 (L.getD u 0) (L.getD v 0)) = true := by simpa using I
             simp only[Ef,x2,Ake])
          | (have x1 : (L.getD u 0 != E2 (L.getD u 0) (L.getD v 0)) = true := by simpa using e1
             simp only[Ef,x1,Ake,Akm])
      · simp only[Ef]
        split at C
        · rename_i e;subst e;omega
        · omega
def ph{n:Nat}{es:List (Nat×Nat)}(v:∀ e∈es,e.1<n/\e.2<n):∀(fs:List (Nat×Nat))(b:Bool)(L:List Int),(∀ e∈fs,e∈es)->LeastOk n es L ->
  LeastOk n es (fs.foldl Ef (b,L)).2/\(((fs.foldl Ef (b,L)).1=true/\(RP (fs.foldl Ef (b,L)).2<RP L\/(b=true/\RP (fs.foldl Ef (b,L)).2<=RP L)))\/((fs.foldl Ef (b,L))=(b,L)/\vt fs L))
|[],b,L,_,h=>⟨h,.inr ⟨rfl,fun e v=>by simp at v⟩⟩
| e::r,b,L,D,h=>by
  have G:=D e (by simp)
  obtain⟨Y,h2⟩:=xz G (v e G).1 (v e G).2 (b:=b) h
  rw[Alf]
  rcases h2 with⟨I,T⟩|⟨I,T⟩
  ·have e':Ef (b,L) e=(true,(Ef (b,L) e).2):=by rw[<-I]
   rw[e']
   obtain⟨V,A⟩:=ph v r true (Ef (b,L) e).2 (fun x k=>D x (Ajt _ k)) Y
   refine⟨V,.inl ?_⟩
   rcases A with⟨B,C⟩|⟨B,_⟩
   ·exact⟨B,.inl (by rcases C with C|⟨_,C⟩<;>omega)⟩
   ·rw[B];exact⟨rfl,.inl T⟩
  ·rw[I]
   obtain⟨V,A⟩:=ph v r b L (fun x k=>D x (Ajt _ k)) h
   refine⟨V,?_⟩
   rcases A with A|⟨B,C⟩
   ·exact .inl A
   ·refine .inr ⟨B,fun x k=>?_⟩
    rcases Ah4.1 k with rfl|k
    ·exact T
    ·exact C x k
def c9{N:Nat}{es:List (Nat×Nat)}{n:Nat}{t o:Bool}(hs:Oa es.length N)(v:∀ e∈es,e.1<n/\e.2<n):∀(s fuel:Nat)(L:List Int),LeastOk n es L->RP L<=s->s+2<fuel ->
  ∃ L',LeastOk n es L'/\vt es L'/\∀ K:Nat->LA->O R,Cl N K (es.flatMap Bf) es.length t o n fuel true (Ap L)=K n (Ap L')
| s,fuel+1,L,h,hL,I=>by
  obtain⟨B,C⟩:=ph v es false L (fun _ D=>D) h
  have step:∀ K:Nat->LA->O R,Cl N K (es.flatMap Bf) es.length t o n (fuel+1) true (Ap L)=Cl N K (es.flatMap Bf) es.length t o n fuel (es.foldl Ef (false,L)).1 (Ap (es.foldl Ef (false,L)).2):=fun K=>by
   rw[Cl];unfold Nr
   have:=cZ (R:=R) (N:=N) (es:=es) (n:=n) (t:=t) (o:=o) (K1:=Cl N K (es.flatMap Bf) es.length t o n fuel) (K:=K) hs.2 v es.length 0 N (false,L) (by omega) hs.1 h.len
   simpa using this
  rcases C with⟨A,k⟩|⟨A,k⟩
  ·have G:RP (es.foldl Ef (false,L)).2<RP L:=by
    rcases k with k|⟨k,_⟩
    ·exact k
    ·cases k
   obtain⟨L',a1,a2,a3⟩:=c9 hs v (s - 1) fuel _ B (by omega) (by omega)
   exact⟨L',a1,a2,fun K=>by rw[step,A];exact a3 K⟩
  ·refine⟨L,h,k,fun K=>?_⟩
   rw[step,A]
   rcases fuel with _|fuel
   ·omega
   ·rw[Cl];unfold Nr;rfl
 termination_by s=>s
 decreasing_by omega
def c_{N:Nat}{es:List (Nat×Nat)}{n:Nat}{t o:Bool}{K:Nat->LA->O R}(hn:n<4611686018427387904)(L:List Int)(hL:L.length=n):∀(m j fuel:Nat),j+m=n->m<fuel ->
  Fz N K (n:Int) (es.flatMap Bf) es.length t o fuel n (j:Int) (Ap ((Nl n).take j++L.drop j))=Cl N K (es.flatMap Bf) es.length t o n N true (Ap (Nl n))
|0,j,fuel+1,v,_=>by
  rw[Fz];unfold Ns
  rw[K4 (by omega),cf,Gh (by omega),Aiy,Ahi (by simp[Nl];omega)]
|m+1,j,fuel+1,v,A=>by
  rw[Fz];unfold Ns
  have h:j<n:=by omega
  have k:((Nl n).take j++L.drop j).length=n:=by simp[Nl];omega
  rw[Jy h,ct,Ab h,ct,pf (by rw[k];simpa using h),ct,Ahm,Ah0,Ah1,VT,uj hL h,D6 (by omega),c_ hn L hL m (j+1) fuel (by omega) (by omega)]
def um(n:Nat)(es:List (Nat×Nat)):LeastOk n es (Nl n):=by
 refine⟨by simp[Nl],fun b k=>?_,fun b k=>?_⟩
 ·rw[mv k];omega
 ·rw[mv k];exact .refl _
def Adz{L:List Int}{b:Nat}:(∀ x∈L,x.toNat<=b)->RP L<=L.length*b:=by
 unfold RP
 induction L with
|nil=>intro _;simp
|cons a r k =>
  intro h
  have A:=h a (by simp)
  have B:=k (fun x v=>h x (Ajt _ v))
  simp[Ahv];omega
def VU{N:Nat}{es:List (Nat×Nat)}{n:Nat}{t o:Bool}(hs:Oa es.length N)(hn:n<=1000)(hN:n*n+1000<N)(A:∀ e∈es,e.1<n/\e.2<n):
  ∃ L,LeastOk n es L/\vt es L/\∀(m:Nat)(K:Nat->LA->O R),m=es.length->Oi N (n:Int) (es.flatMap Bf) m t o K=K n (Ap L):=by
 have k:RP (Nl n)<=n*n:=by
  have:=Adz (L:=Nl n) (b:=n) (by
   intro x v;simp[Nl] at v;obtain⟨a,I,rfl⟩:=v;simp;omega)
  simpa[Nl]using this
 obtain⟨L,B,C,D⟩:=c9 (R:=R) (N:=N) (es:=es) (n:=n) (t:=t) (o:=o) hs A (n*n) N (Nl n) (um n es) k (by omega)
 refine⟨L,B,C,fun m K G=>?_⟩
 subst G
 rw[GM];unfold Vf
 have ok:(decide ((0:Int)<=(n:Int))&&(decide ((n:Int)<=(n:Int))&&(decide ((n:Int)<=(140737488355328:Int))&&decide (((n:Int)*((8:Nat):Int))<=(140737488355328:Int)))))=true:=by simp;omega
 have e:replicate n (AV.int .i64 (0:Int))=Ap (replicate n 0):=by simp[Ap]
 have:=c_ (R:=R) (N:=N) (es:=es) (n:=n) (t:=t) (o:=o) (K:=K) (by omega) (replicate n 0) (by simp) n 0 N (by omega) (by omega)
 rw[ok,ct,Ahm,e,<-D K]
 simpa using this
def RQ{N:Nat}{L:List Int}{t o:Bool}{K:Int->O R}(hs:L.length<1000000):∀(m j fuel:Nat)(a:Nat),j+m=L.length->m<fuel->a<=j ->
  I4 N K (Ap L) L.length t o fuel (a:Int) (j:Int)=K ((a+((List.range' j m).filter fun b=>L.getD b 0==(b:Int)).length:Nat):Int)
|0,j,fuel+1,a,k,_,_=>by
  rw[I4];unfold Sh
  rw[K4 (by omega),cf];simp
| m+1,j,fuel+1,a,k,v,A=>by
  rw[I4];unfold Sh
  have h:j<L.length:=by omega
  rw[Jy h,ct,Ab h,ct,jY h,D6 (by omega),D6 (by omega),List.range'_succ,Akh,FR h]
  cases B:L[j]==(j:Int)with
  |true =>
   rw[ct,RQ hs m (j+1) fuel (a+1) (by omega) (by omega) (by omega)]
   simp;congr 1;omega
  |false =>
   rw[cf,RQ hs m (j+1) fuel a (by omega) (by omega) (by omega)]
   simp
def j8{N:Nat}{L:List Int}{n:Nat}{t o:Bool}{K:Int->O R}(hn:n=L.length)(hs:L.length<1000000)(hN:L.length<N):V8 N (Ap L) n t o K=K (Ab1 L:Int):=by
 subst hn
 rw[OT];unfold EA
 have:=RQ (R:=R) (N:=N) (L:=L) (t:=t) (o:=o) (K:=K) hs L.length 0 N 0 (by omega) hN (by omega)
 simp only[Aj2,Ah0]at this
 rw[Ab1,List.range_eq_range']
 exact this
def VV(gone:List Int):List (Nat×Nat)->Nat->List (Nat×Nat)
|[],_=>[]
|e::r,j=>cond (gone.contains (j:Int)) (VV gone r (j+1)) (e::VV gone r (j+1))
def j9{N:Nat}{es:List (Nat×Nat)}{gone:List Int}{n:Nat}{t o t2 o2:Bool}{K:Bool->O R}(V:es.length<=1000)(hlN:es.length<N)(hn:n<=1000)(hN:n*n+1000<N)(k:∀ e∈es,e.1<n/\e.2<n)(D:Oa gone.length N):∀(m j fuel:Nat)(A:List (Nat×Nat)),j+m=es.length->m<fuel->A.length<=j->(∀ e∈A,e.1<n/\e.2<n) ->
  Ed N K (n:Int) (es.flatMap Bf) es.length t o (Ap gone) gone.length t2 o2 fuel A.length (j:Int) (A.flatMap Bf)=K (decide ((Tx n (A++VV gone (es.drop j) j):Int)>(Tx n es:Int)))
|0,j,fuel+1,A,Y,_,hA,hAe=>by
  rw[Ed];unfold Kv
  obtain⟨L,a1,a2,a3⟩:=VU (R:=R) (N:=N) (es:=A) (n:=n) (t:=false) (o:=true) ⟨by omega,by omega⟩ hn hN hAe
  obtain⟨L',B,G,b3⟩:=VU (R:=R) (N:=N) (es:=es) (n:=n) (t:=false) (o:=o) ⟨by omega,by omega⟩ hn hN k
  have l1:=a1.len;have l2:=B.len
  rw[K4 (by omega),cf,Gh (l:=es) (by omega),VV,Aiy,Ahi (by rw[M'];exact Ahl _),a3 _ _ rfl,Ah1,Ahi (by rw[G5];omega),j8 (by omega) (by omega) (by omega),b3 _ _ rfl,Ahi (by rw[G5];omega),j8 (by omega) (by omega) (by omega),cY a1 a2 hAe,cY B G k]
| m+1,j,fuel+1,A,Y,hf,hA,hAe=>by
  rw[Ed];unfold Kv
  have h:j<es.length:=by omega
  have v:=j9 (N:=N) (es:=es) (gone:=gone) (n:=n) (t:=t) (o:=o) (t2:=t2) (o2:=o2) (K:=K) V hlN hn hN k D m (j+1) fuel (A++[es[j]]) (by omega) (by omega) (by simp;omega) (by
   intro e I
   rcases Ahz.1 I with C|C
   ·exact hAe e C
   ·simp at C;subst C;exact k _ (Ahu h))
  have T:=j9 (N:=N) (es:=es) (gone:=gone) (n:=n) (t:=t) (o:=o) (t2:=t2) (o2:=o2) (K:=K) V hlN hn hN k D m (j+1) fuel A (by omega) (by omega) (by omega) hAe
  rw[Jy h,ct,FL rfl D,Ab h,ct,Ahm,A7 P5 _ _ h,Eh (l:=es) h,VV]
  generalize es[j]=e at *
  have B:ble 2 (List.length (Bf e++List.flatMap Bf (drop (j+1) es)))=true:=by rw[Dx,Ahy,P5];simp
  have G:take 2 (Bf e++List.flatMap Bf (drop (j+1) es))=Bf e:=Ajq (P5 e)
  have b3:(ble (A.length+1) 140737488355328&&ble ((A.length+1)*16) 140737488355328)=true:=by rw[Dx,Dx];simp;omega
  have p1:(!o||A4 (Bf e))=true:=by simp[Bf,A4]
  have p3:take 2 (setCells [.int .i64 (0:Int),.int .i64 (0:Int)] 0 (Bf e))=Bf e:=rfl
  have b5:take (A.length*2) (A.flatMap Bf)++Bf e=(A++[e]).flatMap Bf:=by
   rw[Ahi (by rw[M'];exact Ahl _)];simp
  rw[B,ct,G,p1,ct,P5,show(beq 2 2&&ble 2 2)=true from rfl,ct,b3,ct,p3,b5,D6 (by omega)]
  cases gone.contains (j:Int)with
  |true=>simp only[Akq,cond_false,cond_true];exact T
  |false =>
   simp only[Ajn,cond_true,cond_false]
   rw[Ahy]at v
   simpa using v
def j_{N:Nat}{es:List (Nat×Nat)}{gone:List Int}{n m m2:Nat}{t o t2 o2:Bool}{K:Bool->O R}(v:m=es.length)(k:m2=gone.length)(A:es.length<=1000)(hlN:es.length<N)(hn:n<=1000)(hN:n*n+1000<N)(B:∀ e∈es,e.1<n/\e.2<n)(C:Oa gone.length N):
  Nd N (n:Int) (es.flatMap Bf) m t o (Ap gone) m2 t2 o2 K=K (decide ((Tx n (VV gone es 0):Int)>(Tx n es:Int))):=by
 subst v k
 rw[Ym];unfold Pm
 have:=j9 (R:=R) (N:=N) (es:=es) (gone:=gone) (n:=n) (t:=t) (o:=o) (t2:=t2) (o2:=o2) (K:=K) A hlN hn hN B C es.length 0 N [] (by omega) hlN (by simp) (by simp)
 simpa using this
def Cp{p:Hm}{ok:Bool}{w:Int×Int×Int}{e:{e:Int // e≠0}}(h:nd p ok w e=none):p=none/\ok=true:=by
 rcases p with _|x
 ·cases ok
  ·simp[nd]at h
  ·exact⟨rfl,rfl⟩
 ·simp[nd]at h
def Oc{α:Type}{f:Nat->α->Hm->Hm}(v:∀ j a x,f j a (some x)=some x):∀(l:List α)(j:Nat)(p:Hm),Ez f l j p=none->p=none/\∀ i (h:i<l.length),f (j+i) l[i] none=none
|[],j,p,h=>by rw[Ez]at h;exact⟨h,fun i hi=>by simp at hi⟩
| a::r,j,p,h=>by
  rw[Ez]at h
  obtain⟨k,A⟩:=Oc v r (j+1) _ h
  have B:p=none:=by
   rcases p with _|x
   ·rfl
   ·rw[v]at k;cases k
  subst B
  refine⟨rfl,fun i hi=>?_⟩
  cases i with
  |zero=>simpa using k
  |succ i=>have:=A i (by simpa using hi);rw[show j+1+i=j+(i+1) by omega]at this;simpa using this
def ZN{c:CaseD}(j:Nat)(x:BusD)(y:(Int×Int×Int)×{e:Int // e≠0}):Abw c j x (some y)=some y:=rfl
def RR{c:CaseD}(j:Nat)(x:LineD)(y:(Int×Int×Int)×{e:Int // e≠0}):mt c j x (some y)=some y:=rfl
def LL{c:CaseD}(j:Nat)(x:StoreD)(y:(Int×Int×Int)×{e:Int // e≠0}):j1 c j x (some y)=some y:=rfl
def ZO{c:CaseD}(j:Nat)(x:TieD)(y:(Int×Int×Int)×{e:Int // e≠0}):Abx c j x (some y)=some y:=rfl
def RS{c:CaseD}(j:Nat)(x:UnitD)(y:(Int×Int×Int)×{e:Int // e≠0}):s9 c j x (some y)=some y:=by
 show cond (x.state==2) _ _=_
 cases x.state==2<;>rfl
def Aab(c:CaseD):Hm :=
 let p:=uf c none
 let p:=Ez (Abw c) c.buses.l 0 p
 let p:=Ez (mt c) c.lines.l 0 p
 let p:=Ez (s9 c) c.units.l 0 p
 let p:=Ez (j1 c) c.stores.l 0 p
 let p:=Ez (Abx c) c.ties.l 0 p
 Ez (xy c) c.outs.l 0 p
noncomputable def Aac(c:CaseD)(h:Int)(o:OutD):Bool:=(Tx c.buses.l.length (((A1 c h).filter fun l=>!o.lines.l.contains l).map (Gk c)):Int)==(Tx c.buses.l.length ((A1 c h).map (Gk c)):Int)
noncomputable def Aad(c:CaseD)(h:Int)(j:Nat)(o:OutD)(p:Hm):Hm:=nd p (Aac c h o) (6,j,h) Ahh
noncomputable def RT(c:CaseD):Nat->Nat->Hm->Hm
|0,_,p=>p
|m+1,j,p=>RT c m (j+1) (Ez (Aad c j) c.outs.l 0 p)
def yA{c:CaseD}{h:Int}(j:Nat)(x:OutD)(y:(Int×Int×Int)×{e:Int // e≠0}):Aad c h j x (some y)=some y:=rfl
def dA{c:CaseD}{y:(Int×Int×Int)×{e:Int // e≠0}}:∀(m j:Nat),RT c m j (some y)=some y
|0,_=>rfl
|m+1,j=>by rw[RT,L0 (fun j a=>yA j a y)];exact dA m (j+1)
noncomputable def LM(c:CaseD):Hm:=match Aab c with
|some x=>some x
|none=>RT c c.hours.toNat 0 none
structure PreV(c:CaseD):Prop where
 hours:1<=c.hours/\c.hours<=24
 nb:c.buses.l.length<=32
 nl:c.lines.l.length<=64
 no:c.outs.l.length<=64
 line:∀ x∈c.lines.l,0<=x.fr/\x.fr.toNat<c.buses.l.length/\0<=x.tl/\x.tl.toNat<c.buses.l.length
 out:∀ x∈c.outs.l,x.lines.l.length<=2
def yB{c:CaseD}(h:Aab c=none):PreV c:=by
 unfold Aab at h
 obtain⟨I,o6⟩:=Oc (fun _ _ _=>ZL) _ _ _ h
 obtain⟨L,o5⟩:=Oc (fun j a x=>ZO j a x) _ _ _ I
 obtain⟨T,o4⟩:=Oc (fun j a x=>LL j a x) _ _ _ L
 obtain⟨V,o3⟩:=Oc (fun j a x=>RS j a x) _ _ _ T
 obtain⟨Y,o2⟩:=Oc (fun j a x=>RR j a x) _ _ _ V
 obtain⟨D,o1⟩:=Oc (fun j a x=>ZN j a x) _ _ _ Y
 unfold uf at D
 obtain⟨w7,e7⟩:=Cp D
 obtain⟨w6,_⟩:=Cp w7
 obtain⟨w5,_⟩:=Cp w6
 obtain⟨w4,_⟩:=Cp w5
 obtain⟨w3,A⟩:=Cp w4
 obtain⟨w2,k⟩:=Cp w3
 obtain⟨w1,_⟩:=Cp w2
 obtain⟨w0,_⟩:=Cp w1
 obtain⟨_,B⟩:=Cp w0
 unfold D7 at B k
 simp at B k A e7
 refine⟨B,by omega,by omega,by omega,fun x C=>?_,fun x C=>?_⟩
 ·obtain⟨i,hi,rfl⟩:=Ai0 C
  have:=o2 i hi
  unfold mt j0 at this
  obtain⟨a,_⟩:=Cp this
  obtain⟨a,_⟩:=Cp a
  obtain⟨a,_⟩:=Cp a
  obtain⟨a,_⟩:=Cp a
  obtain⟨a,_⟩:=Cp a
  obtain⟨a,_⟩:=Cp a
  obtain⟨a,_⟩:=Cp a
  obtain⟨a,_⟩:=Cp a
  obtain⟨a,G⟩:=Cp a
  obtain⟨_,v⟩:=Cp a
  unfold cT at G v
  simp at G v
  omega
 ·obtain⟨i,hi,rfl⟩:=Ai0 C
  have:=o6 i hi
  unfold xy uh at this
  obtain⟨a,_⟩:=Cp this
  obtain⟨a,_⟩:=Cp a
  obtain⟨a,_⟩:=Cp a
  obtain⟨a,_⟩:=Cp a
  obtain⟨a,_⟩:=Cp a
  obtain⟨a,_⟩:=Cp a
  obtain⟨a,_⟩:=Cp a
  obtain⟨_,v⟩:=Cp a
  simp at v
  omega
def PreV.lnV{c:CaseD}(v:PreV c){h:Int}{l:Int}(A:l∈A1 c h):∃ x,LnV c l x:=by
 have:=sa h c.lines.l 0 l A
 have B:0<=l:=by omega
 have k:l.toNat<c.lines.l.length:=by omega
 obtain⟨a,b,d,e⟩:=v.line _ (Ahu k)
 exact⟨c.lines.l[l.toNat],B,k,Ahk k,a,b,d,e⟩
def w3(p:Hm):LA:=match p with
|none=>[.int .i64 0,.int .i64 0,.int .i64 0]
|some ((a,b,f),_)=>[.int .i64 a,.int .i64 b,.int .i64 f]
def Aae{N:Nat}{c:CaseD}{p:Hm}{o:Bool}{j:Nat}{K:Int->LA->O R}{K2:LA->Int->O R}(hs:Small c N)(h:j<c.buses.l.length):
  Pn N K K2 o c.av (j:Int) (Cd p)=K ((j+1:Nat):Int) (Cd (Abw c j c.buses.l[j] p)):=by
 have hN:=hs.n64
 have hN8:8<=N:=by omega
 have v:=hs.bus
 have C:c.buses.l[j]∈c.buses.l:=Ahu h
 have D:=hs.dem _ C
 have A:=@C0 R N c (c.buses.l.map (·.name)) o (k:=1) (n:=j) (hN:=hN) (hL:=fun K=>s_ hs) (hn:=by simpa using h) (hs:=⟨by have:=v.1;omega,by have:=v.2;omega⟩)
 have B:(c.buses.l.map (·.name))[j]'(by simpa using h)=c.buses.l[j].name:=by simp
 rw[B]at A
 unfold Pn
 simp only[L5,En,ct,A,P4]
 rw[Ab h,ct,Ahm,A7 CF _ _ h]
 generalize c.buses.l[j]=b at *
 have G:∀(r:LA)(f:LA->Nat->O R),Bv 1 (drop 1 (b.av++r)) f=f (Ap b.demand.l) b.demand.l.length:=fun r f=>by simp[BusD.av,H4,Fk]
 have I:∀(r:LA)(f:Int->O R),Au .i64 (drop 2 (b.av++r)) f=f b.shed:=fun r f=>by simp[BusD.av,Av]
 rw[G,Dj rfl D,ct,I,C7 hN8,Ae (by decide),D6 (by have:=v.2;omega)]
 rfl
def pi{p:Hm}{K:LA->Int->O R}:(cond (ble 3 (List.length (Cd p))) (Au .i64 (drop 3 (Cd p)) fun x38=>cond ((beq (List.length (take 3 (Cd p))) 3)&&((ble 3 3)&&(!false))) (cond (ble 3 (List.length (setCells [.int .i64 (0:Int),.int .i64 (0:Int),.int .i64 (0:Int)] 0 (take 3 (Cd p))))) (K (take 3 (setCells [.int .i64 (0:Int),.int .i64 (0:Int),.int .i64 (0:Int)] 0 (take 3 (Cd p)))) x38) none) none) none)=K (w3 p) (Gi p):=by rcases p with _|⟨⟨a,b,f⟩,e,k⟩<;>simp[Cd,zw,w3,Gi,Dx,setCells,C8,Av]
def dB{N:Nat}{c:CaseD}{o:Bool}{K:LA->Int->O R}(hs:Small c N):∀(m j fuel:Nat)(p:Hm),j+m=c.buses.l.length->m<fuel ->
  G2 N K o c.av fuel (j:Int) (Cd p)=I9 N K o c.av N 0 (Cd (Ez (Abw c) (c.buses.l.drop j) j p))
|0,j,fuel+1,p,v,_=>by
  rw[G2];unfold Sp
  rw[P4,K4 (by omega),Gh (l:=c.buses.l) (by omega),Ez];rfl
| m+1,j,fuel+1,p,v,C=>by
  rw[G2];unfold Sp
  have h:j<c.buses.l.length:=by omega
  have k:=hs.bus
  rw[P4,Jy h,AA,Eh (l:=c.buses.l) h,Ez]
  rcases p with _|⟨x,e,A⟩
  ·simp only[Gi,beq_self_eq_true,cond_true]
   rw[Aae hs h,dB hs m (j+1) fuel _ (by omega) (by omega)]
  ·have B:(e==0)=false:=by simpa using A
   simp only[Gi,B,beq_self_eq_true,cond_true,cond_false]
   rw[ZN,L0 (fun _ _=>ZN _ _ _)]
def dC{N:Nat}{c:CaseD}{o:Bool}{K:LA->Int->O R}(hs:Small c N):∀(m j fuel:Nat)(p:Hm),j+m=c.lines.l.length->m<fuel ->
  I9 N K o c.av fuel (j:Int) (Cd p)=I8 N K o c.av N 0 (Cd (Ez (mt c) (c.lines.l.drop j) j p))
|0,j,fuel+1,p,v,_=>by
  rw[I9];unfold So
  rw[Nk,K4 (by omega),Gh (l:=c.lines.l) (by omega),Ez];rfl
| m+1,j,fuel+1,p,v,C=>by
  rw[I9];unfold So
  have h:j<c.lines.l.length:=by omega
  have k:=hs.lin
  rw[Nk,Jy h,AA,Eh (l:=c.lines.l) h,Ez]
  rcases p with _|⟨x,e,A⟩
  ·simp only[Gi,beq_self_eq_true,cond_true]
   rw[L5,ct,En,HU hs h,D6 (by have:=k.2;omega),dC hs m (j+1) fuel _ (by omega) (by omega)]
  ·have B:(e==0)=false:=by simpa using A
   simp only[Gi,B,beq_self_eq_true,cond_true,cond_false]
   rw[RR,L0 (fun _ _=>RR _ _ _)]
def dD{N:Nat}{c:CaseD}{o:Bool}{K:LA->Int->O R}(hs:Small c N):∀(m j fuel:Nat)(p:Hm),j+m=c.units.l.length->m<fuel ->
  I8 N K o c.av fuel (j:Int) (Cd p)=I7 N K o c.av N 0 (Cd (Ez (s9 c) (c.units.l.drop j) j p))
|0,j,fuel+1,p,v,_=>by
  rw[I8];unfold Sn
  rw[Xo,K4 (by omega),Gh (l:=c.units.l) (by omega),Ez];rfl
| m+1,j,fuel+1,p,v,C=>by
  rw[I8];unfold Sn
  have h:j<c.units.l.length:=by omega
  have k:=hs.uni
  rw[Xo,Jy h,AA,Eh (l:=c.units.l) h,Ez]
  rcases p with _|⟨x,e,A⟩
  ·simp only[Gi,beq_self_eq_true,cond_true]
   rw[L5,ct,En,HV hs h,D6 (by have:=k.2;omega),dD hs m (j+1) fuel _ (by omega) (by omega)]
  ·have B:(e==0)=false:=by simpa using A
   simp only[Gi,B,beq_self_eq_true,cond_true,cond_false]
   rw[RS,L0 (fun _ _=>RS _ _ _)]
def dE{N:Nat}{c:CaseD}{o:Bool}{K:LA->Int->O R}(hs:Small c N):∀(m j fuel:Nat)(p:Hm),j+m=c.stores.l.length->m<fuel ->
  I7 N K o c.av fuel (j:Int) (Cd p)=I6 N K o c.av N 0 (Cd (Ez (j1 c) (c.stores.l.drop j) j p))
|0,j,fuel+1,p,v,_=>by
  rw[I7];unfold Sm
  rw[Wc,K4 (by omega),Gh (l:=c.stores.l) (by omega),Ez];rfl
| m+1,j,fuel+1,p,v,C=>by
  rw[I7];unfold Sm
  have h:j<c.stores.l.length:=by omega
  have k:=hs.sto
  rw[Wc,Jy h,AA,Eh (l:=c.stores.l) h,Ez]
  rcases p with _|⟨x,e,A⟩
  ·simp only[Gi,beq_self_eq_true,cond_true]
   rw[L5,ct,En,FQ hs h,D6 (by have:=k.2;omega),dE hs m (j+1) fuel _ (by omega) (by omega)]
  ·have B:(e==0)=false:=by simpa using A
   simp only[Gi,B,beq_self_eq_true,cond_true,cond_false]
   rw[LL,L0 (fun _ _=>LL _ _ _)]
def dF{N:Nat}{c:CaseD}{o:Bool}{K:LA->Int->O R}(hs:Small c N):∀(m j fuel:Nat)(p:Hm),j+m=c.ties.l.length->m<fuel ->
  I6 N K o c.av fuel (j:Int) (Cd p)=I5 N K o c.av N 0 (Cd (Ez (Abx c) (c.ties.l.drop j) j p))
|0,j,fuel+1,p,v,_=>by
  rw[I6];unfold Sk
  rw[M_,K4 (by omega),Gh (l:=c.ties.l) (by omega),Ez];rfl
| m+1,j,fuel+1,p,v,C=>by
  rw[I6];unfold Sk
  have h:j<c.ties.l.length:=by omega
  have k:=hs.tie
  rw[M_,Jy h,AA,Eh (l:=c.ties.l) h,Ez]
  rcases p with _|⟨x,e,A⟩
  ·simp only[Gi,beq_self_eq_true,cond_true]
   rw[L5,ct,En,LI hs h,D6 (by have:=k.2;omega),dF hs m (j+1) fuel _ (by omega) (by omega)]
  ·have B:(e==0)=false:=by simpa using A
   simp only[Gi,B,beq_self_eq_true,cond_true,cond_false]
   rw[ZO,L0 (fun _ _=>ZO _ _ _)]
def dG{N:Nat}{c:CaseD}{o:Bool}{K:LA->Int->O R}(hs:Small c N):∀(m j fuel:Nat)(p:Hm),j+m=c.outs.l.length->m<fuel ->
  I5 N K o c.av fuel (j:Int) (Cd p)=C6 N K o c.av N 0 (Cd (Ez (xy c) (c.outs.l.drop j) j p))
|0,j,fuel+1,p,v,_=>by
  rw[I5];unfold Sj
  rw[Vy,K4 (by omega),Gh (l:=c.outs.l) (by omega),Ez];rfl
| m+1,j,fuel+1,p,v,C=>by
  rw[I5];unfold Sj
  have h:j<c.outs.l.length:=by omega
  have k:=hs.out
  rw[Vy,Jy h,AA,Eh (l:=c.outs.l) h,Ez]
  rcases p with _|⟨x,e,A⟩
  ·simp only[Gi,beq_self_eq_true,cond_true]
   rw[L5,ct,En,CJ hs h,D6 (by have:=k.2;omega),dG hs m (j+1) fuel _ (by omega) (by omega)]
  ·have B:(e==0)=false:=by simpa using A
   simp only[Gi,B,beq_self_eq_true,cond_true,cond_false]
   rw[ZL,L0 (fun _ _=>ZL)]
def Xq(ol:List Int):List Int->Nat->List Int
|[],_=>[]
|a::r,j=>cond (ol.contains a) ((j:Int)::Xq ol r (j+1)) (Xq ol r (j+1))
def sc(ol:List Int):∀(l:List Int)(j:Nat)(x:Int),x∈Xq ol l j->(j:Int)<=x
|[],_,_,h=>by simp[Xq]at h
| a::r,j,x,h=>by
  rw[Xq]at h
  have k:=sc ol r (j+1) x
  cases v:ol.contains a<;>rw[v]at h<;>simp at h
  ·have:=k h;omega
  ·rcases h with rfl|h
   ·omega
   ·have:=k h;omega
def ZP{f:Int->Nat×Nat}(ol:List Int):∀(l:List Int)(j:Nat)(pre:List Int),(∀ x∈pre,x<(j:Int))->VV (pre++Xq ol l j) (l.map f) j=((l.filter fun a=>!ol.contains a).map f)
|[],_,_,_=>rfl
| a::r,j,pre,B=>by
  rw[Ah9,VV,Xq,Akh]
  have v:¬ (j:Int)∈pre:=fun h=>by have:=B _ h;omega
  cases D:ol.contains a with
  | true =>
   have C:(pre++cond true ((j:Int)::Xq ol r (j+1)) (Xq ol r (j+1))).contains (j:Int)=true:=by simp
   rw[C]
   have:=ZP (f:=f) ol r (j+1) (pre++[(j:Int)]) (by
    intro x k
    rcases Ahz.1 k with A|A
    ·have:=B x A;omega
    ·simp at A;omega)
   simp only[cond_true,Akq,Ajr,if_false]
   rw[<-this];simp
  | false =>
   have C:(pre++cond false ((j:Int)::Xq ol r (j+1)) (Xq ol r (j+1))).contains (j:Int)=false:=by
    simp only[cond_false]
    rw[List.contains_eq_mem]
    simp only[decide_eq_false_iff_not,Ahz,not_or]
    exact⟨v,fun A=>by have:=sc ol r (j+1) _ A;omega⟩
   rw[C]
   have:=ZP (f:=f) ol r (j+1) pre (by intro x k;have:=B x k;omega)
   simp only[cond_false,Ajn,if_true,Ah9]
   rw[this]
def FS{N:Nat}{c:CaseD}{o:Bool}{hr:Int}{j:Nat}{p:Hm}{K7:Int->LA->O R}{K9:Int->Int->LA->O R}{K:LA->Int->O R}(hs:Small c N)(hN:4096<=N)(v:PreV c)(h:j<c.outs.l.length):∀(m q fuel:Nat)(A:List Int),q+m=(A1 c hr).length->m<fuel->A.length<=q ->
  A++Xq c.outs.l[j].lines.l ((A1 c hr).drop q) q=Xq c.outs.l[j].lines.l (A1 c hr) 0 ->
  Hg N K7 K9 K (A1 c hr).length (A1 c hr).length o c.av (((A1 c hr).map (Gk c)).flatMap Bf) (Ap (A1 c hr)) fuel hr (j:Int) A.length (q:Int) (Cd p) (Ap A)=K9 hr ((j+1:Nat):Int) (Cd (Aad c hr j c.outs.l[j] p))
| 0,q,fuel+1,A,hq,_,hA,k=>by
  rw[Hg];unfold Po
  have hal:=LJ hr c.lines.l 0
  have hnl:=v.nl
  have D:=v.nb
  have G:=hs.out
  have hnn:c.buses.l.length*c.buses.l.length<=32*32:=Ajh D D
  have I:(A1 c hr).length<=64:=by unfold A1;omega
  rw[Gh (l:=A1 c hr) (by omega),Xq,Aiy]at k
  have V:∀ e∈(A1 c hr).map (Gk c),e.1<c.buses.l.length/\e.2<c.buses.l.length:=by
   intro e V
   simp only[Aio]at V
   obtain⟨l,hl,rfl⟩:=V
   obtain⟨x,C⟩:=v.lnV hl
   rw[vu C];exact⟨C.f1,C.t1⟩
  rw[K4 (by omega),cf,P4,Ahi (by rw[M'];simp),Ah1,Ahi (by rw[G5];exact Ahl _),
   j_ (by simp) rfl (by simp;omega) (by simp;omega) (by omega) (by omega) V ⟨by omega,by omega⟩,Ae (by decide),D6 (by have:=G.2;omega)]
  have e1:VV A ((A1 c hr).map (Gk c)) 0=(((A1 c hr).filter fun a=>!c.outs.l[j].lines.l.contains a).map (Gk c)):=by
   rw[k]
   have:=ZP (f:=Gk c) c.outs.l[j].lines.l (A1 c hr) 0 [] (by simp)
   simpa using this
  rw[e1]
  have hmono:Tx c.buses.l.length ((A1 c hr).map (Gk c))<=Tx c.buses.l.length (((A1 c hr).filter fun a=>!c.outs.l[j].lines.l.contains a).map (Gk c)):=ui (by
   intro e L
   simp only[Aio,Ajp]at L ⊢
   obtain⟨l,⟨hl,_⟩,rfl⟩:=L
   exact⟨l,hl,rfl⟩)
  have e2:(!decide ((Tx c.buses.l.length (((A1 c hr).filter fun a=>!c.outs.l[j].lines.l.contains a).map (Gk c)):Int)>(Tx c.buses.l.length ((A1 c hr).map (Gk c)):Int)))=Aac c hr c.outs.l[j]:=by
   unfold Aac
   generalize Tx c.buses.l.length ((A1 c hr).map (Gk c))=x at *
   generalize Tx c.buses.l.length (((A1 c hr).filter fun a=>!c.outs.l[j].lines.l.contains a).map (Gk c))=y at *
   by_cases hxy:x=y
   ·subst hxy;simp
   ·have a1:((y:Int)==(x:Int))=false:=by simp;omega
    rw[a1];simp;omega
  rw[e2];rfl
| m+1,q,fuel+1,A,hq,hf,hA,k=>by
  rw[Hg];unfold Po
  have T:q<(A1 c hr).length:=by omega
  have hal:=LJ hr c.lines.l 0
  have hnl:=v.nl
  have I:(A1 c hr).length<=64:=by unfold A1;omega
  have hm:c.outs.l[j]∈c.outs.l:=Ahu h
  have hd:=hs.oli _ hm
  have b4:∀(f:LA->Nat->O R),Bv 1 (drop 1 (drop (j*4) (List.flatMap OutD.av c.outs.l))) f=f (Ap c.outs.l[j].lines.l) c.outs.l[j].lines.l.length:=fun f=>by rw[A7 Lz _ _ h];simp[OutD.av,H4,Fk]
  have b3:(ble (A.length+1) 140737488355328&&ble ((A.length+1)*8) 140737488355328)=true:=by rw[Dx,Dx];simp;omega
  have b5:take (A.length*1) (Ap A)++[.int .i64 (q:Int)]=Ap (A++[(q:Int)]):=pg (B:=[(q:Int)]) rfl
  rw[Jy T,ct,Vy,Ab h,ct,Ahm,b4,Ab T,ct,Aaa (by simpa using T),Ahm,FR T,FL rfl hd,b3,ct,b5,D6 (by omega)]
  rw[Eh T,Xq]at k
  cases C:c.outs.l[j].lines.l.contains (A1 c hr)[q]with
  |true =>
   rw[C]at k
   have Y:=FS (o:=o) (hr:=hr) (j:=j) (p:=p) (K7:=K7) (K9:=K9) (K:=K) hs hN v h m (q+1) fuel (A++[(q:Int)]) (by omega) (by omega) (by simp;omega) (by simpa using k)
   rw[Ahy]at Y
   simpa using Y
  |false =>
   rw[C]at k
   have Y:=FS (o:=o) (hr:=hr) (j:=j) (p:=p) (K7:=K7) (K9:=K9) (K:=K) hs hN v h m (q+1) fuel A (by omega) (by omega) (by omega) (by simpa using k)
   simpa using Y
def dH{N:Nat}{c:CaseD}{o:Bool}{hr:Int}{K7:Int->LA->O R}{K:LA->Int->O R}(hs:Small c N)(hN:4096<=N)(v:PreV c):∀(m j fuel:Nat)(p:Hm),j+m=c.outs.l.length->m<fuel ->
  G1 N K7 K (A1 c hr).length (A1 c hr).length o c.av (((A1 c hr).map (Gk c)).flatMap Bf) (Ap (A1 c hr)) fuel hr (j:Int) (Cd p)=K7 (wrap .i64 (hr+1)) (Cd (Ez (Aad c hr) (c.outs.l.drop j) j p))
|0,j,fuel+1,p,k,_=>by
  rw[G1];unfold Si
  rw[Vy,K4 (by omega),cf,Gh (l:=c.outs.l) (by omega),Ez]
|m+1,j,fuel+1,p,k,D=>by
  rw[G1];unfold Si
  have h:j<c.outs.l.length:=by omega
  have A:=LJ hr c.lines.l 0
  have B:=v.nl
  have C:=dH (o:=o) (hr:=hr) (K7:=K7) (K:=K) hs hN v m (j+1) fuel (Aad c hr j c.outs.l[j] p) (by omega) (by omega)
  have l10:=FS (R:=R) (N:=N) (c:=c) (o:=o) (hr:=hr) (j:=j) (p:=p) (K7:=K7) (K9:=G1 N K7 K (A1 c hr).length (A1 c hr).length o c.av (((A1 c hr).map (Gk c)).flatMap Bf) (Ap (A1 c hr)) fuel) (K:=K) hs hN v h (A1 c hr).length 0 N [] (by omega) (by unfold A1;omega) (by simp) (by simp)
  rw[Vy,Jy h,ct,Eh (l:=c.outs.l) h,Ez,<-C,<-l10]
  rfl
def dI{N H:Nat}{c:CaseD}{o:Bool}{K:LA->Int->O R}(hs:Small c N)(hN:4096<=N)(v:PreV c)(hH:c.hours=(H:Int)):∀(m j fuel:Nat)(p:Hm),j+m=H->m<fuel ->
  C6 N K o c.av fuel (j:Int) (Cd p)=K (w3 (RT c m j p)) (Gi (RT c m j p))
|0,j,fuel+1,p,k,_=>by
  rw[C6];unfold Nf
  rw[CE,hH,K4 (by omega),pi,RT];rfl
| m+1,j,fuel+1,p,k,D=>by
  rw[C6];unfold Nf Vg Zw
  have G:=v.hours
  rw[CE,hH,Jy (by omega),AA,pi]
  rcases p with _|⟨x,e,A⟩
  ·simp only[Gi,beq_self_eq_true,cond_true]
   have l9:=dH (R:=R) (N:=N) (c:=c) (o:=o) (hr:=(j:Int)) (K7:=C6 N K o c.av fuel) (K:=K) hs hN v c.outs.l.length 0 N none (by omega) hs.out.1
   rw[L5,ct,En,uk hs (fun l B=>v.lnV B)]
   simp only[Aid,Aj2]at l9
   rw[l9,D6 (by omega),dI hs hN v hH m (j+1) fuel _ (by omega) (by omega)];rfl
  ·have C:(e==0)=false:=by simpa using A
   simp only[Gi,C,beq_self_eq_true,cond_true,cond_false]
   rw[dA]
def sd{N:Nat}{c:CaseD}{o:Bool}{y:(Int×Int×Int)×{e:Int // e≠0}}{K:LA->Int->O R}{fuel:Nat}:C6 N K o c.av (fuel+1) 0 (Cd (some y))=K (w3 (some y)) (Gi (some y)):=by
 rw[C6];unfold Nf
 rw[CE,AA,pi]
 have k:(y.2.1==0)=false:=by simpa using y.2.2
 cases decide ((0:Int)<c.hours)<;>simp[Gi,k]
def ja{N:Nat}{c:CaseD}{o:Bool}{K:LA->Int->O R}(hs:Small c N)(hN:4096<=N):BI N c.av o K=K (w3 (LM c)) (Gi (LM c)):=by
 rw[OU];unfold EB
 have k:[.int .i64 (0:Int),.int .i64 (0:Int),.int .i64 (0:Int),.int .i64 (0:Int)]=Cd none:=rfl
 rw[L5,ct,En,k,FP hs]
 have l0:=fun p=>dB (R:=R) (N:=N) (c:=c) (o:=o) (K:=K) hs c.buses.l.length 0 N p (by omega) hs.bus.1
 have l2:=fun p=>dC (R:=R) (N:=N) (c:=c) (o:=o) (K:=K) hs c.lines.l.length 0 N p (by omega) hs.lin.1
 have l3:=fun p=>dD (R:=R) (N:=N) (c:=c) (o:=o) (K:=K) hs c.units.l.length 0 N p (by omega) hs.uni.1
 have l4:=fun p=>dE (R:=R) (N:=N) (c:=c) (o:=o) (K:=K) hs c.stores.l.length 0 N p (by omega) hs.sto.1
 have l5:=fun p=>dF (R:=R) (N:=N) (c:=c) (o:=o) (K:=K) hs c.ties.l.length 0 N p (by omega) hs.tie.1
 have l6:=fun p=>dG (R:=R) (N:=N) (c:=c) (o:=o) (K:=K) hs c.outs.l.length 0 N p (by omega) hs.out.1
 simp only[Aid,Aj2]at l0 l2 l3 l4 l5 l6
 try dsimp only
 rw[l0,l2,l3,l4,l5,l6]
 show C6 N K o c.av N 0 (Cd (Aab c))=_
 unfold LM
 cases A:Aab c with
|some y =>
  rcases N with _|N
  ·omega
  ·exact sd
|none =>
  have v:=yB A
  have B:=v.hours
  have:=dI (R:=R) (N:=N) (H:=c.hours.toNat) (c:=c) (o:=o) (K:=K) hs hN v (by omega) c.hours.toNat 0 N none (by omega) (by omega)
  simpa using this
def Ad0(p:Hm):(w3 p).length=3:=by rcases p with _|⟨⟨a,b,f⟩,e⟩<;>rfl
def Aaf(v n:Int)(C:1<=n)(D:n<=4611686018427387904):(wrap .u64 n==0)=false/\0<=wrap .i64 (Int.tmod (wrap .u64 v) (wrap .u64 n))/\wrap .i64 (Int.tmod (wrap .u64 v) (wrap .u64 n))<n:=by
 have hn:wrap .u64 n=n:=IntWalk.u64_in _ (by omega)
 have k:0<=wrap .u64 v:=by rw[IntKind.wrap_u64];omega
 rw[hn]
 have A:0<=Int.tmod (wrap .u64 v) n:=Int.tmod_nonneg _ k
 have B:Int.tmod (wrap .u64 v) n<n:=Amo _ (by omega)
 rw[Bi _ (by omega)]
 exact⟨by simp;omega,A,B⟩
def nx{N:Nat}{l:List Int}{t o:Bool}(L:l.length<=9223372036854775807)(n:Int)(C:1<=n)(D:n<=4611686018427387904)(k:Nat)(G:k<=l.length):
  ∃(v:Int)(A:Nat),0<=v/\v<n/\A<=l.length/\∀ K:Int->Int->O R,Af N n (Ap l) l.length t o (k:Int) K=K v (A:Int):=by
 by_cases h:k<l.length
 ·obtain⟨a1,a2,a3⟩:=Aaf l[k] n C D
  refine⟨_,k+1,a2,a3,by omega,fun K=>?_⟩
  rw[Q8];unfold R6
  have B:wrap .i64 ((k:Int)+1)=((k+1:Nat):Int):=by rw[Bi _ (by omega)];omega
  have I:wrap .i64 (wrap .i64 ((k:Int)+1) - 1)=(k:Int):=by rw[B,Bi _ (by omega)];omega
  rw[I,B,Ab h,ct,jY h,gP];unfold oV
  rw[a1,cf,show decide ((k:Int)>=(l.length:Int))=false by simp;omega,cf]
 ·refine⟨0,k,by omega,by omega,G,fun K=>?_⟩
  rw[Q8];unfold R6
  rw[show decide ((k:Int)>=(l.length:Int))=true by simp;omega,ct]
def jb{N m:Nat}{l:List Int}{t o:Bool}(I:l.length<=9223372036854775807)(n:Int)(L:1<=n)(T:n<=4611686018427387904)(Y:m<=1000):∀(r j fuel:Nat)(k:Nat)(A:List Int),j+r=m->r<fuel->k<=l.length->A.length=j ->
  ∃(B:List Int)(V:Nat),B.length=r/\(∀ x∈B,0<=x/\x<n)/\V<=l.length/\∀ K:Nat->Int->LA->O R,Ea N K (m:Int) n (Ap l) l.length t o fuel j (j:Int) (k:Int) (Ap A)=K m (V:Int) (Ap (A++B))
|0,j,fuel+1,k,A,hj,_,C,hA=>by
  refine⟨[],k,rfl,by simp,C,fun K=>?_⟩
  rw[Ea];unfold Kn
  have:j=m:=by omega
  subst this
  rw[K4 (Ahl _),cf,Aiy]
| r+1,j,fuel+1,k,A,hj,hf,C,hA=>by
  obtain⟨v,k1,v0,v1,D,hv⟩:=nx (R:=R) (N:=N) (t:=t) (o:=o) I n L T k C
  obtain⟨B,k2,b1,b2,b3,b4⟩:=jb I n L T Y r (j+1) fuel k1 (A++[v]) (by omega) (by omega) D (by simp[hA])
  refine⟨v::B,k2,by simp[b1],?_,b3,fun K=>?_⟩
  ·intro x G
   rcases Ah4.1 G with rfl|G
   ·exact⟨v0,v1⟩
   ·exact b2 x G
  ·rw[Ea];unfold Kn
   have c3:(ble (j+1) 140737488355328&&ble ((j+1)*8) 140737488355328)=true:=by rw[Dx,Dx];simp;omega
   have c5:take (j*1) (Ap A)++[.int .i64 v]=Ap (A++[v]):=pg (B:=[v]) hA.symm
   rw[Jy (by omega),ct,hv,c3,ct,c5,D6 (by omega),b4]
   simp
def Xr{N m:Nat}{l:List Int}{t o:Bool}(hN:1001<=N)(A:l.length<=9223372036854775807)(n:Int)(C:1<=n)(D:n<=4611686018427387904)(G:m<=1000)(k:Nat)(I:k<=l.length):
  ∃(B:List Int)(v:Nat),B.length=m/\(∀ x∈B,0<=x/\x<n)/\v<=l.length/\∀ K:Nat->Int->LA->O R,Ej N (m:Int) n (Ap l) l.length t o (k:Int) K=K m (v:Int) (Ap B):=by
 obtain⟨B,v,L,T,b3,V⟩:=jb (R:=R) (N:=N) (t:=t) (o:=o) A n C D G m 0 N k [] (by omega) (by omega) I rfl
 refine⟨B,v,L,T,b3,fun K=>?_⟩
 rw[Ye];unfold Pc
 simpa[Ap]using V K
def ZQ{N:Nat}{l:List Int}{t o:Bool}(D:l.length<=9223372036854775807)(H:Int)(Y:1<=H)(h2:H<=1000)(k:Nat)(hk:k<=l.length):
  ∃(B:List Int)(G:Nat),B.length<=1/\(∀ x∈B,0<=x/\x<H)/\G<=l.length/\∀ K:Nat->Int->LA->O R,Mk N H (Ap l) l.length t o (k:Int) K=K B.length (G:Int) (Ap B):=by
 obtain⟨v,I,v0,v1,A,L⟩:=nx (R:=R) (N:=N) (t:=t) (o:=o) D 6 (by omega) (by omega) k hk
 by_cases T:v=5
 ·obtain⟨u,k2,u0,u1,C,hu⟩:=nx (R:=R) (N:=N) (t:=t) (o:=o) D H Y (by omega) I A
  refine⟨[u],k2,by simp,by intro x V;simp at V;subst V;exact⟨u0,u1⟩,C,fun K=>?_⟩
  rw[Ra];unfold R7
  rw[L,hu,T];rfl
 ·refine⟨[],I,by simp,by simp,A,fun K=>?_⟩
  rw[Ra];unfold R7
  have:(v==5)=false:=by simpa using T
  rw[L,this];rfl
def Af3:Lu:=[48,49,50,51,52,53,54,55,56,57,97,98,99,100,101,102]
def Oy{N:Nat}{c:UInt8}{i:Nat}(hi:i<16){K:Lu->O R}:DP N [c] (i:Int) K=K [c,Af3.getD i 0]:=by
 rw[bD];unfold gQ
 have e1:Int.tmod (i:Int) 16=(i:Int):=Int.tmod_eq_of_lt (by omega) (by omega)
 rw[e1,D6 (by omega)]
 have c1:(decide ((0:Int)<=(i:Int))&&(decide ((i:Int)<=((i+1:Nat):Int))&&(decide (((i+1:Nat):Int)<=(16:Int))&&decide ((16:Int)<=(16:Int)))))=true:=by simp;omega
 rw[c1,ct]
 simp only[Ahm,Alp]
 have:take 1 (drop i ([48,49,50,51,52,53,54,55,56,57,97,98,99,100,101,102]:Lu))=[Af3.getD i 0]:=by
  rw[Eh (by simpa using hi)]
  simp[Af3,hi]
 rw[this];rfl
def Mv{a:Int}(h:-9223372036854775808<=a/\a<=9223372036854775807):wrap .i64 a=a:=Bi a h
def Gl{lo hi n:Int}(h:lo<=n/\n<=hi):D7 lo hi n=true:=by unfold D7;simp;omega
structure LineG(i:Nat)(fr tx H:Int)(x:LineD):Prop where
 name:x.name=[108,Af3.getD i 0]
 fr:x.fr=fr
 tx:x.tl=tx
 re:(Ob x.re&&decide (x.re.num>0))=true
 smin:(Ob x.smin&&decide (x.smin.num<=0))=true
 smax:(Ob x.smax&&decide (x.smax.num>=0))=true
 lim:D7 0 1048576 x.limit=true
 em:D7 x.limit 1048576 x.emer=true
 aw:x.away.l.length<=1
 awr:∀ y∈x.away.l,0<=y/\y<H
def mz{f:FracD}(h:1<=f.den/\f.den<=1048576/\-1048576<=f.num/\f.num<=1048576):Ob f=true:=by unfold Ob;rw[Gl (by omega),Gl (by omega)];rfl
def Rr{B:List Int}:take (B.length*1) (Ap B)=B.flatMap Xv:=by rw[Ah1,Ahi (by rw[G5];exact Ahl _),Fk]
def nA{N:Nat}{l:List Int}{t o:Bool}(A:l.length<=9223372036854775807){i:Nat}(hi:i<16)(fr tx:Int){H:Int}(hH:1<=H/\H<=24)(k:Nat)(hk:k<=l.length):
  ∃(x:LineD)(k':Nat),LineG i fr tx H x/\k'<=l.length/\∀ K:LA->Int->O R,Pd N (i:Int) fr tx H (Ap l) l.length t o (k:Int) K=K x.av (k':Int):=by
 obtain⟨y2,ky2,y20,y21,L,T⟩:=nx (R:=R) (N:=N) (t:=t) (o:=o) A 4 (by omega) (by omega) k hk
 obtain⟨y4,ky4,y40,y41,V,Y⟩:=nx (R:=R) (N:=N) (t:=t) (o:=o) A 2 (by omega) (by omega) ky2 L
 obtain⟨y6,ky6,y60,y61,hky6,hy6⟩:=nx (R:=R) (N:=N) (t:=t) (o:=o) A 40 (by omega) (by omega) ky4 V
 obtain⟨y8,ky8,y80,y81,hky8,hy8⟩:=nx (R:=R) (N:=N) (t:=t) (o:=o) A 20 (by omega) (by omega) ky6 hky6
 obtain⟨y10,ky10,y100,y101,v,C⟩:=nx (R:=R) (N:=N) (t:=t) (o:=o) A 5 (by omega) (by omega) ky8 hky8
 by_cases h4:y10=4
 ·have e4:(y10==4)=true:=by simpa using h4
  obtain⟨y12,ky12,y120,y121,D,hy12⟩:=nx (R:=R) (N:=N) (t:=t) (o:=o) A 4 (by omega) (by omega) ky10 v
  obtain⟨y14,ky14,y140,y141,G,hy14⟩:=nx (R:=R) (N:=N) (t:=t) (o:=o) A 2 (by omega) (by omega) ky12 D
  obtain⟨y16,ky16,y160,y161,I,hy16⟩:=nx (R:=R) (N:=N) (t:=t) (o:=o) A 4 (by omega) (by omega) ky14 G
  obtain⟨B,kB,b1,b2,hkB,hB⟩:=ZQ (R:=R) (N:=N) (t:=t) (o:=o) A H hH.1 (by omega) ky16 I
  refine⟨⟨[108,Af3.getD i 0],fr,tx,⟨1+y2,1+y4⟩,⟨0 - y12,1+y14⟩,⟨y16,1⟩,4+y6,4+y6+y8,.of B false false⟩,kB,⟨rfl,rfl,rfl,?_,?_,?_,Gl (by simp only;omega),Gl (by simp only;omega),b1,b2⟩,hkB,fun K=>?_⟩
  ·rw[mz (by simp only;omega)];simp;omega
  ·rw[mz (by simp only;omega)];simp;omega
  ·rw[mz (by simp only;omega)];simp;omega
  ·rw[Rb];unfold R8
   rw[Oy hi,T,Y,hy6,hy8,C,e4,ct,hy12,hy14,hy16,hB,Rr,Mv (a:=1+y2) (by omega),Mv (a:=1+y4) (by omega),Mv (a:=0 - y12) (by omega),Mv (a:=1+y14) (by omega),Mv (a:=4+y6) (by omega),Mv (a:=4+y6+y8) (by omega)]
   rfl
 ·have e4:(y10==4)=false:=by simpa using h4
  obtain⟨B,kB,b1,b2,hkB,hB⟩:=ZQ (R:=R) (N:=N) (t:=t) (o:=o) A H hH.1 (by omega) ky10 v
  refine⟨⟨[108,Af3.getD i 0],fr,tx,⟨1+y2,1+y4⟩,⟨0,1⟩,⟨0,1⟩,4+y6,4+y6+y8,.of B false false⟩,kB,⟨rfl,rfl,rfl,?_,?_,?_,Gl (by simp only;omega),Gl (by simp only;omega),b1,b2⟩,hkB,fun K=>?_⟩
  ·rw[mz (by simp only;omega)];simp;omega
  ·rw[mz (by simp only;omega)];simp
  ·rw[mz (by simp only;omega)];simp
  ·rw[Rb];unfold R8
   rw[Oy hi,T,Y,hy6,hy8,C,e4,cf,hB,Rr,Mv (a:=1+y2) (by omega),Mv (a:=1+y4) (by omega),Mv (a:=4+y6) (by omega),Mv (a:=4+y6+y8) (by omega)]
   rfl
structure UnitG(i:Nat)(nb H:Int)(u:UnitD):Prop where
 name:u.name=[117,Af3.getD i 0]
 bus:0<=u.bus/\u.bus<nb
 min:D7 0 1048576 u.min=true
 max:D7 u.min 1048576 u.max=true
 sl:1<=u.segs.l.length/\u.segs.l.length<=8
 sok:u.segs.l.all Dh=true
 sord:LH u.segs.l=true
 ssum:(FM 0 u.segs.l==wrap .i64 (u.max - u.min))=true
 noLoad:D7 0 1048576 u.noLoad=true
 rampUp:D7 0 1048576 u.rampUp=true
 rampDown:D7 0 1048576 u.rampDown=true
 startRamp:D7 u.min u.max u.startRamp=true
 stopRamp:D7 u.min u.max u.stopRamp=true
 upTime:D7 0 24 u.upTime=true
 downTime:D7 0 24 u.downTime=true
 startTime:D7 0 24 u.startTime=true
 hotCost:D7 0 1048576 u.hotCost=true
 coldCost:D7 0 1048576 u.coldCost=true
 hotHours:D7 0 24 u.hotHours=true
 reserve:D7 0 1048576 u.reserve=true
 reservePrice:D7 0 1048576 u.reservePrice=true
 aw:u.away.l.length<=1
 awr:∀ y∈u.away.l,0<=y/\y<H
 state:D7 0 2 u.state=true
 starting:(u.state != 1||u.startTime != 0)=true
 hours:D7 1 48 u.hours=true
 started:(u.state != 1||decide (u.hours<=u.startTime))=true
 output:cond (u.state==2) (D7 u.min u.max u.output) (D7 0 0 u.output)=true
def nB{s:SegD}:∀{S:List SegD},LH S=true->(∀ x∈S,x.price<=s.price)->LH (S++[s])=true
|[],_,_=>j2 s
|[a],_,h=>by
  rw[Ail,Ajy,FN,j2]
  have:=h a (by simp);simp;omega
|a::b::r,k,h=>by
  rw[FN]at k
  simp only[Aho]at k
  rw[Ail,Ail,FN,k.1]
  have:=nB (S:=b::r) k.2 (fun x A=>h x (by rcases Ah4.1 A with v|v<;>simp[v]))
  simpa using this
def nC{s:SegD}:∀{S:List SegD}{a:Int},FM a (S++[s])=wrap .i64 (FM a S+s.width)
|[],a=>rfl
|x::r,a=>by rw[Ail,FM,FM];exact nC
def Ab3(S:List SegD):(S.flatMap SegD.av).length=S.length*2:=by
 induction S with
|nil=>rfl
|cons e r k=>rw[Aie,Ahy,k,Xp];simp;omega
def ZR{S:List SegD}{n:Nat}(h:n=S.length):take (n*2) (S.flatMap SegD.av)=S.flatMap SegD.av:=Ahi (by rw[Ab3,h];exact Ahl _)
def nD{N:Nat}{l:List Int}{t o:Bool}(v:l.length<=9223372036854775807){i:Nat}{nb H bus mn noLoad:Int}(hb:0<=bus/\bus<nb)(hmn:0<=mn/\mn<8)(hno:0<=noLoad/\noLoad<20)(hH:1<=H/\H<=24):∀(n fuel:Nat)(p:Int)(k:Nat)(M:Int)(S:List SegD),n<fuel->k<=l.length->S.length+n<=2->1<=S.length+n->(∀ x∈S,x.price<=p/\Dh x=true)->LH S=true->FM 0 S=M - mn->0<=M - mn->M - mn<=15*S.length->-10<=p->p<=20+10*S.length ->
  ∃(u:UnitD)(k':Nat),UnitG i nb H u/\k'<=l.length/\∀ K:LA->Int->O R,D0 N K H (Ap l) l.length t o [117,Af3.getD i 0] bus mn noLoad fuel p (n:Int) (k:Int) M S.length (S.flatMap SegD.av)=K u.av (k':Int)
| 0,fuel+1,p,k,M,S,_,hk,hS,hS1,hp,ho,hw,hM0,hM1,_,_=>by
  obtain⟨y16,ky16,y160,y161,D,hy16⟩:=nx (R:=R) (N:=N) (t:=t) (o:=o) v 20 (by omega) (by omega) k hk
  obtain⟨y18,ky18,y180,y181,G,hy18⟩:=nx (R:=R) (N:=N) (t:=t) (o:=o) v 20 (by omega) (by omega) ky16 D
  obtain⟨y20,ky20,y200,y201,I,hy20⟩:=nx (R:=R) (N:=N) (t:=t) (o:=o) v (M - mn+1) (by omega) (by omega) ky18 G
  obtain⟨y22,ky22,y220,y221,L,hy22⟩:=nx (R:=R) (N:=N) (t:=t) (o:=o) v (M - mn+1) (by omega) (by omega) ky20 I
  obtain⟨y24,ky24,y240,y241,T,hy24⟩:=nx (R:=R) (N:=N) (t:=t) (o:=o) v 3 (by omega) (by omega) ky22 L
  obtain⟨y26,ky26,y260,y261,V,hy26⟩:=nx (R:=R) (N:=N) (t:=t) (o:=o) v 3 (by omega) (by omega) ky24 T
  obtain⟨y28,ky28,y280,y281,Y,hy28⟩:=nx (R:=R) (N:=N) (t:=t) (o:=o) v 2 (by omega) (by omega) ky26 V
  obtain⟨y30,ky30,y300,y301,hky30,hy30⟩:=nx (R:=R) (N:=N) (t:=t) (o:=o) v 30 (by omega) (by omega) ky28 Y
  obtain⟨y32,ky32,y320,y321,hky32,hy32⟩:=nx (R:=R) (N:=N) (t:=t) (o:=o) v 30 (by omega) (by omega) ky30 hky30
  obtain⟨y34,ky34,y340,y341,hky34,hy34⟩:=nx (R:=R) (N:=N) (t:=t) (o:=o) v 4 (by omega) (by omega) ky32 hky32
  obtain⟨y36,ky36,y360,y361,hky36,hy36⟩:=nx (R:=R) (N:=N) (t:=t) (o:=o) v 8 (by omega) (by omega) ky34 hky34
  obtain⟨y38,ky38,y380,y381,hky38,hy38⟩:=nx (R:=R) (N:=N) (t:=t) (o:=o) v 4 (by omega) (by omega) ky36 hky36
  obtain⟨B,kB,b1,b2,hkB,hB⟩:=ZQ (R:=R) (N:=N) (t:=t) (o:=o) v H hH.1 (by omega) ky38 hky38
  obtain⟨y43,ky43,y430,y431,hky43,hy43⟩:=nx (R:=R) (N:=N) (t:=t) (o:=o) v (2+y28) (by omega) (by omega) kB hkB
  obtain⟨y46,ky46,y460,y461,A,hy46⟩:=nx (R:=R) (N:=N) (t:=t) (o:=o) v 4 (by omega) (by omega) ky43 hky43
  have i43:Ah y43 3=true:=mw y430 (by omega)
  obtain⟨x45,hx45,hst⟩:∃ x45:Int,(∀ f:Int->O R,Au .i64 (drop (0+((Int.toNat y43)*1)) [.int .i64 (0:Int),.int .i64 (2:Int),.int .i64 (1:Int)]) f=f x45)/\(x45=0\/x45=2\/(x45=1/\y28=1)):=by
   have e:[.int .i64 (0:Int),.int .i64 (2:Int),.int .i64 (1:Int)]=Ap [0,2,1]:=rfl
   refine⟨([0,2,1]:List Int).getD y43.toNat 0,fun f=>by rw[e,Aaa (by simp;omega)],?_⟩
   have:y43=0\/y43=1\/y43=2:=by omega
   rcases this with rfl|rfl|rfl
   ·left;rfl
   ·right;left;rfl
   ·right;right;exact⟨rfl,by omega⟩
  have wM:wrap .i64 (wrap .i64 (M - mn)+1)=M - mn+1:=by rw[Mv (a:=M - mn) (by omega),Mv (by omega)]
  have head:∀ K:LA->Int->O R,D0 N K H (Ap l) l.length t o [117,Af3.getD i 0] bus mn noLoad (fuel+1) p ((0:Nat):Int) (k:Int) M S.length (S.flatMap SegD.av) =
    Jz N K (Ap l) l.length t o (ky46:Int) [117,Af3.getD i 0] bus mn M S.length noLoad y16 y18 y24 y26 y28 y30 y34 y36 y38 B.length x45 (S.flatMap SegD.av) (Ap B) (mn+y20) (mn+y22) (y30+y32) (cond (x45==1) 1 (1+y46)):=fun K=>by
   rw[D0];unfold Ml
   rw[show decide (((0:Nat):Int)>0)=false from rfl,cf,wM,hy16,hy18,hy20,hy22,hy24,hy26,hy28,hy30,hy32,hy34,hy36,hy38,hB,Mv (a:=2+y28) (by omega),hy43,i43,ct,hx45,hy46,Mv (a:=mn+y20) (by omega),Mv (a:=mn+y22) (by omega),Mv (a:=y30+y32) (by omega),Mv (a:=1+y46) (by omega)]
   cases x45==1<;>rfl
  have hhr:1<=(cond (x45==1) (1:Int) (1+y46))/\(cond (x45==1) (1:Int) (1+y46))<=4:=by cases x45==1<;>simp<;>omega
  have hst1:x45=1->cond (x45==1) (1:Int) (1+y46)=1:=by intro e;subst e;rfl
  have sall:S.all Dh=true:=by rw[Aku];exact fun x hx=>(hp x hx).2
  have ssum:(FM 0 S==wrap .i64 (M - mn))=true:=by rw[Mv (a:=M - mn) (by omega),hw];simp
  have starting:(x45 != 1||y28 != 0)=true:=by
   rcases hst with h|h|⟨h,h'⟩
   ·rw[h];rfl
   ·rw[h];rfl
   ·rw[h,h'];rfl
  have started:(x45 != 1||decide ((cond (x45==1) (1:Int) (1+y46))<=y28))=true:=by
   rcases hst with h|h|⟨h,h'⟩
   ·rw[h];rfl
   ·rw[h];rfl
   ·rw[h,h'];rfl
  have stR:D7 0 2 x45=true:=Gl (by omega)
  by_cases C:x45=2
  ·obtain⟨y48,ky48,y480,y481,hky48,hy48⟩:=nx (R:=R) (N:=N) (t:=t) (o:=o) v (M - mn+1) (by omega) (by omega) ky46 A
   refine⟨⟨[117,Af3.getD i 0],bus,mn,M,.of S false false,noLoad,y16,y18,mn+y20,mn+y22,y24,y26,y28,y30,y30+y32,y34,y36,y38,.of B false false,x45,cond (x45==1) 1 (1+y46),mn+y48⟩,ky48,
    ⟨rfl,hb,Gl (by simp only;omega),Gl (by simp only;omega),by simp only[Sl.l];omega,sall,ho,ssum,Gl (by simp only;omega),Gl (by simp only;omega),Gl (by simp only;omega),Gl (by simp only;omega),Gl (by simp only;omega),Gl (by simp only;omega),Gl (by simp only;omega),Gl (by simp only;omega),Gl (by simp only;omega),Gl (by simp only;omega),Gl (by simp only;omega),Gl (by simp only;omega),Gl (by simp only;omega),b1,b2,stR,starting,Gl (by simp only;omega),started,?_⟩,hky48,fun K=>?_⟩
   ·have:(x45==2)=true:=by simpa using C
    simp only[this,cond_true];exact Gl (by omega)
   ·rw[head];unfold Jz
    have:(x45==2)=true:=by simpa using C
    rw[this,ct,wM,hy48,Mv (a:=mn+y48) (by omega),ZR rfl,Rr]
    rfl
  ·refine⟨⟨[117,Af3.getD i 0],bus,mn,M,.of S false false,noLoad,y16,y18,mn+y20,mn+y22,y24,y26,y28,y30,y30+y32,y34,y36,y38,.of B false false,x45,cond (x45==1) 1 (1+y46),0⟩,ky46,
    ⟨rfl,hb,Gl (by simp only;omega),Gl (by simp only;omega),by simp only[Sl.l];omega,sall,ho,ssum,Gl (by simp only;omega),Gl (by simp only;omega),Gl (by simp only;omega),Gl (by simp only;omega),Gl (by simp only;omega),Gl (by simp only;omega),Gl (by simp only;omega),Gl (by simp only;omega),Gl (by simp only;omega),Gl (by simp only;omega),Gl (by simp only;omega),Gl (by simp only;omega),Gl (by simp only;omega),b1,b2,stR,starting,Gl (by simp only;omega),started,?_⟩,A,fun K=>?_⟩
   ·have:(x45==2)=false:=by simpa using C
    simp only[this,cond_false];exact Gl (by omega)
   ·rw[head];unfold Jz
    have:(x45==2)=false:=by simpa using C
    rw[this,cf,ZR rfl,Rr]
    rfl
| n+1,fuel+1,p,k,M,S,hf,hk,hS,hS1,hp,ho,hw,hM0,hM1,hp0,hp1=>by
  obtain⟨y12,ky12,y120,y121,hky12,hy12⟩:=nx (R:=R) (N:=N) (t:=t) (o:=o) v 15 (by omega) (by omega) k hk
  obtain⟨y14,ky14,y140,y141,hky14,hy14⟩:=nx (R:=R) (N:=N) (t:=t) (o:=o) v 10 (by omega) (by omega) ky12 hky12
  obtain⟨u,k',g1,g2,g3⟩:=nD (N:=N) (t:=t) (o:=o) (i:=i) (nb:=nb) (H:=H) (bus:=bus) (mn:=mn) (noLoad:=noLoad) v hb hmn hno hH n fuel (p+y14) ky14 (M+(1+y12)) (S++[(⟨1+y12,p⟩:SegD)]) (by omega) hky14 (by simp;omega) (by simp;omega) (by
   intro x hx
   rcases Ahz.1 hx with h|h
   ·have:=hp x h;exact⟨by omega,this.2⟩
   ·simp at h;subst h
    refine⟨by simp only;omega,?_⟩
    unfold Dh;rw[Gl (by simp only;omega),Gl (by simp only;omega)];rfl) (nB ho fun x hx=>(hp x hx).1) (by rw[nC,hw,Mv (by simp only;omega)];simp only;omega) (by omega) (by simp;omega) (by omega) (by simp;omega)
  refine⟨u,k',g1,g2,fun K=>?_⟩
  rw[D0];unfold Ml
  have c3:(ble (S.length+1) 140737488355328&&ble ((S.length+1)*16) 140737488355328)=true:=by rw[Dx,Dx];simp;omega
  have c5:take (S.length*2) (S.flatMap SegD.av)++[.int .i64 (1+y12),.int .i64 p]=(S++[(⟨1+y12,p⟩:SegD)]).flatMap SegD.av:=by rw[ZR rfl];simp[SegD.av]
  have wn:wrap .i64 (((n+1:Nat):Int) - 1)=(n:Int):=jZ (by omega)
  rw[show decide (((n+1:Nat):Int)>0)=true from decide_eq_true (by omega),ct,hy12,c3,ct,hy14,Mv (a:=1+y12) (by omega),Mv (a:=p+y14) (by omega),wn,Mv (a:=M+(1+y12)) (by omega),c5]
  have:=g3 K
  rw[Ahy]at this
  exact this
def yC{N:Nat}{l:List Int}{t o:Bool}(hN:8<=N)(A:l.length<=9223372036854775807){i:Nat}(hi:i<16){nb H:Int}(hnb:1<=nb/\nb<=1000)(hH:1<=H/\H<=24)(k:Nat)(hk:k<=l.length):
  ∃(u:UnitD)(L:Nat),UnitG i nb H u/\L<=l.length/\∀ K:LA->Int->O R,Pe N (i:Int) nb H (Ap l) l.length t o (k:Int) K=K u.av (L:Int):=by
 obtain⟨y2,ky2,y20,y21,B,T⟩:=nx (R:=R) (N:=N) (t:=t) (o:=o) A nb (by omega) (by omega) k hk
 obtain⟨y4,ky4,y40,y41,C,V⟩:=nx (R:=R) (N:=N) (t:=t) (o:=o) A 8 (by omega) (by omega) ky2 B
 obtain⟨y6,ky6,y60,y61,D,Y⟩:=nx (R:=R) (N:=N) (t:=t) (o:=o) A 20 (by omega) (by omega) ky4 C
 obtain⟨y8,ky8,y80,y81,G,hy8⟩:=nx (R:=R) (N:=N) (t:=t) (o:=o) A 20 (by omega) (by omega) ky6 D
 obtain⟨y10,ky10,y100,y101,v,I⟩:=nx (R:=R) (N:=N) (t:=t) (o:=o) A 2 (by omega) (by omega) ky8 G
 obtain⟨n,hn⟩:∃ n:Nat,1+y10=(n:Int):=⟨(1+y10).toNat,by omega⟩
 obtain⟨u,L,g1,g2,g3⟩:=nD (R:=R) (N:=N) (l:=l) (t:=t) (o:=o) A (i:=i) (nb:=nb) (H:=H) (bus:=y2) (mn:=y4) (noLoad:=y6) ⟨y20,y21⟩ ⟨y40,y41⟩ ⟨y60,y61⟩ hH n N (y8 - 2) ky10 y4 [] (by omega) v (by simp;omega) (by simp;omega) (by simp) s8 (by simp[FM]) (by omega) (by simp) (by omega) (by simp;omega)
 refine⟨u,L,g1,g2,fun K=>?_⟩
 rw[AZ];unfold R9
 rw[Oy hi,T,V,Y,hy8,I,Mv (a:=y8 - 2) (by omega),Mv (a:=1+y10) (by omega),hn]
 simpa using g3 K
structure OutG(i:Nat)(nl nu:Nat)(x:OutD):Prop where
 name:x.name=[111,Af3.getD i 0]
 ll:x.lines.l.length=1\/x.lines.l.length=2
 lr:∀ y∈x.lines.l,0<=y/\y<(nl:Int)
 la:asc x.lines.l=true
 ml:x.moves.l.length<=nu
 mc:((x.moves.l.length:Int)==0||x.corr)=true
 mr:∀ m∈x.moves.l,0<=m.unit/\m.unit<(nu:Int)
 ma:asc (x.moves.l.map (·.unit))=true
 mi:x.moves.l.all xx=true
def se{s:Int}:∀{S:List Int},asc S=true->(∀ x∈S,x<s)->asc (S++[s])=true
|[],_,_=>VP s
|[a],_,h=>by
  rw[Ail,Ajy,CD,VP]
  have:=h a (by simp);simp;omega
|a::b::r,k,h=>by
  rw[CD]at k
  simp only[Aho]at k
  rw[Ail,Ail,CD,k.1]
  have:=se (S:=b::r) k.2 (fun x A=>h x (by rcases Ah4.1 A with v|v<;>simp[v]))
  simpa using this
def Aag(S:List MoveD):(S.flatMap MoveD.av).length=S.length*3:=by
 induction S with
|nil=>rfl
|cons e r k=>rw[Aie,Ahy,k,Mu];simp;omega
def ZS{N:Nat}{l:List Int}{t o:Bool}(L:l.length<=9223372036854775807){i nl nu:Nat}(T:nu<=16){B:List Int}(hB1:B.length=1\/B.length=2)(hB2:∀ y∈B,0<=y/\y<(nl:Int))(hB3:asc B=true):∀(m j fuel:Nat)(k:Nat)(S:List MoveD),j+m=nu->m<fuel->k<=l.length->S.length<=j->(∀ x∈S,0<=x.unit/\x.unit<(j:Int))->asc (S.map (·.unit))=true->S.all xx=true ->
  ∃(x:OutD)(G:Nat),OutG i nl nu x/\G<=l.length/\∀ K:LA->Int->O R,Dq N K (nu:Int) (Ap l) l.length t o [111,Af3.getD i 0] B.length (Ap B) fuel (j:Int) (k:Int) S.length (S.flatMap MoveD.av)=K x.av (G:Int)
|0,j,fuel+1,k,S,hj,_,hk,hS,hr,ha,hi=>by
  have hju:j=nu:=by omega
  subst hju
  refine⟨⟨[111,Af3.getD i 0],.of B false false,true,.of S false false⟩,k,⟨rfl,hB1,hB2,hB3,hS,by simp,hr,ha,hi⟩,hk,fun K=>?_⟩
  rw[Dq];unfold Fv
  rw[K4 (Ahl _),cf,Rr,Ahi (by rw[Aag];exact Ahl _)]
  rfl
| m+1,j,fuel+1,k,S,hj,hf,hk,hS,hr,ha,hi=>by
  obtain⟨y10,ky10,y100,y101,v,A⟩:=nx (R:=R) (N:=N) (t:=t) (o:=o) L 2 (by omega) (by omega) k hk
  by_cases h1:y10=1
  ·obtain⟨y12,ky12,y120,y121,C,V⟩:=nx (R:=R) (N:=N) (t:=t) (o:=o) L 8 (by omega) (by omega) ky10 v
   obtain⟨y14,ky14,y140,y141,D,Y⟩:=nx (R:=R) (N:=N) (t:=t) (o:=o) L 8 (by omega) (by omega) ky12 C
   obtain⟨x,G,g1,g2,g3⟩:=ZS (N:=N) (t:=t) (o:=o) (i:=i) (nl:=nl) (nu:=nu) L T hB1 hB2 hB3 m (j+1) fuel ky14 (S++[(⟨j,y12,y14⟩:MoveD)]) (by omega) (by omega) D (by simp;omega) (by
    intro x I
    rcases Ahz.1 I with h|h
    ·have:=hr x h;omega
    ·simp at h;subst h;simp only;omega) (by
    rw[Ajk];exact se ha (by
     intro x I
     simp only[Aio]at I
     obtain⟨y,hy,rfl⟩:=I
     exact(hr y hy).2)) (by
    rw[List.all_append,hi]
    simp only[Aji,Ak8,Akg,Al6]
    unfold xx;rw[Gl (by simp only;omega),Gl (by simp only;omega)];rfl)
   refine⟨x,G,g1,g2,fun K=>?_⟩
   rw[Dq];unfold Fv
   have e1:(y10==1)=true:=by simpa using h1
   have c3:(ble (S.length+1) 140737488355328&&ble ((S.length+1)*24) 140737488355328)=true:=by rw[Dx,Dx];simp;omega
   have c5:take (S.length*3) (S.flatMap MoveD.av)++[.int .i64 (j:Int),.int .i64 y12,.int .i64 y14]=(S++[(⟨j,y12,y14⟩:MoveD)]).flatMap MoveD.av:=by
    rw[Ahi (by rw[Aag];exact Ahl _)];simp[MoveD.av]
   rw[Jy (by omega),ct,A,e1,ct,V,Y,c3,ct,c5,D6 (by omega)]
   have:=g3 K
   rw[Ahy]at this
   exact this
  ·obtain⟨x,G,g1,g2,g3⟩:=ZS (N:=N) (t:=t) (o:=o) (i:=i) (nl:=nl) (nu:=nu) L T hB1 hB2 hB3 m (j+1) fuel ky10 S (by omega) (by omega) v (by omega) (by intro x I;have:=hr x I;omega) ha hi
   refine⟨x,G,g1,g2,fun K=>?_⟩
   rw[Dq];unfold Fv
   have e1:(y10==1)=false:=by simpa using h1
   rw[Jy (by omega),ct,A,e1,cf,D6 (by omega),g3]
def nE{N:Nat}{l:List Int}{t o:Bool}(hN:64<=N)(G:l.length<=9223372036854775807){i nl nu:Nat}(D:nu<=16){B:List Int}(hB1:B.length=1\/B.length=2)(hB2:∀ y∈B,0<=y/\y<(nl:Int))(hB3:asc B=true)(k:Nat)(L:k<=l.length):
  ∃(x:OutD)(C:Nat),OutG i nl nu x/\C<=l.length/\∀ K:LA->Int->O R,Dr N K (nu:Int) (Ap l) l.length t o [111,Af3.getD i 0] (k:Int) B.length (Ap B)=K x.av (C:Int):=by
 obtain⟨y8,ky8,y80,y81,v,A⟩:=nx (R:=R) (N:=N) (t:=t) (o:=o) G 2 (by omega) (by omega) k L
 by_cases I:y8=1
 ·obtain⟨x,C,T,V,Y⟩:=ZS (R:=R) (N:=N) (t:=t) (o:=o) (i:=i) (nl:=nl) (nu:=nu) G D hB1 hB2 hB3 nu 0 N ky8 [] (by omega) (by omega) v (by simp) (by simp) pc rfl
  refine⟨x,C,T,V,fun K=>?_⟩
  unfold Dr Ip
  have e1:(y8==1)=true:=by simpa using I
  rw[A,e1,ct]
  simpa using Y K
 ·refine⟨⟨[111,Af3.getD i 0],.of B false false,false,.of [] false false⟩,ky8,⟨rfl,hB1,hB2,hB3,by simp[Sl.l],by simp[Sl.l],by simp[Sl.l],pc,rfl⟩,v,fun K=>?_⟩
  unfold Dr Ip
  have e1:(y8==1)=false:=by simpa using I
  rw[A,e1,cf,Rr]
  rfl
def sf{N:Nat}{l:List Int}{t o:Bool}(hN:64<=N)(I:l.length<=9223372036854775807){i nl nu:Nat}(hi:i<16)(hnl:1<=nl/\nl<=1000)(L:nu<=16)(k:Nat)(hk:k<=l.length):
  ∃(x:OutD)(v:Nat),OutG i nl nu x/\v<=l.length/\∀ K:LA->Int->O R,Le N (i:Int) (nl:Int) (nu:Int) (Ap l) l.length t o (k:Int) K=K x.av (v:Int):=by
 obtain⟨y2,ky2,y20,y21,T,D⟩:=nx (R:=R) (N:=N) (t:=t) (o:=o) I (nl:Int) (by omega) (by omega) k hk
 obtain⟨y4,ky4,y40,y41,A,G⟩:=nx (R:=R) (N:=N) (t:=t) (o:=o) I (nl:Int) (by omega) (by omega) ky2 T
 have one:∀ k0,k0<=l.length->∃(x:OutD)(v:Nat),OutG i nl nu x/\v<=l.length/\∀ K:LA->Int->O R,Dr N K (nu:Int) (Ap l) l.length t o [111,Af3.getD i 0] (k0:Int) 1 [.int .i64 y2]=K x.av (v:Int):=fun k0 hk0 =>
  nE (i:=i) (nl:=nl) hN I L (B:=[y2]) (.inl rfl) (by intro y V;simp at V;subst V;exact⟨y20,y21⟩) (VP _) k0 hk0
 by_cases h1:y4>y2
 ·obtain⟨y6,ky6,y60,y61,C,Y⟩:=nx (R:=R) (N:=N) (t:=t) (o:=o) I 3 (by omega) (by omega) ky4 A
  by_cases h2:y6=2
  ·obtain⟨x,v,g1,g2,g3⟩:=nE (R:=R) (N:=N) (t:=t) (o:=o) (i:=i) (nl:=nl) (nu:=nu) hN I L (B:=[y2,y4]) (.inr rfl) (by intro y V;simp at V;rcases V with rfl|rfl<;>omega) (by rw[CD,VP];simp;omega) ky6 C
   refine⟨x,v,g1,g2,fun K=>?_⟩
   rw[Iq];unfold Gq
   have e1:decide (y4>y2)=true:=by simpa using h1
   have e2:(y6==2)=true:=by simpa using h2
   rw[Oy hi,D,G,e1,Y,e2]
   simpa[Ap]using g3 K
  ·obtain⟨x,v,g1,g2,g3⟩:=one ky6 C
   refine⟨x,v,g1,g2,fun K=>?_⟩
   rw[Iq];unfold Gq
   have e1:decide (y4>y2)=true:=by simpa using h1
   have e2:(y6==2)=false:=by simpa using h2
   rw[Oy hi,D,G,e1,Y,e2]
   exact g3 K
 ·obtain⟨x,v,g1,g2,g3⟩:=one ky4 A
  refine⟨x,v,g1,g2,fun K=>?_⟩
  rw[Iq];unfold Gq
  have e1:decide (y4>y2)=false:=by simpa using h1
  rw[Oy hi,D,G,e1]
  exact g3 K
def lE(f:Bool)(H:Nat)(res:List Int)(bs:List BusD)(ls:List LineD)(us:List UnitD)(ss:List StoreD)(ts:List TieD)(os:List OutD):CaseD:=⟨(H:Int),.of res false f,.of bs false f,.of ls false f,.of us false f,.of ss false f,.of ts false f,.of os false f⟩
structure BusG(i H:Nat)(b:BusD):Prop where
 name:b.name=[98,Af3.getD i 0]
 dl:b.demand.l.length=H
 dr:∀ x∈b.demand.l,0<=x/\x<14
 shed:0<=b.shed/\b.shed<300
structure StoreG(nb:Nat)(x:StoreD):Prop where
 name:x.name=[115,48]
 bus:0<=x.bus/\x.bus<(nb:Int)
 cap:0<=x.capacity/\x.capacity<20
 ini:0<=x.initial/\x.initial<=x.capacity
 fin:0<=x.final/\x.final<=x.capacity
 ch:0<=x.charge/\x.charge<8
 dis:0<=x.discharge/\x.discharge<8
 eff:1<=x.eff.num/\x.eff.num<=4/\x.eff.den=4
structure TieG(nb H:Nat)(x:TieD):Prop where
 name:x.name=[116,48]
 bus:0<=x.bus/\x.bus<(nb:Int)
 il:x.imp.l.length=H
 ir:∀ y∈x.imp.l,0<=y/\y<12
 el:x.exp.l.length=H
 er:∀ y∈x.exp.l,0<=y/\y<12
 pl:x.price.l.length=H
 pr:∀ y∈x.price.l,0<=y/\y<40
structure LineH(nb:Nat)(i:Nat)(H:Int)(x:LineD):Prop where
 g:LineG i x.fr x.tl H x
 fr:0<=x.fr/\x.fr<(nb:Int)
 tx:0<=x.tl/\x.tl<(nb:Int)
 ne:x.fr≠x.tl
structure BaseG(H:Nat)(res:List Int)(bs:List BusD)(ls:List LineD)(us:List UnitD)(ss:List StoreD)(ts:List TieD):Prop where
 h:1<=H/\H<=3
 rl:res.length=H
 rr:∀ x∈res,0<=x/\x<5
 bl:1<=bs.length/\bs.length<=4
 bg:∀ i (h:i<bs.length),BusG i H bs[i]
 ll:ls.length<=7
 lg:∀ i (h:i<ls.length),LineH bs.length i H ls[i]
 ul:1<=us.length/\us.length<=3
 ug:∀ i (h:i<us.length),UnitG i bs.length H us[i]
 sl:ss.length<=1
 sg:∀ x∈ss,StoreG bs.length x
 tl:ts.length<=1
 tg:∀ x∈ts,TieG bs.length H x
structure OutsG(nl nu:Nat)(os:List OutD):Prop where
 l:os.length<=3
 g:∀ i (h:i<os.length),OutG i nl nu os[i]
def yD{N:Nat}(hN:4096<=N){f:Bool}{H:Nat}{res:List Int}{bs:List BusD}{ls:List LineD}{us:List UnitD}{ss:List StoreD}{ts:List TieD}{os:List OutD}(b:BaseG H res bs ls us ss ts)(g:OutsG ls.length us.length os):Small (lE f H res bs ls us ss ts os) N:=by
 have h:=b.h;have rl:=b.rl;have bl:=b.bl;have ll:=b.ll;have ul:=b.ul;have sl:=b.sl;have tl:=b.tl;have ol:=g.l
 have fit:∀ n:Nat,n<=100->Oa n N:=fun n hn=>⟨by omega,by omega⟩
 refine⟨by omega,fit _ (by simp only[lE,Sl.l];omega),fit _ (by simp only[lE,Sl.l];omega),fit _ (by simp only[lE,Sl.l];omega),fit _ (by simp only[lE,Sl.l];omega),fit _ (by simp only[lE,Sl.l];omega),fit _ (by simp only[lE,Sl.l];omega),fit _ (by simp only[lE,Sl.l];omega),
  fun x k=>?_,fun x k=>?_,fun x k=>?_,fun x k=>?_,fun x k=>?_,fun x k=>?_,fun x k=>?_,fun x k=>?_,fun x k=>?_,fun x k=>?_,by simp only[lE,Sl.l];omega⟩
 all_goals simp only[lE,Sl.l]at k
 ·obtain⟨i,hi,rfl⟩:=Ai0 k;have:=(b.bg i hi).dl;exact fit _ (by omega)
 ·obtain⟨i,hi,rfl⟩:=Ai0 k;have:=(b.lg i hi).g.aw;exact fit _ (by omega)
 ·obtain⟨i,hi,rfl⟩:=Ai0 k;have:=(b.ug i hi).sl;exact fit _ (by omega)
 ·obtain⟨i,hi,rfl⟩:=Ai0 k;have:=(b.ug i hi).aw;exact fit _ (by omega)
 ·have:=(b.tg x k).il;exact fit _ (by omega)
 ·have:=(b.tg x k).el;exact fit _ (by omega)
 ·have:=(b.tg x k).pl;exact fit _ (by omega)
 ·obtain⟨i,hi,rfl⟩:=Ai0 k;have:=(g.g i hi).ll;exact fit _ (by omega)
 ·obtain⟨i,hi,rfl⟩:=Ai0 k;have:=(g.g i hi).ml;exact fit _ (by omega)
 ·obtain⟨i,hi,rfl⟩:=Ai0 k;have:=(g.g i hi).ml;omega
def Aah{α:Type}{e:α->LA}{sz:Nat}(k:∀ a,(e a).length=sz)(l:List α):(l.flatMap e).length=l.length*sz:=by
 induction l with
|nil=>simp
|cons a r v=>rw[Aie,Ahy,v,k,Ah8,Ahv];omega
def Bp{α:Type}{e:α->LA}{sz n:Nat}(k:∀ a,(e a).length=sz)(l:List α)(hn:n=l.length):take (n*sz) (l.flatMap e)=l.flatMap e:=Ahi (by rw[Aah k,hn];exact Ahl _)
def L6{B:List Int}{n:Nat}(h:n=B.length):take (n*1) (Ap B)=B.flatMap Xv:=by rw[h];exact Rr
def LN{α:Type}{P:Nat->α->Prop}{l:List α}{x:α}(h:∀ i (h:i<l.length),P i l[i])(v:P l.length x):∀ i (h:i<(l++[x]).length),P i (l++[x])[i]:=by
 intro i hi
 by_cases k:i<l.length
 ·rw[Aif k];exact h i k
 ·have:i=l.length:=by simp at hi;omega
  subst this
  simpa using v
def uo{p:Hm}(h:(Gi p==0)=true):p=none:=by
 rcases p with _|⟨x,e,k⟩
 ·rfl
 ·simp[Gi]at h;exact absurd h k
def pj{N:Nat}{l:List Int}{o:Bool}(hN:4096<=N)(D:l.length<=9223372036854775807){H:Nat}{res:List Int}{bs:List BusD}{ls:List LineD}{us:List UnitD}{ss:List StoreD}{ts:List TieD}(b:BaseG H res bs ls us ss ts):∀(n fuel k:Nat)(os:List OutD),n<fuel->k<=l.length->os.length+n<=3->OutsG ls.length us.length os->(os=[]\/LM (lE true H res bs ls us ss ts os)=none) ->
  ∃ v,OutsG ls.length us.length v/\(v=[]\/LM (lE true H res bs ls us ss ts v)=none)/\∀ K:LA->O R,F0 N K (Ap l) l.length o (H:Int) res.length bs.length ls.length us.length ss.length ts.length (Ap res) (bs.flatMap BusD.av) (ls.flatMap LineD.av) (us.flatMap UnitD.av) (ss.flatMap StoreD.av) (ts.flatMap TieD.av) fuel (n:Int) (k:Int) os.length (os.flatMap OutD.av)=K (lE false H res bs ls us ss ts v).av
|0,fuel+1,k,os,_,G,_,g,B=>by
  refine⟨os,g,B,fun K=>?_⟩
  rw[F0];unfold Ti
  rw[show decide (((0:Nat):Int)>0)=false from rfl,L6 rfl,Bp CF _ rfl,Bp Fo _ rfl,Bp Mt _ rfl,Bp Ly _ rfl,Bp Tt _ rfl,Bp Lz _ rfl]
  rfl
| n+1,fuel+1,k,os,hf,G,hn,g,B=>by
  by_cases I:ls.length=0
  ·refine⟨os,g,B,fun K=>?_⟩
   rw[F0];unfold Ti
   rw[show decide ((ls.length:Int)>0)=false from decide_eq_false (by omega),show decide (((n+1:Nat):Int)>0)=true from decide_eq_true (by omega),L6 rfl,Bp CF _ rfl,Bp Fo _ rfl,Bp Mt _ rfl,Bp Ly _ rfl,Bp Tt _ rfl,Bp Lz _ rfl]
   rfl
  ·have L:=b.ul;have T:=b.ll
   obtain⟨x,C,gx,A,V⟩:=sf (R:=R) (N:=N) (t:=false) (o:=o) (by omega) D (i:=os.length) (nl:=ls.length) (nu:=us.length) (by omega) (by omega) (by omega) k G
   have g':OutsG ls.length us.length (os++[x]):=⟨by simp;omega,LN g.g gx⟩
   have sm:=yD (f:=true) hN b g'
   have wn:wrap .i64 (((n+1:Nat):Int) - 1)=(n:Int):=jZ (by omega)
   have step:∀ K:LA->O R,F0 N K (Ap l) l.length o (H:Int) res.length bs.length ls.length us.length ss.length ts.length (Ap res) (bs.flatMap BusD.av) (ls.flatMap LineD.av) (us.flatMap UnitD.av) (ss.flatMap StoreD.av) (ts.flatMap TieD.av) (fuel+1) ((n+1:Nat):Int) (k:Int) os.length (os.flatMap OutD.av) =
     cond (Gi (LM (lE true H res bs ls us ss ts (os++[x])))==0)
      (F0 N K (Ap l) l.length o (H:Int) res.length bs.length ls.length us.length ss.length ts.length (Ap res) (bs.flatMap BusD.av) (ls.flatMap LineD.av) (us.flatMap UnitD.av) (ss.flatMap StoreD.av) (ts.flatMap TieD.av) fuel (n:Int) (C:Int) (os++[x]).length ((os++[x]).flatMap OutD.av))
      (F0 N K (Ap l) l.length o (H:Int) res.length bs.length ls.length us.length ss.length ts.length (Ap res) (bs.flatMap BusD.av) (ls.flatMap LineD.av) (us.flatMap UnitD.av) (ss.flatMap StoreD.av) (ts.flatMap TieD.av) fuel (n:Int) (C:Int) os.length (os.flatMap OutD.av)):=fun K=>by
    rw[F0];unfold Ti EE
    have c1:(ble (0+os.length) 140737488355328&&ble ((0+os.length)*72) 140737488355328)=true:=by rw[Dx,Dx];simp;omega
    have Y:(ble ((0+os.length)+1) 140737488355328&&ble (((0+os.length)+1)*72) 140737488355328)=true:=by rw[Dx,Dx];simp;omega
    have c3:take ((0+os.length)*4) (take (os.length*4) (os.flatMap OutD.av))++take 4 (setCells [.str ([]:Lu),.nsl,.bool false,.nsl] 0 (take 4 x.av))=(os++[x]).flatMap OutD.av:=by
     rw[Ah0,Bp Lz _ rfl,Bp Lz _ rfl]
     simp only[Ame,Aie,List.flatMap_nil,Aiy]
     rfl
    have c4:take (((0+os.length)+1)*4) ((os++[x]).flatMap OutD.av)=(os++[x]).flatMap OutD.av:=Bp Lz _ (by simp)
    have c5:(0+os.length)+1=(os++[x]).length:=by simp
    rw[show decide ((ls.length:Int)>0)=true from decide_eq_true (by omega),show decide (((n+1:Nat):Int)>0)=true from decide_eq_true (by omega)]
    simp only[beq_self_eq_true,cond_true]
    rw[V,show((beq 0 0)&&((beq (List.length x.av) 4)&&(beq 4 4)))=true from rfl,ct,c1,ct,show ble 4 (List.length x.av)=true from rfl,ct,show((beq (List.length (take 4 x.av)) 4)&&(ble 4 4))=true from rfl,ct,Y,ct,c3,c4,c5,L6 rfl,Bp CF _ rfl,Bp Fo _ rfl,Bp Mt _ rfl,Bp Ly _ rfl,Bp Tt _ rfl]
    refine Eq.trans (ja (R:=R) (N:=N) (c:=lE true H res bs ls us ss ts (os++[x])) (o:=true) sm hN) ?_
    rw[Ad0,show((beq 3 3)&&((ble 3 3)&&(!false)))=true from rfl,ct,wn]
   cases hq:Gi (LM (lE true H res bs ls us ss ts (os++[x])))==0 with
   |true =>
    obtain⟨v,a1,a2,a3⟩:=pj hN D b n fuel C (os++[x]) (by omega) A (by simp;omega) g' (.inr (uo hq))
    exact⟨v,a1,a2,fun K=>by rw[step,hq,ct,a3]⟩
   |false =>
    obtain⟨v,a1,a2,a3⟩:=pj hN D b n fuel C os (by omega) A (by omega) g B
    exact⟨v,a1,a2,fun K=>by rw[step,hq,cf,a3]⟩
def VW(c:CaseD):Prop:=∃(H:Nat)(res:List Int)(bs:List BusD)(ls:List LineD)(us:List UnitD)(ss:List StoreD)(ts:List TieD)(os:List OutD),
 BaseG H res bs ls us ss ts/\OutsG ls.length us.length os/\(os=[]\/LM (lE true H res bs ls us ss ts os)=none)/\c=lE false H res bs ls us ss ts os
def vz{N:Nat}{l:List Int}{o:Bool}(hN:4096<=N)(A:l.length<=9223372036854775807){H:Nat}{res:List Int}{bs:List BusD}{ls:List LineD}{us:List UnitD}{ss:List StoreD}{ts:List TieD}(b:BaseG H res bs ls us ss ts)(k:Nat)(B:k<=l.length):
  ∃ c,VW c/\∀ K:LA->O R,EF N K (Ap l) l.length o (H:Int) res.length bs.length ls.length us.length ss.length (Ap res) (bs.flatMap BusD.av) (ls.flatMap LineD.av) (us.flatMap UnitD.av) (ss.flatMap StoreD.av) (k:Int) ts.length (ts.flatMap TieD.av)=K c.av:=by
 obtain⟨y,C,y0,y1,v,D⟩:=nx (R:=R) (N:=N) (t:=false) (o:=o) A 4 (by omega) (by omega) k B
 obtain⟨n,hn⟩:∃ n:Nat,y=(n:Int):=⟨y.toNat,by omega⟩
 subst hn
 obtain⟨os,a1,a2,a3⟩:=pj (R:=R) (o:=o) hN A b n N C [] (by omega) v (by simp;omega) ⟨by simp,by simp⟩ (.inl rfl)
 refine⟨_,⟨H,res,bs,ls,us,ss,ts,os,b,a1,a2,rfl⟩,fun K=>?_⟩
 unfold EF JR
 rw[D]
 simpa using a3 K
def wB{N:Nat}{l:List Int}{o:Bool}(hN:4096<=N)(C:l.length<=9223372036854775807){H:Nat}{res:List Int}{bs:List BusD}{ls:List LineD}{us:List UnitD}{ss:List StoreD}(b:BaseG H res bs ls us ss [])(k:Nat)(hk:k<=l.length):
  ∃ c,VW c/\∀ K:LA->O R,Xa N K (bs.length:Int) (Ap l) l.length o (H:Int) res.length bs.length ls.length us.length (Ap res) (bs.flatMap BusD.av) (ls.flatMap LineD.av) (us.flatMap UnitD.av) (k:Int) ss.length (ss.flatMap StoreD.av)=K c.av:=by
 have hb:=b.bl;have hH:=b.h
 obtain⟨y50,I,y500,y501,A,B⟩:=nx (R:=R) (N:=N) (t:=false) (o:=o) C 3 (by omega) (by omega) k hk
 by_cases h2:y50=2
 ·have V:(y50==2)=true:=by simpa using h2
  obtain⟨y52,Y,y520,y521,L,T⟩:=nx (R:=R) (N:=N) (t:=false) (o:=o) C (bs.length:Int) (by omega) (by omega) I A
  obtain⟨B1,k1,v,b12,hk1,hB1⟩:=Xr (R:=R) (N:=N) (m:=H) (t:=false) (o:=o) (by omega) C 12 (by omega) (by omega) (by omega) Y L
  obtain⟨B2,k2,D,b22,hk2,hB2⟩:=Xr (R:=R) (N:=N) (m:=H) (t:=false) (o:=o) (by omega) C 12 (by omega) (by omega) (by omega) k1 hk1
  obtain⟨B3,k3,G,b32,hk3,hB3⟩:=Xr (R:=R) (N:=N) (m:=H) (t:=false) (o:=o) (by omega) C 40 (by omega) (by omega) (by omega) k2 hk2
  obtain⟨c,g1,g2⟩:=vz (R:=R) (o:=o) hN C (ts:=[⟨[116,48],y52,.of B1 false false,.of B2 false false,.of B3 false false⟩]) ⟨b.h,b.rl,b.rr,b.bl,b.bg,b.ll,b.lg,b.ul,b.ug,b.sl,b.sg,by simp,by
   intro x hx;simp at hx;subst hx
   exact⟨rfl,⟨y520,y521⟩,v,b12,D,b22,G,b32⟩⟩ k3 hk3
  refine⟨c,g1,fun K=>?_⟩
  unfold Xa Yn
  rw[B,V,ct,T,hB1,hB2,hB3,L6 v.symm,L6 D.symm,L6 G.symm,<-g2 K,<-v]
  simp only[v]
  have e:List.flatMap TieD.av [⟨[116,48],y52,.of B1 false false,.of B2 false false,.of B3 false false⟩]=[.str ([116,48]:Lu),.int .i64 y52,.imm (B1.flatMap Xv) H 1 false false,.imm (B2.flatMap Xv) H 1 false false,.imm (B3.flatMap Xv) H 1 false false]:=by
   simp[TieD.av,Sl.av,v,D,G]
  rw[e];rfl
 ·have V:(y50==2)=false:=by simpa using h2
  obtain⟨c,g1,g2⟩:=vz (R:=R) (o:=o) hN C b I A
  refine⟨c,g1,fun K=>?_⟩
  unfold Xa Yn
  rw[B,V,cf,<-g2 K];rfl
def wC{N:Nat}{l:List Int}{o:Bool}(hN:4096<=N)(v:l.length<=9223372036854775807){H:Nat}{res:List Int}{bs:List BusD}{ls:List LineD}(h:1<=H/\H<=3)(rl:res.length=H)(rr:∀ x∈res,0<=x/\x<5)(bl:1<=bs.length/\bs.length<=4)(bg:∀ i (h:i<bs.length),BusG i H bs[i])(ll:ls.length<=7)(lg:∀ i (h:i<ls.length),LineH bs.length i H ls[i]):
  ∀(n fuel k:Nat)(us:List UnitD),n<fuel->k<=l.length->us.length+n<=3->1<=us.length+n->(∀ i (h:i<us.length),UnitG i bs.length H us[i]) ->
  ∃ c,VW c/\∀ K:LA->O R,Ll N K (bs.length:Int) (Ap l) l.length o (H:Int) res.length bs.length (Ap res) (bs.flatMap BusD.av) fuel (n:Int) (k:Int) ls.length us.length (ls.flatMap LineD.av) (us.flatMap UnitD.av)=K c.av
| 0,fuel+1,k,us,_,hk,hn,hn1,ug=>by
  obtain⟨y34,C,y340,y341,A,B⟩:=nx (R:=R) (N:=N) (t:=false) (o:=o) v 3 (by omega) (by omega) k hk
  by_cases h2:y34=2
  ·have e2:(y34==2)=true:=by simpa using h2
   obtain⟨y36,k36,y360,y361,D,G⟩:=nx (R:=R) (N:=N) (t:=false) (o:=o) v (bs.length:Int) (by omega) (by omega) C A
   obtain⟨y38,k38,y380,y381,I,L⟩:=nx (R:=R) (N:=N) (t:=false) (o:=o) v 20 (by omega) (by omega) k36 D
   obtain⟨y40,k40,y400,y401,T,V⟩:=nx (R:=R) (N:=N) (t:=false) (o:=o) v 8 (by omega) (by omega) k38 I
   obtain⟨y42,k42,y420,y421,Y,hy42⟩:=nx (R:=R) (N:=N) (t:=false) (o:=o) v 8 (by omega) (by omega) k40 T
   obtain⟨y44,k44,y440,y441,hk44,hy44⟩:=nx (R:=R) (N:=N) (t:=false) (o:=o) v 4 (by omega) (by omega) k42 Y
   obtain⟨y46,k46,y460,y461,hk46,hy46⟩:=nx (R:=R) (N:=N) (t:=false) (o:=o) v (y38+1) (by omega) (by omega) k44 hk44
   obtain⟨y48,k48,y480,y481,hk48,hy48⟩:=nx (R:=R) (N:=N) (t:=false) (o:=o) v (y38+1) (by omega) (by omega) k46 hk46
   obtain⟨c,g1,g2⟩:=wB (R:=R) (o:=o) hN v (us:=us) (ss:=[⟨[115,48],y36,y38,y46,y48,y40,y42,⟨1+y44,4⟩⟩]) ⟨h,rl,rr,bl,bg,ll,lg,⟨by omega,by omega⟩,ug,by simp,by
    intro x hx;simp at hx;subst hx
    exact⟨rfl,⟨y360,y361⟩,⟨y380,y381⟩,⟨y460,by simp only;omega⟩,⟨y480,by simp only;omega⟩,⟨y400,y401⟩,⟨y420,y421⟩,by simp only;omega,by simp only;omega,rfl⟩,by simp,by simp⟩ k48 hk48
   refine⟨c,g1,fun K=>?_⟩
   rw[Ll];unfold Tj
   rw[show decide (((0:Nat):Int)>0)=false from rfl,cf,B,e2,ct,G,L,V,hy42,hy44,Mv (a:=y38+1) (by omega),hy46,hy48,Mv (a:=1+y44) (by omega),<-g2 K]
   rfl
  ·have e2:(y34==2)=false:=by simpa using h2
   obtain⟨c,g1,g2⟩:=wB (R:=R) (o:=o) hN v (us:=us) (ss:=[]) ⟨h,rl,rr,bl,bg,ll,lg,⟨by omega,by omega⟩,ug,by simp,by simp,by simp,by simp⟩ C A
   refine⟨c,g1,fun K=>?_⟩
   rw[Ll];unfold Tj
   rw[show decide (((0:Nat):Int)>0)=false from rfl,cf,B,e2,cf,<-g2 K]
   rfl
|n+1,fuel+1,k,us,hf,hk,hn,hn1,ug=>by
  obtain⟨u,k1,gu,hk1,hu⟩:=yC (R:=R) (N:=N) (t:=false) (o:=o) (by omega) v (i:=us.length) (by omega) (nb:=(bs.length:Int)) (H:=(H:Int)) (by omega) (by omega) k hk
  obtain⟨c,g1,g2⟩:=wC (o:=o) hN v h rl rr bl bg ll lg n fuel k1 (us++[u]) (by omega) hk1 (by simp;omega) (by simp;omega) (LN (P:=fun i u=>UnitG i bs.length H u) ug gu)
  refine⟨c,g1,fun K=>?_⟩
  rw[Ll];unfold Tj
  have wn:wrap .i64 (((n+1:Nat):Int) - 1)=(n:Int):=jZ (by omega)
  have c2:(ble (us.length+1) 140737488355328&&ble ((us.length+1)*216) 140737488355328)=true:=by rw[Dx,Dx];simp;omega
  have c3:take (us.length*22) (us.flatMap UnitD.av)++u.av=(us++[u]).flatMap UnitD.av:=by rw[Bp Mt _ rfl];simp
  rw[show decide (((n+1:Nat):Int)>0)=true from decide_eq_true (by omega),ct,hu,show((beq (List.length u.av) 22)&&(ble 22 22))=true from rfl,ct,c2,ct,wn,<-g2 K,<-c3,Ahy]
  rfl
def Ab4{N:Nat}{l:List Int}{o:Bool}(hN:4096<=N)(D:l.length<=9223372036854775807){H:Nat}{res:List Int}{bs:List BusD}(h:1<=H/\H<=3)(rl:res.length=H)(rr:∀ x∈res,0<=x/\x<5)(bl:1<=bs.length/\bs.length<=4)(bg:∀ i (h:i<bs.length),BusG i H bs[i]):
  ∀(n fuel k:Nat)(ls:List LineD),n<fuel->k<=l.length->ls.length+n<=7->(∀ i (h:i<ls.length),LineH bs.length i H ls[i]) ->
  ∃ c,VW c/\∀ K:LA->O R,Lm N K (bs.length:Int) (Ap l) l.length o (H:Int) res.length bs.length (Ap res) (bs.flatMap BusD.av) fuel (n:Int) (k:Int) ls.length (ls.flatMap LineD.av)=K c.av:=by
 have fin:∀(k:Nat)(ls:List LineD),k<=l.length->ls.length<=7->(∀ i (h:i<ls.length),LineH bs.length i H ls[i])->∃ c,VW c/\∀ K:LA->O R,(Af N (3:Int) (Ap l) l.length false o (k:Int) fun y22 y23=>Ll N K (bs.length:Int) (Ap l) l.length o (H:Int) res.length bs.length (Ap res) (bs.flatMap BusD.av) N (wrap .i64 ((1:Int)+y22)) y23 ls.length 0 (ls.flatMap LineD.av) [])=K c.av:=by
  intro k ls C ll lg
  obtain⟨y,V,y0,y1,v,hy⟩:=nx (R:=R) (N:=N) (t:=false) (o:=o) D 3 (by omega) (by omega) k C
  obtain⟨n,hn⟩:∃ n:Nat,1+y=(n:Int):=⟨(1+y).toNat,by omega⟩
  obtain⟨c,A,B⟩:=wC (R:=R) (o:=o) hN D h rl rr bl bg ll lg n N V [] (by omega) v (by simp;omega) (by simp;omega) (by simp)
  refine⟨c,A,fun K=>?_⟩
  rw[hy,Mv (a:=1+y) (by omega),hn]
  simpa using B K
 intro n
 induction n with
|zero =>
  intro fuel k ls hf C hn lg
  obtain⟨c,A,B⟩:=fin k ls C (by omega) lg
  refine⟨c,A,fun K=>?_⟩
  obtain⟨fuel,rfl⟩:∃ f,fuel=f+1:=⟨fuel - 1,by omega⟩
  rw[Lm];unfold Tk
  rw[show decide (((0:Nat):Int)>0)=false from rfl,<-B K]
  rfl
| succ n ih =>
  intro fuel k ls hf C hn lg
  obtain⟨fuel,rfl⟩:∃ f,fuel=f+1:=⟨fuel - 1,by omega⟩
  by_cases hb1:bs.length=1
  ·obtain⟨c,A,B⟩:=fin k ls C (by omega) lg
   refine⟨c,A,fun K=>?_⟩
   rw[Lm];unfold Tk
   rw[show decide (((n+1:Nat):Int)>0)=true from decide_eq_true (by omega),show decide ((bs.length:Int)>1)=false from decide_eq_false (by omega),<-B K]
   rfl
  ·obtain⟨y26,Y,y260,y261,G,I⟩:=nx (R:=R) (N:=N) (t:=false) (o:=o) D (bs.length:Int) (by omega) (by omega) k C
   obtain⟨y28,k28,y280,y281,L,T⟩:=nx (R:=R) (N:=N) (t:=false) (o:=o) D ((bs.length:Int) - 1) (by omega) (by omega) Y G
   have tm:∃ tx:Int,Int.tmod (y26+1+y28) (bs.length:Int)=tx/\0<=tx/\tx<(bs.length:Int)/\y26≠tx:=by
    refine⟨_,rfl,Int.tmod_nonneg _ (by omega),Amo _ (by omega),?_⟩
    by_cases hlt:y26+1+y28<(bs.length:Int)
    ·rw[Int.tmod_eq_of_lt (by omega) hlt];omega
    ·have:Int.tmod (y26+1+y28) (bs.length:Int)=y26+1+y28 - (bs.length:Int):=by
      have e:y26+1+y28=(y26+1+y28 - (bs.length:Int))+1*(bs.length:Int):=by omega
      rw[Amn (by omega)]
      conv=>lhs;rw[e]
      rw[Int.add_mul_emod_self_right,Int.emod_eq_of_lt (by omega) (by omega)]
     rw[this];omega
   obtain⟨tx,ht,t0,t1,tne⟩:=tm
   obtain⟨x,V,gx,v,hx⟩:=nA (R:=R) (N:=N) (t:=false) (o:=o) D (i:=ls.length) (by omega) y26 tx (H:=(H:Int)) (by omega) k28 L
   obtain⟨c,A,B⟩:=ih fuel V (ls++[x]) (by omega) v (by simp;omega) (LN (P:=fun i x=>LineH bs.length i H x) lg ⟨by rw[gx.fr,gx.tx];exact gx,by rw[gx.fr];exact⟨y260,y261⟩,by rw[gx.tx];exact⟨t0,t1⟩,by rw[gx.fr,gx.tx];exact tne⟩)
   refine⟨c,A,fun K=>?_⟩
   rw[Lm];unfold Tk ED
   have wn:wrap .i64 (((n+1:Nat):Int) - 1)=(n:Int):=jZ (by omega)
   have c2:(ble (ls.length+1) 140737488355328&&ble ((ls.length+1)*120) 140737488355328)=true:=by rw[Dx,Dx];simp;omega
   have c3:take (ls.length*12) (ls.flatMap LineD.av)++x.av=(ls++[x]).flatMap LineD.av:=by rw[Bp Fo _ rfl];simp
   rw[show decide (((n+1:Nat):Int)>0)=true from decide_eq_true (by omega),show decide ((bs.length:Int)>1)=true from decide_eq_true (by omega)]
   simp only[beq_self_eq_true,cond_true]
   rw[I,Mv (a:=(bs.length:Int) - 1) (by omega),T,show((bs.length:Int)==0)=false from beq_eq_false_iff_ne.2 (by omega),cf,Mv (a:=y26+1) (by omega),Mv (a:=y26+1+y28) (by omega),ht,hx,show((beq (List.length x.av) 12)&&(ble 12 12))=true from rfl,ct,c2,ct,wn,<-B K,<-c3,Ahy]
   rfl
def wD{N:Nat}{l:List Int}{o:Bool}(hN:4096<=N)(A:l.length<=9223372036854775807){H:Nat}{res:List Int}{bs:List BusD}(h:1<=H/\H<=3)(rl:res.length=H)(rr:∀ x∈res,0<=x/\x<5)(bl:1<=bs.length/\bs.length<=4)(bg:∀ i (h:i<bs.length),BusG i H bs[i]):
  ∀(m j fuel k:Nat)(ls:List LineD),j+1+m=bs.length->m<fuel->k<=l.length->ls.length=j->(∀ i (h:i<ls.length),LineH bs.length i H ls[i]) ->
  ∃ c,VW c/\∀ K:LA->O R,Re N K (Ap l) l.length o (H:Int) res.length bs.length (Ap res) (bs.flatMap BusD.av) fuel (bs.length:Int) ((j+1:Nat):Int) (k:Int) ls.length (ls.flatMap LineD.av)=K c.av
|0,j,fuel+1,k,ls,V,_,C,B,lg=>by
  obtain⟨y,D,y0,y1,v,G⟩:=nx (R:=R) (N:=N) (t:=false) (o:=o) A 5 (by omega) (by omega) k C
  obtain⟨n,hn⟩:∃ n:Nat,y=(n:Int):=⟨y.toNat,by omega⟩
  subst hn
  obtain⟨c,I,L⟩:=Ab4 (R:=R) (o:=o) hN A h rl rr bl bg n N D ls (by omega) v (by omega) lg
  refine⟨c,I,fun K=>?_⟩
  rw[Re];unfold Yo
  rw[K4 (by omega),cf,G];exact L K
|m+1,j,fuel+1,k,ls,V,hf,C,B,lg=>by
  obtain⟨y,D,y0,y1,v,G⟩:=nx (R:=R) (N:=N) (t:=false) (o:=o) A ((j+1:Nat):Int) (by omega) (by omega) k C
  obtain⟨x,Y,gx,T,hx⟩:=nA (R:=R) (N:=N) (t:=false) (o:=o) A (i:=ls.length) (by omega) y ((j+1:Nat):Int) (H:=(H:Int)) (by omega) D v
  obtain⟨c,I,L⟩:=wD (o:=o) hN A h rl rr bl bg m (j+1) fuel Y (ls++[x]) (by omega) (by omega) T (by simp[B]) (LN (P:=fun i x=>LineH bs.length i H x) lg ⟨by rw[gx.fr,gx.tx];exact gx,by rw[gx.fr];omega,by rw[gx.tx];omega,by rw[gx.fr,gx.tx];omega⟩)
  refine⟨c,I,fun K=>?_⟩
  rw[Re];unfold Yo
  have c2:(ble (ls.length+1) 140737488355328&&ble ((ls.length+1)*120) 140737488355328)=true:=by rw[Dx,Dx];simp;omega
  have c3:take (ls.length*12) (ls.flatMap LineD.av)++x.av=(ls++[x]).flatMap LineD.av:=by rw[Bp Fo _ rfl];simp
  rw[Jy (by omega),ct,G,hx,show((beq (List.length x.av) 12)&&(ble 12 12))=true from rfl,ct,c2,ct,D6 (by omega),<-L K,<-c3,Ahy]
  rfl
def wE{N:Nat}{l:List Int}{o:Bool}(hN:4096<=N)(G:l.length<=9223372036854775807){H:Nat}{res:List Int}(h:1<=H/\H<=3)(rl:res.length=H)(rr:∀ x∈res,0<=x/\x<5):
  ∀(n fuel k:Nat)(bs:List BusD),n<fuel->k<=l.length->bs.length+n<=4->1<=bs.length+n->(∀ i (h:i<bs.length),BusG i H bs[i]) ->
  ∃ c,VW c/\∀ K:LA->O R,Jb N K (Ap l) l.length o res.length (Ap res) fuel (n:Int) (k:Int) (H:Int) bs.length (bs.flatMap BusD.av)=K c.av
|0,fuel+1,k,bs,_,Y,hn,hn1,bg=>by
  obtain⟨c,C,D⟩:=wD (R:=R) (o:=o) hN G h rl rr ⟨by omega,by omega⟩ bg (bs.length - 1) 0 N k [] (by omega) (by omega) Y rfl (by simp)
  refine⟨c,C,fun K=>?_⟩
  rw[Jb];unfold Tl
  rw[show decide (((0:Nat):Int)>0)=false from rfl,cf,<-D K]
  rfl
| n+1,fuel+1,k,bs,hf,Y,hn,hn1,bg=>by
  obtain⟨B,k1,V,b2,hk1,hB⟩:=Xr (R:=R) (N:=N) (m:=H) (t:=false) (o:=o) (by omega) G 14 (by omega) (by omega) (by omega) k Y
  obtain⟨y12,I,y120,y121,v,A⟩:=nx (R:=R) (N:=N) (t:=false) (o:=o) G 2 (by omega) (by omega) k1 hk1
  have wn:wrap .i64 (((n+1:Nat):Int) - 1)=(n:Int):=jZ (by omega)
  have c2:(ble (bs.length+1) 140737488355328&&ble ((bs.length+1)*48) 140737488355328)=true:=by rw[Dx,Dx];simp;omega
  have c3:∀ s:Int,take (bs.length*3) (bs.flatMap BusD.av)++[.str [98,Af3.getD bs.length 0],.imm (B.flatMap Xv) H 1 false false,.int .i64 s]=(bs++[(⟨[98,Af3.getD bs.length 0],.of B false false,s⟩:BusD)]).flatMap BusD.av:=fun s=>by
   rw[Bp CF _ rfl];simp[BusD.av,Sl.av,V]
  have go:∀(s:Int)(kk:Nat),0<=s->s<300->kk<=l.length->∃ c,VW c/\∀ K:LA->O R,Jb N K (Ap l) l.length o res.length (Ap res) fuel (n:Int) (kk:Int) (H:Int) (bs.length+1) (take (bs.length*3) (bs.flatMap BusD.av)++[.str [98,Af3.getD bs.length 0],.imm (B.flatMap Xv) H 1 false false,.int .i64 s])=K c.av:=by
   intro s kk s0 s1 hkk
   have gb:BusG bs.length H (⟨[98,Af3.getD bs.length 0],.of B false false,s⟩:BusD):=⟨rfl,V,b2,s0,s1⟩
   obtain⟨c,C,D⟩:=wE (o:=o) hN G h rl rr n fuel kk (bs++[(⟨[98,Af3.getD bs.length 0],.of B false false,s⟩:BusD)]) (by omega) hkk (by simp;omega) (by simp;omega) (LN (P:=fun i x=>BusG i H x) bg gb)
   refine⟨c,C,fun K=>?_⟩
   rw[c3,<-D K,Ahy]
   rfl
  by_cases h1:y12=1
  ·have e1:(y12==1)=true:=by simpa using h1
   obtain⟨y14,k14,y140,y141,L,T⟩:=nx (R:=R) (N:=N) (t:=false) (o:=o) G 200 (by omega) (by omega) I v
   obtain⟨c,C,D⟩:=go (100+y14) k14 (by omega) (by omega) L
   refine⟨c,C,fun K=>?_⟩
   rw[Jb];unfold Tl
   rw[show decide (((n+1:Nat):Int)>0)=true from decide_eq_true (by omega),ct,Oy (by omega),hB,A,e1,ct,T,c2,ct,wn,Mv (a:=100+y14) (by omega),L6 V.symm,D]
  ·have e1:(y12==1)=false:=by simpa using h1
   obtain⟨c,C,D⟩:=go 0 I (by omega) (by omega) v
   refine⟨c,C,fun K=>?_⟩
   rw[Jb];unfold Tl
   rw[show decide (((n+1:Nat):Int)>0)=true from decide_eq_true (by omega),ct,Oy (by omega),hB,A,e1,cf,c2,ct,wn,L6 V.symm,D]
def pm{N:Nat}{l:List Int}{n:Nat}{t o:Bool}(hn:n=l.length)(hN:4096<=N)(k:l.length<=9223372036854775807):∃ c,VW c/\∀ K:LA->O R,TU N (Ap l) n t o K=K c.av:=by
 subst hn
 obtain⟨y1,L,y10,y11,v,A⟩:=nx (R:=R) (N:=N) (t:=false) (o:=o) k 3 (by omega) (by omega) 0 (by omega)
 obtain⟨H,hH⟩:∃ H:Nat,1+y1=(H:Int):=⟨(1+y1).toNat,by omega⟩
 obtain⟨B,T,I,V,C,hB⟩:=Xr (R:=R) (N:=N) (m:=H) (t:=false) (o:=o) (by omega) k 5 (by omega) (by omega) (by omega) L v
 obtain⟨y6,Y,y60,y61,D,G⟩:=nx (R:=R) (N:=N) (t:=false) (o:=o) k 4 (by omega) (by omega) T C
 obtain⟨m,hm⟩:∃ m:Nat,1+y6=(m:Int):=⟨(1+y6).toNat,by omega⟩
 obtain⟨c,g1,g2⟩:=wE (R:=R) (o:=o) hN k (H:=H) (by omega) I V m N Y [] (by omega) D (by simp;omega) (by simp;omega) (by simp)
 refine⟨c,g1,fun K=>?_⟩
 rw[bK];unfold TT
 rw[gO];unfold oU
 have z:Af N 3 (Ap l) l.length false o 0=Af (R:=R) N 3 (Ap l) l.length false o ((0:Nat):Int):=rfl
 rw[z,A,Mv (a:=1+y1) (by omega),hH,hB,G,Mv (a:=1+y6) (by omega),hm,<-g2 K,I]
 rfl
end
end Gx.Cf
namespace Gx
open Go Go.Proofs
section
variable{R:Type}
def Ab5(s:Cf.SegD):SegD:=⟨s.width,s.price⟩
def LO:Cf.Sl Cf.SegD->Sl SegD
|.nil=>.nil
|.of l t o=>.of (l.map Ab5) t o
def ZT:Cf.Sl Int->Sl Int
|.nil=>.nil
|.of l t o=>.of l t o
def yI(u:Cf.UnitD):UnitD:=⟨u.name,u.bus,u.min,u.max,LO u.segs,u.noLoad,u.rampUp,u.rampDown,u.startRamp,u.stopRamp,u.upTime,u.downTime,u.startTime,u.hotCost,u.coldCost,u.hotHours,u.reserve,u.reservePrice,ZT u.away,u.state,u.hours,u.output⟩
def sh:∀ l:List Cf.SegD,(l.map Ab5).flatMap SegD.av=l.flatMap Cf.SegD.av
|[]=>rfl
|a::r=>by rw[Ah9,Aie,Aie,sh r];rfl
def yE(s:Cf.Sl Cf.SegD):(LO s).av 2 SegD.av=s.av 2 Cf.SegD.av:=by
 cases s with
|nil=>rfl
|of l t o=>simp only[LO,Sl.av,Cf.Sl.av,sh,Ajx]
def yF(s:Cf.Sl Int):(ZT s).av 1 Xv=s.av 1 Cf.Xv:=by cases s<;>rfl
def Ad1(u:Cf.UnitD):(yI u).av=u.av:=by
 unfold UnitD.av Cf.UnitD.av
 rw[show(yI u).segs=LO u.segs from rfl,show(yI u).away=ZT u.away from rfl,yE,yF];rfl
def jc(s:Cf.Sl Cf.SegD):(LO s).l=s.l.map Ab5:=by cases s<;>rfl
def si(s:Cf.Sl Int):(ZT s).l=s.l:=by cases s<;>rfl
def VX(a b n:Int):Cf.D7 a b n=G6 a b n:=by rw[Akk];simp[Cf.D7,G6]<;>omega
def nF:∀(l:List Cf.SegD)(p:Int),l.all Cf.Dh=true->Cf.LH l=true->(∀ s∈l.head?,p<=s.price)->Dh p (l.map Ab5)=true
|[],_,_,_,_=>rfl
|[a],p,k,_,v=>by
  simp[Cf.Dh,VX]at k
  have:=v a (by simp)
  simp[Dh,Ab5,k,this]
|a::b::r,p,k,A,v=>by
  have C:=v a (by simp)
  simp only[Aji,Aho]at k
  simp only[Cf.LH,Aho]at A
  have D:=nF (b::r) a.price (by simp only[Aji,Aho];exact k.2) A.2 (by intro s hs;simp at hs;subst hs;have:=A.1;simp at this;exact this)
  have B:=k.1
  simp[Cf.Dh,VX]at B
  rw[Ah9,Dh,show(Ab5 a).price=a.price from rfl,D]
  simp[Ab5,B,C]
def nG:∀(l:List Cf.SegD)(a:Int),l.all Cf.Dh=true->l.length<=100->-1000000000000<=a - 1048576*(100 - (l.length:Int))->(0<=a/\a<=1048576*(100 - (l.length:Int)))->Cf.FM a l=a+K5 (l.map Ab5)
|[],a,_,_,_,_=>by simp[Cf.FM,K5]
|s::r,a,k,v,A,B=>by
  simp only[Aji,Aho]at k
  have C:=k.1
  simp[Cf.Dh,VX,G6]at C
  rw[Ah8]at v A B
  rw[Cf.FM,i64 (by omega),nG r (a+s.width) k.2 (by omega) (by omega) (by omega),Ah9,K5]
  simp[Ab5];omega
def jd{i:Nat}{nb H c:Int}{u:Cf.UnitD}(g:Cf.UnitG i nb H u)(hH:1<=H/\H<=c)(hc:c<=24):H5 (yI u) c=true:=by
 have e:=g
 obtain⟨_,_,h1,h2,h3,h4,h5,h6,h7,h8,h9,v,A,B,C,D,G,I,L,T,V,h20,h21,Y,_,h24,h25,k⟩:=e
 simp only[VX]at h1 h2 h7 h8 h9 v A B C D G I L T V Y h24 k
 have hw:=nG u.segs.l 0 h4 (by omega) (by omega) (by omega)
 have hm1:=h1;have hm2:=h2
 simp only[G6,Aho,decide_eq_true_eq]at hm1 hm2
 have hsum:K5 (yI u).segs.l=u.max - u.min:=by
  have:Cf.FM 0 u.segs.l=wrap .i64 (u.max - u.min):=by simpa using h6
  rw[hw,i64 (by omega)]at this
  show K5 (LO u.segs).l=_
  rw[jc];omega
 have hseg:Dh (-1048576) (yI u).segs.l=true:=by
  show Dh _ (LO u.segs).l=true
  rw[jc]
  refine nF _ _ h4 h5 fun s hs=>?_
  have hs':s∈u.segs.l:=List.mem_of_mem_head? hs
  have:=Aku.1 h4 s hs'
  simp[Cf.Dh,VX,G6]at this;omega
 have hlen:(yI u).segs.l.length<=8:=by
  show(LO u.segs).l.length<=8
  rw[jc,Ajx];omega
 have haw:EX (c - 1) (-1) (yI u).away.l=true:=by
  show EX _ _ (ZT u.away).l=true
  rw[si]
  cases hl:u.away.l with
  |nil=>rfl
  | cons x r =>
   have hr:r=[]:=by
    have:=h20;rw[hl]at this;simp at this;exact this
   subst hr
   have:=h21 x (by rw[hl];simp)
   simp[EX,G6];omega
 have hst:iK (yI u)=true:=by
  unfold iK
  show(G6 0 24 u.upTime&&(G6 0 24 u.downTime&&(G6 0 24 u.startTime&&(G6 0 24 u.hotHours&&((u.state==0||(u.state==1||u.state==2))&&(G6 1 48 u.hours&&(!(u.state==1)||decide (u.hours<=u.startTime))))))))=true
  have hs3:(u.state==0||(u.state==1||u.state==2))=true:=by
   simp only[G6,Aho,decide_eq_true_eq]at Y
   simp;omega
  rw[B,C,D,L,h24,hs3]
  exact h25
 have hsB:iM (yI u)=true:=by
  unfold iM;rw[hseg,hsum];simp[hlen];rfl
 have hoB:Aay (yI u)=true:=by
  unfold Aay
  show cond (u.state==2) (G6 u.min u.max u.output) (u.output==0)=true
  cases hb:(u.state==2)with
  |true=>rw[hb]at k;exact k
  |false=>rw[hb]at k;simp[G6]at k;simp;omega
 have hmx:G6 0 1048576 u.max=true:=by simp[G6];omega
 have hle:decide (u.min<=u.max)=true:=by simp;omega
 have hcc:G6 1 24 c=true:=by simp[G6];omega
 unfold H5
 rw[hst,haw,hsB,hoB]
 show(G6 1 24 c&&(true&&(G6 0 1048576 u.min&&(G6 0 1048576 u.max&&(G6 0 1048576 u.rampUp&&(G6 0 1048576 u.rampDown&&(G6 0 1048576 u.reserve&&(decide (u.min<=u.max)&&(G6 u.min u.max u.startRamp&&(G6 u.min u.max u.stopRamp&&(G6 0 1048576 u.noLoad&&(G6 0 1048576 u.hotCost&&(G6 0 1048576 u.coldCost&&(G6 0 1048576 u.reservePrice&&(true&&(true&&true))))))))))))))))=true
 rw[hcc,h1,hmx,h8,h9,T,hle,v,A,h7,G,I,V];rfl
def uq{N:Nat}{X:O R}{K:LA->Int->O R}{l:List Int}{n:Nat}{t o:Bool}(hn:n=l.length)(hN:4096<=N)(v:l.length<=9223372036854775807)
  (h:∀(u:UnitD)(H:Int),1<=H->H<=3->H5 u H=true->H5 u 24=true->u.away.l.length<=1->K u.av H=X):ee N (Ap l) n t o K=X:=by
 rw[bL];unfold gd
 obtain⟨c,A,e⟩:=Cf.pm (R:=R) (N:=N) (l:=l) (n:=n) (t:=false) (o:=o) hn hN v
 rw[show Ap l=Cf.Ap l from rfl,e]
 obtain⟨H,res,bs,ls,us,ss,ts,os,hB,_,_,rfl⟩:=A
 obtain⟨u0,k,rfl⟩:∃ u0 k,us=u0::k:=by
  cases us with
  |nil=>have:=hB.ul;simp at this
  |cons a r=>exact⟨a,r,rfl⟩
 have g:=hB.ug 0 (by simp)
 simp only[Alu]at g
 have hH:=hB.h
 have:=h (yI u0) (H:Int) (by omega) (by omega) (jd g (by omega) (by omega)) (jd g (by omega) (by omega)) (by show(ZT u0.away).l.length<=1;rw[si];exact g.aw)
 rw[Ad1]at this
 refine Eq.trans ?_ this
 rw[show drop 4 (Cf.lE false H res bs ls (u0::k) ss ts os).av=(Cf.Sl.of (u0::k) false false).av 22 Cf.UnitD.av::drop 5 (Cf.lE false H res bs ls (u0::k) ss ts os).av from rfl,Cf.H4]
 rw[show(Cf.Sl.of (u0::k) false false).l=u0::k from rfl,Aie,show Ah (0:Int) (u0::k).length=true from Ab (i:=0) (by simp),show ble 22 (List.length (u0.av++k.flatMap Cf.UnitD.av))=true from rfl,show take 22 (u0.av++k.flatMap Cf.UnitD.av)=u0.av from rfl]
 rw[show ∀ F:Int->O R,Au .i64 (Cf.lE false H res bs ls (u0::k) ss ts os).av F=F (H:Int)from fun F=>Av]
 rfl
end
end Gx
namespace Gx.Uo
open Go Go.Proofs
section
variable{R:Type}{N:Nat}{X:O R}
def Aai{K:LA->O R}{u:UnitD}{x y E W:RatD}{a b e C:Rat}{o1 o2 o3 o4 o5:Bool}(B:H5 u 24=true)(D:x.is a 100)(G:y.is b 100)(hE:E.is e 100)(hW:W.is C 100)(T:(u.min:Rat)<=a)(k:fit 1000000 N):
  LB N u.av o1 x.av o2 y.av o3 E.av o4 W.av o5 K=K (en (e*a+cU u a+(C - u.reservePrice)*b)).av:=by
 have hN:100001000<=N:=by have:=k.1;omega
 have V:=Rq B;have hs:=Jm B;have hr:=LG B
 have qx:=D.qm;have qy:=G.qm;have qe:=hE.qm;have qw:=hW.qm
 rw[VL];unfold ZG
 have m1:=Kj e a;have m2:=Kj C b
 have m3:=Rp (e*a) (C*b)
 simp only[b3,ct,LF]
 rw[Abj hE D (k.le (by omega)),Abj hW G (k.le (by omega)),Abi (Lx (m:=210) (by omega)) (Lx (m:=210) (by omega)) (k.le (by omega)),c3,ct,b3,ct,iJ,ct,RE,LF,p_ D (CA B) hs.1 (by omega) (k.le (by omega)) (by omega),Afi,cR (by omega) (by omega)]
 have ip:=qi (v:=u.reservePrice) (by omega)
 have m4:=Kj (u.reservePrice:Rat) b
 have im:=qi (v:=u.min) (by omega)
 have m5:=T5 a (u.min:Rat)
 have L:PK (a - (u.min:Rat)) u.segs.l=Dv (a - (u.min:Rat)) u.segs.l:=sV (fun s I=>by have:=ex hs.2.1 s I;omega) (by grind)
 have m6:=VM (A:=110) u.segs.l (a - (u.min:Rat)) (CA B) (by omega) (by omega)
 have m7:u.segs.l.length*(110+3*u.segs.l.length+31)<=8*(110+24+31):=Ajh hs.1 (by omega)
 have m8:=Rp (Dv (a - (u.min:Rat)) u.segs.l) ((u.reservePrice:Rat)*b)
 rw[L,Abj (Lx (m:=2) ip) G (k.le (by omega)),Abi (Lx (m:=1400) (by omega)) (Lx (m:=210) (by omega)) (k.le (by omega)),Adn (Lx (m:=500) (by omega)) (Lx (m:=2000) (by omega)) (k.le (by omega)),c3,ct,b3,ct,LF]
 unfold cU jV
 congr 3
 grind
def wF{u:UnitD}{a b e k:Rat}(B:H5 u 24=true)(C:qm a<=100)(D:qm b<=100)(hE:qm e<=101)(hW:qm k<=101):qm (e*a+cU u a+(k - u.reservePrice)*b)<=3000:=by
 have G:=Rq B;have hs:=Jm B;have hr:=LG B
 have ip:=qi (v:=u.reservePrice) (by omega)
 have im:=qi (v:=u.min) (by omega)
 have m5:=T5 a (u.min:Rat)
 have m6:=VM (A:=110) u.segs.l (a - (u.min:Rat)) (CA B) (by omega) (by omega)
 have m7:u.segs.l.length*(110+3*u.segs.l.length+31)<=8*(110+24+31):=Ajh hs.1 (by omega)
 have m1:=Kj e a
 have m2:=T5 k (u.reservePrice:Rat)
 have m3:=Kj (k - (u.reservePrice:Rat)) b
 have m4:=Rp (e*a) (cU u a)
 have m8:=Rp (e*a+cU u a) ((k - (u.reservePrice:Rat))*b)
 have m9:qm (cU u a)=qm (Dv (a - (u.min:Rat)) u.segs.l):=by unfold cU jV;rw[pX]
 omega
def wG{K:Bool->O R}:Zc N K=K true:=by rw[Nw];rfl
def Acz{v m:Int}(h:0<=m)(k:3*m<=v):(m:Rat)<=mkRat v 3:=by rw[<-Amq,<-pW m,mX (by decide) (by decide)];omega
def Ad2{v m:Int}(k:v<=3*m):mkRat v 3<=(m:Rat):=by rw[<-Amq,<-pW m,mX (by decide) (by decide)];omega
def Aaj{v:Int}(h:-9223372036854775808<=v/\v<=9223372036854775807):qm (mkRat v 3)<=2:=v8 v 3 2 (by omega) (by omega) (by omega)
def Ab6{K:Bool->O R}{u:UnitD}{E W:RatD}{e T:Rat}{q r lo hi:Int}{d:RatD}(A:H5 u 24=true)(hE:E.is e 100)(hW:W.is T 100)(B:fit 1000000 N)
  {f a b l c dd s t ut v:Bool} {n1 n2 n3 n4:List Nat} (eE:E.av=[.bool f,.imm (Ac n1) n1.length 1 false a,.imm (Ac n2) n2.length 1 false b]) (eW:W.av=[.bool l,.imm (Ac n3) n3.length 1 false c,.imm (Ac n4) n4.length 1 false dd])
  (h1:u.min<=lo) (h2:lo<=hi) (h3:hi<=u.max) {P:Rat} (V:d.can P) (hqP:qm P<=3000) (k:∀ a b:Rat,(u.min:Rat)<=a->0<=b->b<=(u.reserve:Rat)->(lo:Rat)<=a+b->a+b<=hi->e*a+cU u a+(T - u.reservePrice)*b<=P) :
  Gd N K q r lo hi f (Ac n1) n1.length s a (Ac n2) n2.length t b l (Ac n3) n3.length ut c (Ac n4) n4.length v dd u.av d.av=K true:=by
 have hN:100001000<=N:=by have:=B.1;omega
 have Y:=Rq A;have hs:=Jm A;have hr:=LG A
 unfold Gd
 rw[<-eE,<-eW]
 simp only[u2,u3,Ad3]
 have e1:wrap .i64 ((wrap .i64 (3*(wrap .i64 (u.max - u.min))))+1)=3*(u.max - u.min)+1:=by
  rw[Bi (u.max - u.min) (by omega),Bi (3*_) (by omega),Bi _ (by omega)]
 have e2:wrap .i64 ((wrap .i64 (3*u.reserve))+1)=3*u.reserve+1:=by
  rw[Bi (3*_) (by omega),Bi _ (by omega)]
 have ma:=vS q (show(0:Int)<3*(u.max - u.min)+1 by omega)
 have mb:=vS r (show(0:Int)<3*u.reserve+1 by omega)
 rw[e1,Aaz (by omega) (by omega)]
 generalize q%(3*(u.max - u.min)+1)=va at ma
 have e3:wrap .i64 ((wrap .i64 (3*u.min))+va)=3*u.min+va:=by
  rw[Bi (3*_) (by omega),Bi _ (by omega)]
 rw[e3,sP (by omega) (by omega) (by omega)]
 rw[show ∀ v:Int,cq (mkRat v (3:Int).natAbs)=(en (mkRat v 3)).av from fun _=>rfl]
 have qx:=Aaj (v:=3*u.min+va) (by omega)
 have G:=Acz Y.1.1 (show 3*u.min<=3*u.min+va by omega)
 generalize mkRat (3*u.min+va) 3=x at G qx
 rw[c3,ct,e2,Aaz (by omega) (by omega)]
 generalize r%(3*u.reserve+1)=vb at mb
 rw[sP (by omega) (by omega) (by omega)]
 rw[show ∀ v:Int,cq (mkRat v (3:Int).natAbs)=(en (mkRat v 3)).av from fun _=>rfl]
 have qy:=Aaj (v:=vb) (by omega)
 have C:=Acz (v:=vb) (m:=0) (by omega) (by omega)
 have D:=Ad2 (v:=vb) (m:=u.reserve) (by omega)
 generalize mkRat vb 3=y at C D qy
 rw[c3,ct,b3,ct,b3,ct,LF,LF,Abi (Lx qx) (Lx qy) (B.le (by omega))]
 have qs:=Rp x y
 rw[sU (Lx (m:=10) (by omega)) (by omega) (by omega) (B.le (by omega)) (by omega)]
 unfold Af0
 by_cases I:(lo:Rat)<=x+y
 ·by_cases L:x+y<=(hi:Rat)
  ·rw[decide_eq_true I,decide_eq_true L,show(!(true&&true))=false from rfl,cf]
   have hb:=k x y G C D I L
   have qg:=wF (a:=x) (b:=y) A (by omega) (by omega) hE.qm hW.qm
   simp only[iJ,ct,RE,b3,LF]
   rw[Aai A (Lx (m:=100) (by omega)) (Lx (m:=100) (by omega)) hE hW G B,Abh (Lx qg) (V.is hqP) (B.le (by omega)),zd,decide_eq_true hb]
  ·rw[decide_eq_false L,Als];rfl
 ·rw[decide_eq_false I];rfl
def Ab7{K:Bool->O R}{u:UnitD}{E W:RatD}{e A:Rat}{q r C I:Int}(B:H5 u 24=true)(ha:u.away.l.length<=1)(hE:E.is e 100)(hW:W.is A 100)(G:fit 1000000 N)
  {f a b l c dd s t ut v:Bool} {n1 n2 n3 n4:List Nat} (eE:E.av=[.bool f,.imm (Ac n1) n1.length 1 false a,.imm (Ac n2) n2.length 1 false b]) (eW:W.av=[.bool l,.imm (Ac n3) n3.length 1 false c,.imm (Ac n4) n4.length 1 false dd]) :
  D5 N K q r f (Ac n1) n1.length s a (Ac n2) n2.length t b l (Ac n3) n3.length ut c (Ac n4) n4.length v dd u.av C I=K true:=by
 have hN:100001000<=N:=by have:=G.1;omega
 have hm:=Rq B;have hs:=Jm B;have hr:=LG B
 unfold D5 Jj
 rw[<-eE,<-eW,iJ,ct,RE]
 refine Abu B ha hE hW G (fun h7=>?_) fun T d Y=>?_
 ·rw[show((beq 0 0)&&((beq (List.length Abf.av) 3)&&(beq 3 3)))=true from rfl,ct,u2,u3,wG,VO,ey,decide_eq_false (show ¬ Xx C u.min<=V_ I u.max by omega)]
  show Cz N K q r 0 0 7 f (Ac n1) n1.length s a (Ac n2) n2.length t b l (Ac n3) n3.length ut c (Ac n4) n4.length v dd u.av Abf.av (Xx C u.min) (V_ I u.max)=K true
  unfold Cz Fe
  rw[show((7:Int) != 0)=true from rfl,ct,show(((0:Int)==0)==true)=true from rfl,ct,show((cond true ((0:Int)==0) false)==true)=true from rfl,ct,b3,ct,LF,cO (p9 (m:=0)).1 (G.le (by have:=(p9 (m:=0)).2.2;omega)),(p9 (m:=0)).2.1]
  rfl
 ·rw[c3,ct,u2,u3,wG,VO,ey,decide_eq_true T]
  have V:u.min<=Xx C u.min:=by unfold Xx;split<;>omega
  have b2:V_ I u.max<=u.max:=by unfold V_;split<;>omega
  generalize Xx C u.min=lo at *
  generalize V_ I u.max=hi at *
  have up:=Acv B
  have D:=Acr (e:=e) (w:=A - u.reservePrice) up V T b2 hr.1.1
  have eL:hL u e (A - u.reservePrice) lo hi=RU (sX e (A - u.reservePrice) (cU u) u.reserve lo hi) (NA (Xx u.min (lo - u.reserve)) hi ([lo,hi - u.reserve]++(mo u).map (·.1))):=rfl
  have pk:=(D.pk 0).2.1
  have k:=fun a b a0 C V t0 t1=>Abk D (a:=a) (b:=b) a0 C V t0 t1
  rw[<-eL]at D pk k
  have sp:=Aen (w:=A - u.reservePrice) hr.1.1 T pk.1 pk.2
  generalize RV 0 (hL u e (A - u.reservePrice) lo hi)=p at *
  have L:=zi (w:=A - u.reservePrice) (rs:=u.reserve) (lo:=lo) (hi:=hi) (x:=p)
  generalize jf (A - u.reservePrice) u.reserve lo hi p=y at *
  show Cz N K q r p y 0 f (Ac n1) n1.length s a (Ac n2) n2.length t b l (Ac n3) n3.length ut c (Ac n4) n4.length v dd u.av d.av lo hi=K true
  unfold Cz Fe
  have ip:=qi (v:=p) (by omega);have iy:=qi (v:=y) (by omega)
  have eF:sX e (A - u.reservePrice) (cU u) u.reserve lo hi p=e*p+cU u p+(A - u.reservePrice)*y:=by unfold sX;rw[L]
  rw[eF]at Y k
  have qg:=wF (a:=(p:Rat)) (b:=(y:Rat)) B (by omega) (by omega) hE.qm hW.qm
  rw[show((0:Int) != 0)=false from rfl,cf,u2,decide_eq_false (show ¬ p<u.min by omega),show(false==false)=true from rfl,ct,decide_eq_false (show ¬ y<0 by omega),show((cond false true false)==false)=true from rfl,ct,Ad3,decide_eq_false (show ¬ y>u.reserve by omega),show((cond false true false)==false)=true from rfl,ct,Bi _ (by omega),decide_eq_false (show ¬ p+y<lo by omega),show((cond false true false)==false)=true from rfl,ct,decide_eq_false (show ¬ p+y>hi by omega),show((cond false true false)==false)=true from rfl,ct,b3,ct,iJ,ct,RE,LF,cR (by omega) (by omega),cR (by omega) (by omega),<-eE,<-eW]
  rw[Aai B (Lx (m:=100) (by omega)) (Lx (m:=100) (by omega)) hE hW (Nm sp.1) G,Abh (Y.is qg) (Lx qg) (G.le (by omega))]
  have ez:(Z4 (e*p+cU u p+(A - u.reservePrice)*y) (e*p+cU u p+(A - u.reservePrice)*y) != 0)=false:=by
   have:=zl (p:=e*p+cU u p+(A - u.reservePrice)*y) (q:=e*p+cU u p+(A - u.reservePrice)*y)
   rw[decide_eq_true rfl]at this
   unfold bne;rw[this];rfl
  rw[ez]
  exact Ab6 (s:=s) (t:=t) (ut:=ut) (v:=v) B hE hW G eE eW V T b2 Y qg k
def VY{N:Nat}{K:Bool->O R}(k:fit 1000000 N){l:List Int}{n1 n2 n3 n4:List Nat}(I:Ai n1)(L:Ai n2)(T:Ai n3)(V:Ai n4)(Y:l.length<=9223372036854775807){ag ad ae f s a t b g ut c v dd:Bool}{z aa q r:Int}:
  Jl N (Ap l) l.length ag ad z aa f (Ac n1) n1.length s a (Ac n2) n2.length t b g (Ac n3) n3.length ut c (Ac n4) n4.length v dd q r ae K=K true:=by
 have hN:100001000<=N:=by have:=k.1;omega
 rw[P3];unfold Hw
 by_cases A:l.length<=200
 ·rw[show(decide ((l.length:Int)>200)==false)=true by simp;omega,ct]
  rw[show([.bool f,.imm (Ac n1) n1.length 1 s a,.imm (Ac n2) n2.length 1 t b,.bool g,.imm (Ac n3) n3.length 1 ut c,.imm (Ac n4) n4.length 1 v dd]:LA)=[(⟨f,.of n1 s a,.of n2 t b⟩:RatD),⟨g,.of n3 ut c,.of n4 v dd⟩].flatMap RatD.av from rfl,zk (l:=[(⟨f,.of n1 s a,.of n2 t b⟩:RatD),⟨g,.of n3 ut c,.of n4 v dd⟩]) (n:=2) rfl (by omega)]
  cases hb:Abl [(⟨f,.of n1 s a,.of n2 t b⟩:RatD),⟨g,.of n3 ut c,.of n4 v dd⟩]with
  |false=>rfl
  | true =>
   rw[show(cond false true (!true))=false from rfl,cf]
   have B:(n1.length<=4/\n2.length<=4)/\(n3.length<=4/\n4.length<=4):=by
    have:=hb;simp only[Abl,zj,LS.l,Aji,Ak8,Aho,decide_eq_true_eq]at this
    exact⟨⟨of_decide_eq_true this.2.1.1,of_decide_eq_true this.2.1.2⟩,⟨of_decide_eq_true this.2.2.1.1,of_decide_eq_true this.2.2.1.2⟩⟩
   unfold Ge Jk
   refine uq rfl (by omega) Y fun u H g1 g2 _ C ha=>?_
   have hm:=Rq C
   rw[show((beq 0 0)&&((beq (List.length u.av) 22)&&(beq 22 22)))=true from rfl,ct]
   have key:∀ D G:Int,D5 N K q r f (Ac n1) n1.length s a (Ac n2) n2.length t b g (Ac n3) n3.length ut c (Ac n4) n4.length v dd u.av D G=K true:=fun D G =>
    Ab7 (E:=⟨f,.of n1 false a,.of n2 false b⟩) (W:=⟨g,.of n3 false c,.of n4 false dd⟩) C ha ⟨⟨I,L⟩,rfl,by show max n1.length n2.length<=100;omega⟩ ⟨⟨T,V⟩,rfl,by show max n3.length n4.length<=100;omega⟩ k rfl rfl
   cases ae with
   |false=>exact key z aa
   | true =>
    rw[ct]
    simp only[u2,u3]
    have e1:wrap .i64 ((wrap .i64 (u.max - u.min))+6)=u.max - u.min+6:=by
     rw[Bi (u.max - u.min) (by omega),Bi _ (by omega)]
    rw[e1,Aaz (by omega) (by omega),Aaz (by omega) (by omega)]
    exact key _ _
 ·rw[show(decide ((l.length:Int)>200)==false)=false by simp;omega,cf]
end
end Gx.Uo
namespace Gx
open Go Go.RowKit
def Opens.map{P:Program}{t:TypeId}{α β:Type}{e:α->LA}{n:Nat}(h:Opens P t e n)(e':β->LA)(g:α->β)(k:∀ a,e a=e' (g a))(v:∀ b,(e' b).length=n):Opens P t e' n:=by
 refine⟨h.size,h.pos,v,fun enc W fuel cs d ps A=>?_⟩
 obtain⟨B,a,C⟩:=h.read enc W fuel cs d ps A
 exact⟨B,g a,by rw[<-k];exact C⟩
structure OpensF(P:Program)(fs:List Field)(off:Nat){α:Type}(e:α->List AV)(n:Nat):Prop where
 len:∀ a,(e a).length=n
 read:∀{H:Type}(enc:TypeId×Value->H)(W:World)(fuel:Nat)(cs:List Value),(∀(i:Nat)(f:Field),fs[i]?=some f->∃ d ps,DataW.trod enc P W 0 (fun _=>true) true fuel f.type ((cs.drop f.offset).take (P.cellsOf f.type))=some (d,ps)) ->
  ∃ a,RepCs (fun k=>k<W.heap.size) W (e a) (fun j=>cs[j]?) off
def je{P:Program}{off:Nat}:OpensF P [] off (α:=Unit) (fun _=>[]) 0:=⟨fun _=>rfl,fun _ _ _ _ _=>⟨(),by simp[RepCs]⟩⟩
def Zi{P:Program}{f:Field}{fs:List Field}{off:Nat}{α β:Type}{e:α->LA}{n:Nat}{e':β->LA}{m:Nat}(I:f.offset=off)(k:Opens P f.type e n)(C:OpensF P fs (off+n) e' m):
  OpensF P (f::fs) off (α:=α×β) (fun p=>e p.1++e' p.2) (n+m):=by
 refine⟨fun p=>by rw[Ahy,k.len,C.len],fun enc W fuel cs h=>?_⟩
 obtain⟨d,ps,L⟩:=h 0 f rfl
 obtain⟨V,a,D⟩:=k.read enc W fuel _ _ _ L
 obtain⟨b,G⟩:=C.read enc W fuel cs fun i g T=>h (i+1) g (by simpa using T)
 refine⟨(a,b),?_⟩
 rw[Bn]at D G ⊢
 intro j x B
 by_cases A:j<n
 ·rw[Ala (by rw[k.len];exact A)]at B
  obtain⟨u,v,hr⟩:=D j x B
  refine⟨u,?_,hr⟩
  simp only[Ah0]at v
  rw[k.size,Ale A,Ain,I]at v
  exact v
 ·rw[Ak3 (by rw[k.len];omega),k.len]at B
  obtain⟨u,v,hr⟩:=G (j - n) x B
  refine⟨u,?_,hr⟩
  rw[show off+n+(j - n)=off+j by omega]at v
  exact v
def VZ{P:Program}{t:TypeId}{fs:Array Field}{α:Type}{e:α->LA}{n:Nat}(C:P.underlying t=some (.struct fs))(A:P.cellsOf t=n)(hn:0<n)(h:OpensF P fs.toList 0 e n):Opens P t e n:=by
 refine⟨A,hn,h.len,fun enc W fuel cs d ps D=>?_⟩
 obtain⟨xs,g,_,_,G,k,I⟩:=DataW.trod_struct C D
 refine⟨by rw[G,A],?_⟩
 exact h.read enc W g cs fun i f hi=>by
  have B:fs[i]?=some f:=by simpa using hi
  have:=I i f B
  have v:i<xs.length:=by
   rw[k];exact(Aja.1 B).1
  rw[Ahk v]at this
  exact⟨_,_,this⟩
end Gx
namespace Gx
open Go Go.RowKit
section
variable{P:Program}{W:World}{H:Type}{enc:TypeId×Value->H}{β:Bx}{h:Aw}
def PM{t:TypeId}{fs:Array Field}{k:Nat}{r:Reach}{v:Value}(A:P.underlying t=some (.struct fs))(h:Value.okWide P W r k t v):∃ cs,v=.agg cs:=by
 unfold Value.okWide at h
 rw[A]at h
 obtain⟨cs,h,_⟩:=h
 exact⟨cs,h⟩
def Aak{J:Nat->Prop}:∀{x:AV}{u:Value},RepC J W x u->Rep (fun _=>J) β h W x u
|.int ..,_,h=>by rw[Rep];rw[RepC]at h;exact h
|.bool _,_,h=>by rw[Rep];rw[RepC]at h;exact h
|.str _,_,h=>by rw[Rep];rw[RepC]at h;exact h
|.nsl,_,h=>by rw[Rep];rw[RepC]at h;exact h
|.imm ..,_,h=>by rw[Rep];exact h
|.iptr ..,_,h=>by rw[Rep];exact h
|.nilptr,_,h=>by rw[Rep];rw[RepC]at h;exact h
|.nilfn,_,h=>by rw[Rep];rw[RepC]at h;exact h
|.fn f [],_,h=>by
  rw[Rep];rw[RepC]at h
  exact⟨[],by simpa using h,by rw[Reps]⟩
|.fn _ (_::_),_,h=>by simp[RepC]at h
|.pagg ..,_,h=>by simp[RepC]at h
|.agg _,_,h=>by simp[RepC]at h
|.tup _,_,h=>by simp[RepC]at h
|.own ..,_,h=>by simp[RepC]at h
|.omap _,_,h=>by simp[RepC]at h
|.optr ..,_,h=>by simp[RepC]at h
|.undef,_,h=>by simp[RepC]at h
def wH{J:Nat->Prop}:∀{c:LA}{cs:List Value}{rd:Nat->Option Value}{i:Nat},cs.length=c.length->(∀ j,cs[j]?=rd (i+j))->RepCs J W c rd i->Reps (fun _=>J) β h W c cs
|[],cs,_,_,k,_,_=>by rw[Reps];simpa using k
|x::r,[],_,_,k,_,_=>by simp at k
|x::r,u::us,rd,i,k,hr,A=>by
  rw[RepCs]at A
  obtain⟨⟨D,v,C⟩,A⟩:=A
  have B:=hr 0
  simp only[List.getElem?_cons_zero,Aiq]at B
  rw[<-B]at v
  cases v
  rw[Reps]
  refine⟨u,us,rfl,Aak C,wH (by simpa using k) (fun j=>?_) A⟩
  have:=hr (j+1)
  rw[List.getElem?_cons_succ]at this
  rw[this];congr 1;omega
def Ab8{c:LA}{v:Value}(hr:Rep (fun _ k=>k<W.heap.size) β h W (.pagg c false) v):Rep (fun _ k=>k<W.heap.size) β h W (.agg c) v:=by
 rw[Rep]at hr
 obtain⟨cs,A,B,C⟩:=hr
 rw[Rep]
 exact⟨cs,A,wH B (fun j=>by rw[Ah0]) C⟩
end
end Gx
namespace Gx
open Go Go.Proofs Go.RowKit
def Ae2{W:World}:GlobOk (fun _ k=>k<W.heap.size) W:=⟨(fun _ v=>by cases v),(fun _ A=>by cases A)⟩
def sj{p:Int->Prop}:∀ m:List {n:Int // p n},m.flatMap (fun n=>[AV.int .i64 n.1])=Ap (m.map (·.1))
|[]=>rfl
|a::r=>by rw[Aie,sj r];rfl
def Aal{n:Int}(h:(Lit.int .u32 n).wf=true):0<=n/\n<4294967296:=by simp only[Lit.wf,Aho,decide_eq_true_eq,show IntKind.u32.min=0 from rfl,show IntKind.u32.max=4294967295 from rfl]at h;omega
section
variable{W:World}{H:Type}{enc:TypeId×Value->H}{β:Bx}{h:Aw}
def ur:Opens Tryz.prog 129 (α:={n:Nat // n<4294967296}) (fun n=>[.int .u32 (n.1:Int)]) 1:=(l_ Tryz.underlying129 (by kernel_rfl)).map _ (fun n=>⟨n.1.toNat,by have:=Aal n.2;omega⟩) (fun n=>by have:=Aal n.2;simp;omega) (fun _=>rfl)
def nH:∀ l:List {n:Nat // n<4294967296},l.flatMap (fun n=>[AV.int .u32 (n.1:Int)])=Ac (l.map (·.1))
|[]=>rfl
|a::r=>by rw[Aie,nH r];rfl
def dJ:Opens Tryz.prog 32 (α:={l:List Nat // Ai l}) (fun l=>[.imm (Ac l.1) l.1.length 1 false false]) 1:=(aX Tryz.underlying32 (by kernel_rfl) ur).map _ (fun l=>⟨l.1.map (·.1),fun x k=>by obtain⟨y,_,rfl⟩:=Aio.1 k;exact y.2⟩) (fun l=>by show [AV.imm (l.1.flatMap fun n=>[AV.int .u32 (n.1:Int)]) l.1.length 1 false false]=[AV.imm (Ac (l.1.map (·.1))) (l.1.map (·.1)).length 1 false false];rw[nH,Ajx]) (fun _=>rfl)
def sk{v:Value}{d:DataW H}{p:List MemPlace}(A:∃ cs,v=.agg cs)(B:DataW.Trod enc Tryz.prog W 0 (fun _=>true) true 36 v d p):
  ∃(neg:Bool)(l1 l2:List Nat),Ai l1/\Ai l2/\Rep (fun _ k=>k<W.heap.size) β h W (.agg [.bool neg,.imm (Ac l1) l1.length 1 false false,.imm (Ac l2) l2.length 1 false false]) v:=by
 obtain⟨cs,rfl⟩:=A
 obtain⟨⟨⟨n,l1,D⟩,⟨l2,C⟩,_⟩,hr⟩:=yw (β:=β) (h:=h) (VZ Tryz.underlying36 (by kernel_rfl) (by decide) (Zi rfl (VZ Tryz.underlying34 (by kernel_rfl) (by decide) (Zi rfl (t8 Tryz.underlying4 (by kernel_rfl)) (Zi rfl dJ je)))
  (Zi rfl dJ je))) B
 exact⟨n,l1.1,l2,l1.2,C,Ab8 hr⟩
end
end Gx
