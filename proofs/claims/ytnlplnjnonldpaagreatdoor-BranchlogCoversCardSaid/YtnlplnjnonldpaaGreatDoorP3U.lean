/- A part of the proof; each theorem says what it holds. -/
import Derived.Test.YtnlplnjnonldpaaGreatDoorP2U
set_option linter.unusedVariables false
set_option linter.defProp false
set_option linter.unusedSimpArgs false
open Nat (ble beq)
open List (take drop replicate)
open Go.IntKind (wrap)
namespace Gx.Cf
open Go Go.Proofs
section
variable {R:Type}
def A8:Ca→Int
 | none=>0
 | some x=>x.2.1
theorem Fb {c:CaseD} {f:Int→O R}:Ao .i64 c.av f=f c.hours:=by simp[CaseD.av,Aw]
theorem wx {c:CaseD} {f:LA→Nat→O R}:Ba 1 (drop 1 c.av) f=f (Ah c.reserve.l) c.reserve.l.length:=by simp[CaseD.av,Cy,C6]
theorem Ly {c:CaseD} {f:LA→Nat→O R}:Ba 3 (drop 2 c.av) f=f (c.buses.l.flatMap BusD.av) c.buses.l.length:=by simp[CaseD.av,Cy]
theorem Il {c:CaseD} {f:LA→Nat→O R}:Ba 12 (drop 3 c.av) f=f (c.lines.l.flatMap LineD.av) c.lines.l.length:=by simp[CaseD.av,Cy]
theorem Cu {c:CaseD} {f:LA→Nat→O R}:Ba 22 (drop 4 c.av) f=f (c.units.l.flatMap UnitD.av) c.units.l.length:=by simp[CaseD.av,Cy]
theorem We {c:CaseD} {f:LA→Nat→O R}:Ba 9 (drop 5 c.av) f=f (c.stores.l.flatMap StoreD.av) c.stores.l.length:=by simp[CaseD.av,Cy]
theorem NR {c:CaseD} {f:LA→Nat→O R}:Ba 5 (drop 6 c.av) f=f (c.ties.l.flatMap TieD.av) c.ties.l.length:=by simp[CaseD.av,Cy]
theorem Ms {c:CaseD} {f:LA→Nat→O R}:Ba 4 (drop 7 c.av) f=f (c.outs.l.flatMap OutD.av) c.outs.l.length:=by simp[CaseD.av,Cy]
def Cn (p:Ca):LA:=CN p 0 0
theorem Ae {N:Nat} {p:Ca} {k i f e:Int} {ok:Bool} {K:LA→O R} (q:e≠0) :
  Aa N ok k i f e (Cn p) K=K (Cn (nd p ok (k,i,f) ⟨e,q⟩)):=by
 rw[Tm];unfold Kp H8
 rcases p with _ | ⟨⟨a,b,u⟩,s,j⟩
 ·cases ok<;>simp[Cn,CN,Aw,nd,Bv,Dd]
 ·have:(s==0)=false:=by simpa using j
  simp[Cn,CN,Aw,nd,this]
def QF (h:Int) (l:List Int) (lo hi:Int) (w:Int×Int×Int) (p:Ca):Ca:=nd (nd p ((l.length:Int)==h) w ⟨4,by decide⟩) (l.all (D2 lo hi)) w ⟨3,by decide⟩
def LU (h:Int) (l:List Int) (w:Int×Int×Int) (p:Ca):Ca:=nd (nd p (l.all (D2 0 (wrap .i64 (h - 1)))) w ⟨3,by decide⟩) (CP l) w ⟨11,by decide⟩
theorem Di {N:Nat} {c:CaseD} {p:Ca} {k i f lo hi:Int} {l:List Int} {n:Nat} {t o o1:Bool} {K:LA→O R} (hn:n=l.length) (hs:D8 l.length N) :
  Cp N c.av o1 (Ah l) n t o lo hi k i f (Cn p) K=K (Cn (QF c.hours l lo hi (k,i,f) p)):=by
 rw[Pu];unfold M0
 rw[Fb,Ae (by decide),F5 hn hs,Ae (by decide),hn];rfl
theorem Qk {N:Nat} {c:CaseD} {p:Ca} {k i f:Int} {l:List Int} {n:Nat} {t o o1:Bool} {K:LA→O R} (hn:n=l.length) (hs:D8 l.length N) :
  Ih N c.av o1 (Ah l) n t o k i f (Cn p) K=K (Cn (LU c.hours l (k,i,f) p)):=by
 rw[Tp];unfold Pw
 rw[Fb,F5 hn hs,Ae (by decide),Uc hn hs,Ae (by decide)];rfl
def HU (c:CaseD) (b:Int):Bool:=decide (0≤b)&&decide (b<(c.buses.l.length:Int))
theorem wy (n:Nat) (b:Int) (h:n<4611686018427387904):D2 0 (wrap .i64 ((n:Int) - 1)) b=(decide (0≤b)&&decide (b<(n:Int))):=by
 rw[Np _ (by omega),D2]
 congr 1
 simp;omega
theorem Ho {N:Nat} {c:CaseD} {p:Ca} {k i f b:Int} {o1:Bool} {K:LA→O R} (hN:8≤N) (e:c.buses.l.length<4611686018427387904) :
  D5 N c.av o1 b k i f (Cn p) K=K (Cn (nd p (HU c b) (k,i,f) ⟨12,by decide⟩)):=by
 rw[Ul];unfold Re
 rw[Ly,Dc hN,wy _ _ e,Ae (by decide)];rfl
def G4 (f:FracD):Bool:=D2 1 1048576 f.den&&D2 (-1048576) 1048576 f.num
theorem Zm {N:Nat} {f:FracD} {o:Bool} {K:Bool→O R} (hN:8≤N):Jf N [.int .i64 f.num,.int .i64 f.den] o K=K (G4 f):=by
 rw[BZ];unfold Z7
 simp only[Alc,Ak7,Aw,Dc hN]
 unfold G4
 cases D2 1 1048576 f.den<;>simp
def aU (c:UInt8):Bool:=decide (97≤c.toNat)&&decide (c.toNat≤122)
def Abw (c:UInt8):Bool:=aU c||(decide (48≤c.toNat)&&decide (c.toNat≤57))||decide (c.toNat=95)
def Jv (s:Lu):Bool:=decide (1≤s.length)&&(decide (s.length≤16)&&(!(s==[99,111,114,114,101,99,116,105,118,101])&&(aU (s.getD 0 0)&&s.all Abw)))
theorem rP {s:Lu} {j:Nat} (h:j<s.length):List.getD s (Int.toNat (j:Int)) 0=s[j]:=by
 rw[Aku,Ak5,Aky h];rfl
theorem QG {N:Nat} {s:Lu} {K:Bool→O R} (hs:s.length<4611686018427387904):∀ (m j fuel:Nat),j+m=s.length→m<fuel →
  Lk N K s fuel (j:Int)=K ((decide (j≠0)||(decide (s.length=0)||aU (s.getD 0 0)))&&(s.drop j).all Abw)
 | 0,j,fuel+1,y,_=>by
  rw[Lk];unfold Vs
  rw[G3 (by omega),cf,Bn (by omega)]
  by_cases h:j=0
  ·have:s.length=0:=by omega
   simp[this]
  ·simp[h]
 | m+1,j,fuel+1,y,F=>by
  rw[Lk];unfold Vs Y0
  have h:j<s.length:=by omega
  rw[F7 h,ct,Ac h,ct,Bf (by omega),QG hs m (j+1) fuel (by omega) (by omega),Bb h,Ale,rP h]
  have z:j=0→s.getD 0 0=s[j]:=fun e=>by
   have:=rP h;rw[←this,e];rfl
  unfold Abw aU
  by_cases b:j=0
  ·rw[z b]
   have k:decide (s.length=0)=false:=decide_eq_false (by omega)
   have e:((j:Int)==0)=true:=by simp;omega
   simp only[ct,b,ne_eq,not_true_eq_false,decide_false,Am1,k,Akz,show decide (¬ (1=0))=true by decide,Amo,Anb]
   simp only[b] at *
   generalize s[0].toNat=v
   by_cases q:97≤v<;>by_cases u:v≤122<;>simp[q,u,show((97:Int)≤v)↔97≤v by omega,show((v:Int)≤122)↔v≤122 by omega]
  ·have e:((j:Int)==0)=false:=by simp;omega
   simp only[ct,e,b,ne_eq,not_false_eq_true,decide_true,Amo,Anb,show decide (¬ (j+1=0))=true by simp]
   generalize s[j].toNat=v
   generalize (s.drop (j+1)).all _=r
   by_cases q:97≤v<;>by_cases u:v≤122<;>by_cases A:48≤v<;>by_cases C:v≤57<;>by_cases D:v=95 <;>
    simp[q,u,A,C,show((97:Int)≤v)↔97≤v by omega,show((v:Int)≤122)↔v≤122 by omega,show((v:Int)<48)↔¬ 48≤v by omega,show((57:Int)<v)↔¬ v≤57 by omega,show((v:Int) != 95)=!decide (v=95) by (by_cases v=95<;>simp_all<;>omega),D]
theorem nT {N:Nat} {s:Lu} {K:Bool→O R} (hN:64≤N):KW N s K=K (Jv s):=by
 rw[VU];unfold NG Y1 E_
 unfold Jv
 by_cases b:1≤s.length
 ·by_cases e:s.length≤16
  ·have j:=QG (R:=R) (N:=N) (s:=s) (K:=K) (by omega) s.length 0 N (by omega) (by omega)
   simp only[Ak7,Alw] at j
   rw[j]
   simp only[b,e,show(decide ((s.length:Int)<1))=false by simp;omega,show(decide ((s.length:Int)>16))=false by simp;omega,decide_true,cond_true,cond_false,beq_self_eq_true]
   have:s.length≠0:=by omega
   cases s==[99,111,114,114,101,99,116,105,118,101]<;>simp[this]
  ·simp[b,e,show((s.length:Int)<1)↔¬ 1≤s.length by omega,show((16:Int)<s.length)↔¬ s.length≤16 by omega]
 ·simp[b,show((s.length:Int)<1)↔¬ 1≤s.length by omega]
def H6 (names:List Lu) (k i:Int) (s:Lu) (p:Ca):Ca:=nd (nd p (Jv s) (k,i,0) ⟨9,by decide⟩) (names.all fun x=>!(x==s)) (k,i,0) ⟨10,by decide⟩
theorem Lz (a:BusD):a.av.length=3:=rfl
theorem B7 (a:LineD):a.av.length=12:=rfl
theorem Ff (a:UnitD):a.av.length=22:=rfl
theorem Er (a:StoreD):a.av.length=9:=rfl
theorem Im (a:TieD):a.av.length=5:=rfl
theorem Cb (a:OutD):a.av.length=4:=rfl
structure Small (c:CaseD) (N:Nat):Prop where
 n64:64≤N
 res:D8 c.reserve.l.length N
 bus:D8 c.buses.l.length N
 lin:D8 c.lines.l.length N
 uni:D8 c.units.l.length N
 sto:D8 c.stores.l.length N
 tie:D8 c.ties.l.length N
 out:D8 c.outs.l.length N
 dem:∀ b ∈ c.buses.l,D8 b.demand.l.length N
 law:∀ b ∈ c.lines.l,D8 b.away.l.length N
 seg:∀ b ∈ c.units.l,D8 b.segs.l.length N
 uaw:∀ b ∈ c.units.l,D8 b.away.l.length N
 tim:∀ b ∈ c.ties.l,D8 b.imp.l.length N
 tex:∀ b ∈ c.ties.l,D8 b.exp.l.length N
 tpr:∀ b ∈ c.ties.l,D8 b.price.l.length N
 oli:∀ b ∈ c.outs.l,D8 b.lines.l.length N
 omo:∀ b ∈ c.outs.l,D8 b.moves.l.length N
 omb:∀ b ∈ c.outs.l,b.moves.l.length<8796093022208
 top:c.buses.l.length≤1000000∧c.lines.l.length≤1000000∧c.units.l.length≤1000000∧c.stores.l.length≤1000000∧c.ties.l.length≤1000000∧c.outs.l.length≤1000000
def A6 {α:Type} (f:Nat→α→Ca→Ca):List α→Nat→Ca→Ca
 | [],_,p=>p
 | a::r,j,p=>A6 f r (j+1) (f j a p)
theorem A4 {α:Type} {f:Nat→α→Ca→Ca} {x:(Int×Int×Int)×{ e:Int // e≠0 }} (b:∀ j a,f j a (some x)=some x):∀ (l:List α) (j:Nat),A6 f l j (some x)=some x
 | [],_=>rfl
 | a::r,j=>by rw[A6,b];exact A4 b r (j+1)
abbrev e1:{ e:Int // e≠0 }:=⟨1,by decide⟩
abbrev e3:{ e:Int // e≠0 }:=⟨3,by decide⟩
abbrev e4:{ e:Int // e≠0 }:=⟨4,by decide⟩
abbrev e8:{ e:Int // e≠0 }:=⟨8,by decide⟩
abbrev zP:{ e:Int // e≠0 }:=⟨11,by decide⟩
abbrev uq:{ e:Int // e≠0 }:=⟨12,by decide⟩
abbrev Akq:{ e:Int // e≠0 }:=⟨13,by decide⟩
abbrev Ah8:{ e:Int // e≠0 }:=⟨16,by decide⟩
def LV (c:CaseD) (p:Ca):Ca :=
 let p:=nd p (D2 1 24 c.hours) (0,0,0) e3
 let p:=QF c.hours c.reserve.l 0 1048576 (0,0,1) p
 let p:=nd p (D2 1 32 (c.buses.l.length:Int)) (0,0,2) e8
 let p:=nd p (decide ((c.lines.l.length:Int)≤64)) (0,0,3) e8
 let p:=nd p (decide ((c.units.l.length:Int)≤16)) (0,0,4) e8
 let p:=nd p (decide ((c.stores.l.length:Int)≤8)) (0,0,5) e8
 let p:=nd p (decide ((c.ties.l.length:Int)≤8)) (0,0,6) e8
 nd p (decide ((c.outs.l.length:Int)≤64)) (0,0,7) e8
def nU (c:CaseD) (j:Nat) (b:BusD) (p:Ca):Ca :=
 let p:=H6 ((c.buses.l.map (·.name)).take j) 1 j b.name p
 let p:=QF c.hours b.demand.l 0 1048576 (1,j,1) p
 nd p (D2 0 1048576 b.shed) (1,j,2) e3
def CQ (c:CaseD) (j:Nat) (x:LineD) (p:Ca):Ca :=
 let p:=H6 ((c.lines.l.map (·.name)).take j) 2 j x.name p
 let p:=nd p (HU c x.fr) (2,j,1) uq
 let p:=nd p (HU c x.tl) (2,j,2) uq
 let p:=nd p (x.tl != x.fr) (2,j,2) e1
 let p:=nd p (G4 x.re&&decide (x.re.num>0)) (2,j,3) e3
 let p:=nd p (G4 x.smin&&decide (x.smin.num≤0)) (2,j,4) e3
 let p:=nd p (G4 x.smax&&decide (x.smax.num≥0)) (2,j,5) e3
 let p:=nd p (D2 0 1048576 x.limit) (2,j,6) e3
 let p:=nd p (D2 x.limit 1048576 x.emer) (2,j,7) e3
 LU c.hours x.away.l (2,j,8) p
def Ud (c:CaseD) (j:Nat) (x:StoreD) (p:Ca):Ca :=
 let p:=H6 ((c.stores.l.map (·.name)).take j) 4 j x.name p
 let p:=nd p (HU c x.bus) (4,j,1) uq
 let p:=nd p (D2 0 1048576 x.capacity) (4,j,2) e3
 let p:=nd p (D2 0 x.capacity x.initial) (4,j,3) e3
 let p:=nd p (D2 0 x.capacity x.final) (4,j,4) e3
 let p:=nd p (D2 0 1048576 x.charge) (4,j,5) e3
 let p:=nd p (D2 0 1048576 x.discharge) (4,j,6) e3
 nd p (G4 x.eff&&(decide (x.eff.num>0)&&decide (x.eff.num≤x.eff.den))) (4,j,7) e3
def nV (c:CaseD) (j:Nat) (x:TieD) (p:Ca):Ca :=
 let p:=H6 ((c.ties.l.map (·.name)).take j) 5 j x.name p
 let p:=nd p (HU c x.bus) (5,j,1) uq
 let p:=QF c.hours x.imp.l 0 1048576 (5,j,2) p
 let p:=QF c.hours x.exp.l 0 1048576 (5,j,3) p
 QF c.hours x.price.l (-1048576) 1048576 (5,j,4) p
theorem L0 (a:SegD):a.av.length=2:=rfl
theorem Dj (a:MoveD):a.av.length=3:=rfl
def dw (s:SegD):Bool:=D2 1 1048576 s.width&&D2 (-1048576) 1048576 s.price
def II (a:Int):List SegD→Int
 | []=>a
 | s::r=>II (wrap .i64 (a+s.width)) r
def LW:List SegD→Bool
 | a::b::r=>decide (b.price≥a.price)&&LW (b::r)
 | _=>true
theorem Xo (a b:SegD) (r:List SegD):LW (a::b::r)=(decide (b.price≥a.price)&&LW (b::r)):=by rw[LW]
theorem XB (a:SegD):LW [a]=true:=by rw[LW];intros;simp_all
theorem ki:LW []=true:=by rw[LW];intros;simp_all
def rQ (u:UnitD) (j:Nat) (p:Ca):Ca :=
 let p:=nd p (decide ((u.segs.l.length:Int)≤8)) (3,j,4) e8
 let p:=nd p (u.segs.l.all dw) (3,j,4) e3
 let p:=nd p (LW u.segs.l) (3,j,4) zP
 nd p (II 0 u.segs.l==wrap .i64 (u.max - u.min)) (3,j,4) e4
theorem AI {u:UnitD} {f:LA→Nat→O R}:Ba 2 (drop 4 u.av) f=f (u.segs.l.flatMap SegD.av) u.segs.l.length:=by simp[UnitD.av,Cy]
theorem xz {u:UnitD} {f:Int→O R}:Ao .i64 (drop 3 u.av) f=f u.max:=by simp[UnitD.av,Aw]
theorem yA {u:UnitD} {f:Int→O R}:Ao .i64 (drop 2 u.av) f=f u.min:=by simp[UnitD.av,Aw]
theorem NS {l:List SegD} {j:Nat} (h:j<l.length) {f:Int→O R}:Ao .i64 (drop 1 (drop ((Int.toNat (j:Int))*2) (l.flatMap SegD.av))) f=f l[j].price:=by
 rw[Aku,Ar L0 _ _ h];simp[SegD.av,Aw]
theorem zQ {l:List SegD} {j:Nat} (h:j<l.length) {f:Int→O R}:Ao .i64 (drop ((Int.toNat (j:Int))*2) (l.flatMap SegD.av)) f=f l[j].width:=by
 rw[Aku,Ar L0 _ _ h];simp[SegD.av,Aw]
def HW (c:CaseD) (j:Nat) (u:UnitD) (p:Ca):Ca :=
 let p:=H6 ((c.units.l.map (·.name)).take j) 3 j u.name p
 let p:=nd p (HU c u.bus) (3,j,1) uq
 let p:=nd p (D2 0 1048576 u.min) (3,j,2) e3
 let p:=nd p (D2 u.min 1048576 u.max) (3,j,3) e3
 let p:=rQ u j p
 let p:=nd p (D2 0 1048576 u.noLoad) (3,j,5) e3
 let p:=nd p (D2 0 1048576 u.rampUp) (3,j,6) e3
 let p:=nd p (D2 0 1048576 u.rampDown) (3,j,7) e3
 let p:=nd p (D2 u.min u.max u.startRamp) (3,j,8) e3
 let p:=nd p (D2 u.min u.max u.stopRamp) (3,j,9) e3
 let p:=nd p (D2 0 24 u.upTime) (3,j,10) e3
 let p:=nd p (D2 0 24 u.downTime) (3,j,11) e3
 let p:=nd p (D2 0 24 u.startTime) (3,j,12) e3
 let p:=nd p (D2 0 1048576 u.hotCost) (3,j,13) e3
 let p:=nd p (D2 0 1048576 u.coldCost) (3,j,14) e3
 let p:=nd p (D2 0 24 u.hotHours) (3,j,15) e3
 let p:=nd p (D2 0 1048576 u.reserve) (3,j,16) e3
 let p:=nd p (D2 0 1048576 u.reservePrice) (3,j,17) e3
 let p:=LU c.hours u.away.l (3,j,18) p
 let p:=nd p (D2 0 2 u.state) (3,j,19) uq
 let p:=nd p (u.state != 1||u.startTime != 0) (3,j,19) Ah8
 let p:=nd p (D2 1 48 u.hours) (3,j,20) e3
 let p:=nd p (u.state != 1||decide (u.hours≤u.startTime)) (3,j,20) e3
 cond (u.state==2) (nd p (D2 u.min u.max u.output) (3,j,21) e3) (nd p (D2 0 0 u.output) (3,j,21) e3)
def uF (c:CaseD) (m:MoveD):Bool:=decide (0≤m.unit)&&decide (m.unit<(c.units.l.length:Int))
def nW (m:MoveD):Bool:=D2 0 1048576 m.up&&D2 0 1048576 m.down
def RW (c:CaseD) (o:OutD) (j:Nat) (p:Ca):Ca :=
 let p:=nd p ((o.moves.l.length:Int)==0||o.corr) (6,j,3) Ah8
 let p:=nd p (decide ((o.moves.l.length:Int)≤16)) (6,j,3) e8
 let p:=nd p (o.moves.l.all (uF c)) (6,j,3) uq
 let p:=nd p (CP (o.moves.l.map (·.unit))) (6,j,3) zP
 nd p (o.moves.l.all nW) (6,j,3) e3
theorem gK {u:OutD} {f:LA→Nat→O R}:Ba 3 (drop 3 u.av) f=f (u.moves.l.flatMap MoveD.av) u.moves.l.length:=by simp[OutD.av,Cy]
theorem Abx {u:OutD} {f:Bool→O R}:SK (drop 2 u.av) f=f u.corr:=by simp[OutD.av,Abv]
def RX (c:CaseD) (j:Nat) (x:OutD) (p:Ca):Ca :=
 let p:=H6 ((c.outs.l.map (·.name)).take j) 6 j x.name p
 let p:=nd p ((x.lines.l.length:Int)==1||(x.lines.l.length:Int)==2) (6,j,1) e4
 let p:=nd p (x.lines.l.all fun n=>decide (0≤n)&&decide (n<(c.lines.l.length:Int))) (6,j,1) uq
 let p:=nd p (CP x.lines.l) (6,j,1) zP
 RW c x j p
theorem Kg {c:CaseD} {j:Nat} {x:OutD} {y:(Int×Int×Int)×{ e:Int // e≠0 }}:RX c j x (some y)=some y:=rfl
theorem XC {u:OutD} {f:LA→Nat→O R}:Ba 1 (drop 1 u.av) f=f (Ah u.lines.l) u.lines.l.length:=by simp[OutD.av,Cy,C6]
def F6 (l:List Lu):LA:=l.map fun s=>.str s
theorem O3 (l:List Lu):(F6 l).length=l.length:=by simp[F6]
theorem kj {l:List Lu} {i:Nat} (h:i<l.length) {f:Lu→O R}:O' (drop i (F6 l)) f=f l[i]:=by
 rw[F6,Aln (by simpa using h)];simp[Dh]
theorem Be {c:CaseD}:take 8 c.av=c.av:=rfl
theorem Cc {c:CaseD}:ble 8 (List.length c.av)=true:=rfl
theorem CS {N:Nat} {c:CaseD} {o:Bool} {K:Nat→LA→O R} (e:c.buses.l.length≤1000000):∀ (m j fuel:Nat),j+m=c.buses.l.length→m<fuel →
  I7 N K o c.av fuel j (j:Int) (F6 ((c.buses.l.take j).map (·.name)))=K c.buses.l.length (F6 (c.buses.l.map (·.name)))
 | 0,j,fuel+1,k,_=>by
  rw[I7];unfold Sh
  have b:j=c.buses.l.length:=by omega
  rw[Ly,G3 (by omega),cf,Akt (by omega),b]
 | m+1,j,fuel+1,k,v=>by
  rw[I7];unfold Sh
  have h:j<c.buses.l.length:=by omega
  have q:(ble (j+1) 140737488355328&&ble ((j+1)*16) 140737488355328)=true:=by rw[Bv,Bv];simp;omega
  have s:take (j*1) (F6 ((c.buses.l.take j).map (·.name)))++[.str c.buses.l[j].name]=F6 ((c.buses.l.take (j+1)).map (·.name)):=by
   rw[Akt (by simp[O3];omega),Ala h,Al6];simp[F6]
  have u:∀ f:Lu→O R,O' (drop (j*3) (List.flatMap BusD.av c.buses.l)) f=f c.buses.l[j].name:=fun f=>by rw[Ar Lz _ _ h];simp[BusD.av,Dh]
  rw[Ly,F7 h,ct,Ly,Ac h,ct,Aku,u,q,ct,s,Bf (by omega),CS e m (j+1) fuel (by omega) (by omega)]
theorem uG {N:Nat} {c:CaseD} {o:Bool} {K:Nat→LA→O R} (hs:Small c N):G7 N c.av o 1 K=K (c.buses.l.map (·.name)).length (F6 (c.buses.l.map (·.name))):=by
 rw[Hv];unfold Jd
 have:=CS (R:=R) (N:=N) (c:=c) (o:=o) (K:=K) hs.top.1 c.buses.l.length 0 N (by omega) hs.bus.1
 simpa[F6] using this
theorem CT {N:Nat} {c:CaseD} {o:Bool} {K:Nat→LA→O R} (e:c.lines.l.length≤1000000):∀ (m j fuel:Nat),j+m=c.lines.l.length→m<fuel →
  I8 N K o c.av fuel j (j:Int) (F6 ((c.lines.l.take j).map (·.name)))=K c.lines.l.length (F6 (c.lines.l.map (·.name)))
 | 0,j,fuel+1,k,_=>by
  rw[I8];unfold Si
  have b:j=c.lines.l.length:=by omega
  rw[Il,G3 (by omega),cf,Akt (by omega),b]
 | m+1,j,fuel+1,k,v=>by
  rw[I8];unfold Si
  have h:j<c.lines.l.length:=by omega
  have q:(ble (j+1) 140737488355328&&ble ((j+1)*16) 140737488355328)=true:=by rw[Bv,Bv];simp;omega
  have s:take (j*1) (F6 ((c.lines.l.take j).map (·.name)))++[.str c.lines.l[j].name]=F6 ((c.lines.l.take (j+1)).map (·.name)):=by
   rw[Akt (by simp[O3];omega),Ala h,Al6];simp[F6]
  have u:∀ f:Lu→O R,O' (drop (j*12) (List.flatMap LineD.av c.lines.l)) f=f c.lines.l[j].name:=fun f=>by rw[Ar B7 _ _ h];simp[LineD.av,Dh]
  rw[Il,F7 h,ct,Il,Ac h,ct,Aku,u,q,ct,s,Bf (by omega),CT e m (j+1) fuel (by omega) (by omega)]
theorem dx {N:Nat} {c:CaseD} {o:Bool} {K:Nat→LA→O R} (hs:Small c N):G7 N c.av o 2 K=K (c.lines.l.map (·.name)).length (F6 (c.lines.l.map (·.name))):=by
 rw[Hv];unfold Jd
 have:=CT (R:=R) (N:=N) (c:=c) (o:=o) (K:=K) hs.top.2.1 c.lines.l.length 0 N (by omega) hs.lin.1
 simpa[F6] using this
theorem CU {N:Nat} {c:CaseD} {o:Bool} {K:Nat→LA→O R} (e:c.units.l.length≤1000000):∀ (m j fuel:Nat),j+m=c.units.l.length→m<fuel →
  I9 N K o c.av fuel j (j:Int) (F6 ((c.units.l.take j).map (·.name)))=K c.units.l.length (F6 (c.units.l.map (·.name)))
 | 0,j,fuel+1,k,_=>by
  rw[I9];unfold Sj
  have b:j=c.units.l.length:=by omega
  rw[Cu,G3 (by omega),cf,Akt (by omega),b]
 | m+1,j,fuel+1,k,v=>by
  rw[I9];unfold Sj
  have h:j<c.units.l.length:=by omega
  have q:(ble (j+1) 140737488355328&&ble ((j+1)*16) 140737488355328)=true:=by rw[Bv,Bv];simp;omega
  have s:take (j*1) (F6 ((c.units.l.take j).map (·.name)))++[.str c.units.l[j].name]=F6 ((c.units.l.take (j+1)).map (·.name)):=by
   rw[Akt (by simp[O3];omega),Ala h,Al6];simp[F6]
  have u:∀ f:Lu→O R,O' (drop (j*22) (List.flatMap UnitD.av c.units.l)) f=f c.units.l[j].name:=fun f=>by rw[Ar Ff _ _ h];simp[UnitD.av,Dh]
  rw[Cu,F7 h,ct,Cu,Ac h,ct,Aku,u,q,ct,s,Bf (by omega),CU e m (j+1) fuel (by omega) (by omega)]
theorem dy {N:Nat} {c:CaseD} {o:Bool} {K:Nat→LA→O R} (hs:Small c N):G7 N c.av o 3 K=K (c.units.l.map (·.name)).length (F6 (c.units.l.map (·.name))):=by
 rw[Hv];unfold Jd
 have:=CU (R:=R) (N:=N) (c:=c) (o:=o) (K:=K) hs.top.2.2.1 c.units.l.length 0 N (by omega) hs.uni.1
 simpa[F6] using this
theorem Zn {N:Nat} {c:CaseD} {o:Bool} {K:Nat→LA→O R} (e:c.stores.l.length≤1000000):∀ (m j fuel:Nat),j+m=c.stores.l.length→m<fuel →
  Ja N K o c.av fuel j (j:Int) (F6 ((c.stores.l.take j).map (·.name)))=K c.stores.l.length (F6 (c.stores.l.map (·.name)))
 | 0,j,fuel+1,k,_=>by
  rw[Ja];unfold Sk
  have b:j=c.stores.l.length:=by omega
  rw[We,G3 (by omega),cf,Akt (by omega),b]
 | m+1,j,fuel+1,k,v=>by
  rw[Ja];unfold Sk
  have h:j<c.stores.l.length:=by omega
  have q:(ble (j+1) 140737488355328&&ble ((j+1)*16) 140737488355328)=true:=by rw[Bv,Bv];simp;omega
  have s:take (j*1) (F6 ((c.stores.l.take j).map (·.name)))++[.str c.stores.l[j].name]=F6 ((c.stores.l.take (j+1)).map (·.name)):=by
   rw[Akt (by simp[O3];omega),Ala h,Al6];simp[F6]
  have u:∀ f:Lu→O R,O' (drop (j*9) (List.flatMap StoreD.av c.stores.l)) f=f c.stores.l[j].name:=fun f=>by rw[Ar Er _ _ h];simp[StoreD.av,Dh]
  rw[We,F7 h,ct,We,Ac h,ct,Aku,u,q,ct,s,Bf (by omega),Zn e m (j+1) fuel (by omega) (by omega)]
theorem XD {N:Nat} {c:CaseD} {o:Bool} {K:Nat→LA→O R} (hs:Small c N):G7 N c.av o 4 K=K (c.stores.l.map (·.name)).length (F6 (c.stores.l.map (·.name))):=by
 rw[Hv];unfold Jd
 have:=Zn (R:=R) (N:=N) (c:=c) (o:=o) (K:=K) hs.top.2.2.2.1 c.stores.l.length 0 N (by omega) hs.sto.1
 simpa[F6] using this
theorem HX {N:Nat} {c:CaseD} {o:Bool} {K:Nat→LA→O R} (e:c.ties.l.length≤1000000):∀ (m j fuel:Nat),j+m=c.ties.l.length→m<fuel →
  Jb N K o c.av fuel j (j:Int) (F6 ((c.ties.l.take j).map (·.name)))=K c.ties.l.length (F6 (c.ties.l.map (·.name)))
 | 0,j,fuel+1,k,_=>by
  rw[Jb];unfold Sm
  have b:j=c.ties.l.length:=by omega
  rw[NR,G3 (by omega),cf,Akt (by omega),b]
 | m+1,j,fuel+1,k,v=>by
  rw[Jb];unfold Sm
  have h:j<c.ties.l.length:=by omega
  have q:(ble (j+1) 140737488355328&&ble ((j+1)*16) 140737488355328)=true:=by rw[Bv,Bv];simp;omega
  have s:take (j*1) (F6 ((c.ties.l.take j).map (·.name)))++[.str c.ties.l[j].name]=F6 ((c.ties.l.take (j+1)).map (·.name)):=by
   rw[Akt (by simp[O3];omega),Ala h,Al6];simp[F6]
  have u:∀ f:Lu→O R,O' (drop (j*5) (List.flatMap TieD.av c.ties.l)) f=f c.ties.l[j].name:=fun f=>by rw[Ar Im _ _ h];simp[TieD.av,Dh]
  rw[NR,F7 h,ct,NR,Ac h,ct,Aku,u,q,ct,s,Bf (by omega),HX e m (j+1) fuel (by omega) (by omega)]
theorem kp {N:Nat} {c:CaseD} {o:Bool} {K:Nat→LA→O R} (hs:Small c N):G7 N c.av o 5 K=K (c.ties.l.map (·.name)).length (F6 (c.ties.l.map (·.name))):=by
 rw[Hv];unfold Jd
 have:=HX (R:=R) (N:=N) (c:=c) (o:=o) (K:=K) hs.top.2.2.2.2.1 c.ties.l.length 0 N (by omega) hs.tie.1
 simpa[F6] using this
theorem HY {N:Nat} {c:CaseD} {o:Bool} {K:Nat→LA→O R} (e:c.outs.l.length≤1000000):∀ (m j fuel:Nat),j+m=c.outs.l.length→m<fuel →
  Jc N K o c.av fuel j (j:Int) (F6 ((c.outs.l.take j).map (·.name)))=K c.outs.l.length (F6 (c.outs.l.map (·.name)))
 | 0,j,fuel+1,k,_=>by
  rw[Jc];unfold Sn
  have b:j=c.outs.l.length:=by omega
  rw[Ms,G3 (by omega),cf,Akt (by omega),b]
 | m+1,j,fuel+1,k,v=>by
  rw[Jc];unfold Sn
  have h:j<c.outs.l.length:=by omega
  have q:(ble (j+1) 140737488355328&&ble ((j+1)*16) 140737488355328)=true:=by rw[Bv,Bv];simp;omega
  have s:take (j*1) (F6 ((c.outs.l.take j).map (·.name)))++[.str c.outs.l[j].name]=F6 ((c.outs.l.take (j+1)).map (·.name)):=by
   rw[Akt (by simp[O3];omega),Ala h,Al6];simp[F6]
  have u:∀ f:Lu→O R,O' (drop (j*4) (List.flatMap OutD.av c.outs.l)) f=f c.outs.l[j].name:=fun f=>by rw[Ar Cb _ _ h];simp[OutD.av,Dh]
  rw[Ms,F7 h,ct,Ms,Ac h,ct,Aku,u,q,ct,s,Bf (by omega),HY e m (j+1) fuel (by omega) (by omega)]
theorem kq {N:Nat} {c:CaseD} {o:Bool} {K:Nat→LA→O R} (hs:Small c N):G7 N c.av o 6 K=K (c.outs.l.map (·.name)).length (F6 (c.outs.l.map (·.name))):=by
 rw[Hv];unfold Jd
 have:=HY (R:=R) (N:=N) (c:=c) (o:=o) (K:=K) hs.top.2.2.2.2.2 c.outs.l.length 0 N (by omega) hs.out.1
 simpa[F6] using this
theorem Ql {N:Nat} {L:List Lu} {k:Int} {n:Nat} {K:LA→O R} (hn:n<L.length) (hs:n<4611686018427387904):∀ (m j fuel:Nat) (p:Ca),j+m=n→m<fuel →
  Cx N K k (n:Int) L.length (F6 L) fuel (j:Int) (Cn p)=K (Cn (nd p (((L.take n).drop j).all fun x=>!(x==L[n])) (k,n,0) ⟨10,by decide⟩))
 | 0,j,fuel+1,p,b,_=>by
  rw[Cx];unfold Hg
  rw[G3 (by omega),cf,Bn (l:=L.take n) (by simp;omega),Al3,E4]
 | m+1,j,fuel+1,p,b,s=>by
  rw[Cx];unfold Hg
  have h:j<L.length:=by omega
  have q:j<(L.take n).length:=by simp;omega
  rw[F7 (by omega),ct,Ac h,ct,Aku,Akz,Ak6,kj h,Ac hn,ct,Aku,Akz,Ak6,kj hn,Ae (by decide),Bf (by omega),Ql hn hs m (j+1) fuel _ (by omega) (by omega),Bb q,Ale,Mx]
  have e:(L.take n)[j]=L[j]:=by simp
  rw[e]
theorem C7 {N:Nat} {c:CaseD} {L:List Lu} {o:Bool} {p:Ca} {k:Int} {n:Nat} {K:LA→O R} (hN:64≤N) (hL:∀ K:Nat→LA→O R,G7 N c.av o k K=K L.length (F6 L)) (hn:n<L.length) (hs:D8 n N) :
  Cg N c.av o k (n:Int) (Cn p) K=K (Cn (H6 (L.take n) k n L[n] p)):=by
 rw[To];unfold Kq
 rw[Be,Cc,ct,hL,Ac hn,ct,Aku,Akz,Ak6,kj hn,nT hN,Ae (by decide)]
 have:=Ql (R:=R) (N:=N) (L:=L) (k:=k) (n:=n) (K:=K) hn hs.2 n 0 N (nd p (Jv L[n]) (k,n,0) ⟨9,by decide⟩) (by omega) hs.1
 simpa[H6] using this
theorem FW {N fuel:Nat} {c:CaseD} {o:Bool} {p:Ca} {K:LA→O R} (hs:Small c N):Bc N K o c.av (fuel+6) 2 (Cn p)=K (Cn
  (nd (nd (nd (nd (nd p (decide ((c.lines.l.length:Int)≤64)) (0,0,3) e8) (decide ((c.units.l.length:Int)≤16)) (0,0,4) e8) (decide ((c.stores.l.length:Int)≤8)) (0,0,5) e8) (decide ((c.ties.l.length:Int)≤8)) (0,0,6) e8) (decide ((c.outs.l.length:Int)≤64)) (0,0,7) e8)):=by
 have most:∀ (k:Nat) (n:Int) (K:Int→O R),k<7→([0,32,64,16,8,8,64]:List Int)[k]?=some n→Pv N (k:Int) K=K n:=by
  intro k n K b j
  rw[VR];unfold aG
  rw[Ac b,ct]
  have e:[(.int .i64 (0:Int)),(.int .i64 (32:Int)),(.int .i64 (64:Int)),(.int .i64 (16:Int)),(.int .i64 (8:Int)),(.int .i64 (8:Int)),(.int .i64 (64:Int))]=Ah [0,32,64,16,8,8,64]:=rfl
  rw[e,Aku,Akz,Ak6,CM (by simpa using b)]
  rw[Aky (by simpa using b)] at j
  simp only[Alx] at j
  rw[j]
 have m2:∀ K:Int→O R,Pv N 2 K=K 64:=fun K=>most 2 64 K (by omega) rfl
 have m3:∀ K:Int→O R,Pv N 3 K=K 16:=fun K=>most 3 16 K (by omega) rfl
 have m4:∀ K:Int→O R,Pv N 4 K=K 8:=fun K=>most 4 8 K (by omega) rfl
 have m5:∀ K:Int→O R,Pv N 5 K=K 8:=fun K=>most 5 8 K (by omega) rfl
 have m6:∀ K:Int→O R,Pv N 6 K=K 64:=fun K=>most 6 64 K (by omega) rfl
 have q:wrap .i64 (2+1)=3:=rfl
 have w3:wrap .i64 (3+1)=4:=rfl
 have s:wrap .i64 (4+1)=5:=rfl
 have u:wrap .i64 (5+1)=6:=rfl
 have v:wrap .i64 (6+1)=7:=rfl
 rw[Bc];unfold Bu
 rw[show decide ((2:Int)≤6)=true from rfl,ct,Cc,ct,Be,dx hs,m2,Ae (by decide),q]
 rw[Bc];unfold Bu
 rw[show decide ((3:Int)≤6)=true from rfl,ct,Cc,ct,Be,dy hs,m3,Ae (by decide),w3]
 rw[Bc];unfold Bu
 rw[show decide ((4:Int)≤6)=true from rfl,ct,Cc,ct,Be,XD hs,m4,Ae (by decide),s]
 rw[Bc];unfold Bu
 rw[show decide ((5:Int)≤6)=true from rfl,ct,Cc,ct,Be,kp hs,m5,Ae (by decide),u]
 rw[Bc];unfold Bu
 rw[show decide ((6:Int)≤6)=true from rfl,ct,Cc,ct,Be,kq hs,m6,Ae (by decide),v]
 rw[Bc];unfold Bu
 rw[show decide ((7:Int)≤6)=false from rfl,cf]
 simp only[Ana]
theorem FX {N:Nat} {c:CaseD} {o:Bool} {p:Ca} {K:LA→O R} (hs:Small c N):Hf N c.av o (Cn p) K=K (Cn (LV c p)):=by
 have hN:=hs.n64
 rw[Qh];unfold Je
 have:=fun p=>FW (fuel:=N - 6) (o:=o) (p:=p) (K:=K) hs
 rw[show N - 6+6=N by omega] at this
 simp only[Fb,Dc (show 8≤N by omega),Ae (show(3:Int)≠0 by decide),Ae (show(8:Int)≠0 by decide),Cc,ct,Be,wx,Ly,Di rfl hs.res,this]
 rfl
theorem AJ {p:Ca} {f:Int→O R}:Ao .i64 (drop 3 (Cn p)) f=f (A8 p):=by
 rcases p with _ | ⟨⟨a,b,j⟩,e,k⟩<;>simp[Cn,CN,Aw,A8]
theorem Kk {N:Nat} {i:Int} {u:UnitD} {o:Bool} {p:Ca} {K:LA→O R} (hs:u.segs.l.length<4611686018427387904):∀ (m j fuel:Nat) (a:Int),j+m=u.segs.l.length→m<fuel →
  Cm N K i (Cn p) o u.av fuel a (j:Int)=K (Cn (nd p (II a (u.segs.l.drop j)==wrap .i64 (u.max - u.min)) (3,i,4) e4))
 | 0,j,fuel+1,a,k,_=>by
  rw[Cm];unfold Ex
  simp only[AI,xz,yA,AJ,Ae (show(4:Int)≠0 by decide)]
  rw[G3 (by omega),Bn (l:=u.segs.l) (by omega),II,E4]
  rcases p with _ | ⟨x,e,b⟩
  ·simp[A8]
  ·have:(e != 0)=true:=by simpa using b
   simp[A8,this,nd]
 | m+1,j,fuel+1,a,k,v=>by
  rw[Cm];unfold Ex
  have h:j<u.segs.l.length:=by omega
  simp only[AI,xz,yA,AJ,Ae (show(4:Int)≠0 by decide),zQ h,Ac h]
  rw[F7 h,Bf (by omega),Kk hs m (j+1) fuel _ (by omega) (by omega),Bb h,II,E4]
  rcases p with _ | ⟨x,e,b⟩
  ·simp[A8]
  ·have q:(e != 0)=true:=by simpa using b
   have s:(e==0)=false:=by simpa using b
   simp[A8,q,s,nd]
theorem Qm {N:Nat} {i:Int} {u:UnitD} {o:Bool} {K:LA→O R} (hs:D8 u.segs.l.length N):∀ (m j fuel:Nat) (p:Ca),j+1+m=u.segs.l.length→m<fuel →
  Bz N K i o u.av fuel ((j+1:Nat):Int) (Cn p)=K (Cn (nd (nd p (LW (u.segs.l.drop j)) (3,i,4) zP) (II 0 u.segs.l==wrap .i64 (u.max - u.min)) (3,i,4) e4))
 | 0,j,fuel+1,p,b,_=>by
  rw[Bz];unfold Da
  rw[AI,G3 (by omega),cf,Bb (l:=u.segs.l) (j:=j) (by omega),Bn (l:=u.segs.l) (j:=j+1) (by omega),XB,E4]
  have:=Kk (R:=R) (N:=N) (i:=i) (u:=u) (o:=o) (p:=p) (K:=K) hs.2 u.segs.l.length 0 N 0 (by omega) hs.1
  simpa using this
 | m+1,j,fuel+1,p,b,k=>by
  rw[Bz];unfold Da
  have h:j+1<u.segs.l.length:=by omega
  have h':j<u.segs.l.length:=by omega
  have e:=hs.2
  simp only[AI]
  rw[F7 h,ct,Ac h,ct,NS h,LT (by omega),Ac h',ct,NS h',Bf (by omega),Ae (by decide),Qm hs m (j+1) fuel _ (by omega) (by omega),Bb h',Bb h,Xo,Mx]
theorem Qn {N:Nat} {i:Int} {u:UnitD} {o:Bool} {K:LA→O R} (hN:8≤N) (hs:D8 u.segs.l.length N):∀ (m j fuel:Nat) (p:Ca),j+m=u.segs.l.length→m<fuel →
  B0 N K i (u.segs.l.flatMap SegD.av) u.segs.l.length o u.av fuel (u.segs.l.length:Int) (j:Int) (Cn p) =
   K (Cn (nd (nd (nd p ((u.segs.l.drop j).all dw) (3,i,4) e3) (LW u.segs.l) (3,i,4) zP) (II 0 u.segs.l==wrap .i64 (u.max - u.min)) (3,i,4) e4))
 | 0,j,fuel+1,p,k,_=>by
  rw[B0];unfold Ey
  rw[G3 (by omega),cf,Bn (l:=u.segs.l) (by omega),Al3,E4]
  rcases e:u.segs.l with _ | ⟨b,r⟩
  ·rw[ki,E4]
   have l2:=Kk (R:=R) (N:=N) (i:=i) (u:=u) (o:=o) (p:=p) (K:=K) hs.2 u.segs.l.length 0 N 0 (by omega) hs.1
   rcases N with _ | N
   ·omega
   ·rw[Bz];unfold Da
    rw[AI,e]
    simp only[Alz,Alw]
    rw[show decide ((1:Int)<0)=false by decide,cf]
    rw[e] at l2
    simpa using l2
  ·have:=Qm (R:=R) (N:=N) (i:=i) (u:=u) (o:=o) (K:=K) hs r.length 0 N p (by rw[e];simp;omega) (by have:=hs.1;rw[e] at this;simp at this;omega)
   rw[e] at this
   simpa using this
 | m+1,j,fuel+1,p,k,y=>by
  rw[B0];unfold Ey
  have h:j<u.segs.l.length:=by omega
  have q:=hs.2
  rw[F7 h,ct,Ac h,ct,Aku,Ar L0 _ _ h,Bb h,Ale,Bf (by omega)]
  have s:ble 2 (List.length (u.segs.l[j].av++List.flatMap SegD.av (drop (j+1) u.segs.l)))=true:=by rw[Bv,Akx,L0];simp
  have v:take 2 (u.segs.l[j].av++List.flatMap SegD.av (drop (j+1) u.segs.l))=u.segs.l[j].av:=Ald (L0 _)
  rw[s,ct,v,L0]
  simp only[SegD.av,setCells,Dd,Al1,Alf,Ani,Alc,Ak7,Aly,Ak8,Alz,Aw,Bv,Xy,Ax,Nat.reduceAdd,decide_true,Alm,Ama,Alq,cond_true,Akz,Akw,Dc hN,Ae (show(3:Int)≠0 by decide),Qn hN hs m (j+1) fuel _ (show j+1+m=_ by omega) (show m<fuel by omega)]
  unfold dw
  rw[Mx,Mx]
  cases D2 1 1048576 u.segs.l[j].width<;>rfl
theorem Xz {N:Nat} {p:Ca} {j:Nat} {u:UnitD} {o:Bool} {K:LA→O R} (hN:8≤N) (hs:D8 u.segs.l.length N) :
  Dg N u.av o (j:Int) (Cn p) K=K (Cn (rQ u j p)):=by
 rw[Nj];unfold Gs
 simp only[AI,Ae (show(8:Int)≠0 by decide)]
 have:=Qn (R:=R) (N:=N) (i:=j) (u:=u) (o:=o) (K:=K) hN hs u.segs.l.length 0 N (nd p (decide ((u.segs.l.length:Int)≤8)) (3,j,4) e8) (by omega) hs.1
 simpa[rQ] using this
theorem T1 {N:Nat} {i:Int} {l:List MoveD} {o:Bool} {K:LA→O R} (hN:8≤N) (hs:l.length<4611686018427387904):∀ (m j fuel:Nat) (p:Ca),j+m=l.length→m<fuel →
  C4 N K i (l.flatMap MoveD.av) l.length o fuel (l.length:Int) (j:Int) (Cn p)=K (Cn (nd p ((l.drop j).all nW) (6,i,3) e3))
 | 0,j,fuel+1,p,b,_=>by
  rw[C4];unfold Fu
  rw[G3 (by omega),cf,Bn (by omega),Al3,E4]
 | m+1,j,fuel+1,p,b,q=>by
  rw[C4];unfold Fu
  have h:j<l.length:=by omega
  rw[F7 h,ct,Ac h,ct,Aku,Ar Dj _ _ h,Bb h,Ale,Bf (by omega)]
  have e:ble 3 (List.length (l[j].av++List.flatMap MoveD.av (drop (j+1) l)))=true:=by rw[Bv,Akx,Dj];simp
  have k:take 3 (l[j].av++List.flatMap MoveD.av (drop (j+1) l))=l[j].av:=Ald (Dj _)
  rw[e,ct,k,Dj]
  simp only[MoveD.av,setCells,Dd,Al1,Alf,Ani,Alc,Ak7,Aly,Ak8,Alz,Aw,Bv,Xy,Ax,Nat.reduceAdd,decide_true,Alm,Ama,Alq,cond_true,Akz,Akw,fq hN,Ae (show(3:Int)≠0 by decide),T1 hN hs m (j+1) fuel _ (show j+1+m=_ by omega) (show m<fuel by omega)]
  rw[Mx];rfl
theorem T2 {N:Nat} {c:CaseD} {i:Int} {u:OutD} {o:Bool} {p:Ca} {K:LA→O R} (hN:8≤N) (b:c.units.l.length≤1000000) (hs:D8 u.moves.l.length N) (k:u.moves.l.length<8796093022208):∀ (m j fuel:Nat),j+m=u.moves.l.length→m<fuel →
  C5 N K i (u.moves.l.flatMap MoveD.av) u.moves.l.length o (Cn p) c.av u.av fuel j (u.moves.l.length:Int) (j:Int) (Ah ((u.moves.l.take j).map (·.unit))) =
   K (Cn (nd (nd (nd p (u.moves.l.all (uF c)) (6,i,3) uq) (CP (u.moves.l.map (·.unit))) (6,i,3) zP) (u.moves.l.all nW) (6,i,3) e3))
 | 0,j,fuel+1,q,_=>by
  rw[C5];unfold Fv
  have s:j=u.moves.l.length:=by omega
  rw[G3 (by omega),cf,Ak6,Akt (by simp[Cz];omega),Akt (show u.moves.l.length≤j by omega)]
  rw[Cu,F5 (by simp;omega) (by simpa using hs),Ae (by decide),Uc (by simp;omega) (by simpa using hs),Ae (by decide),gK]
  have:=T1 (R:=R) (N:=N) (i:=i) (l:=u.moves.l) (o:=o) (K:=K) hN hs.2 u.moves.l.length 0 N (nd (nd p (u.moves.l.all (uF c)) (6,i,3) uq) (CP (u.moves.l.map (·.unit))) (6,i,3) zP) (by omega) hs.1
  have e:(u.moves.l.map (·.unit)).all (D2 0 (wrap .i64 ((c.units.l.length:Int) - 1)))=u.moves.l.all (uF c):=by
   rw[List.all_map];congr 1;funext m;exact wy _ _ (by omega)
  rw[e]
  simpa using this
 | m+1,j,fuel+1,q,C=>by
  rw[C5];unfold Fv
  have h:j<u.moves.l.length:=by omega
  have v:ble 3 (List.length (u.moves.l[j].av++List.flatMap MoveD.av (drop (j+1) u.moves.l)))=true:=by rw[Bv,Akx,Dj];simp
  have y:take 3 (u.moves.l[j].av++List.flatMap MoveD.av (drop (j+1) u.moves.l))=u.moves.l[j].av:=Ald (Dj _)
  have z:(decide (j≤140737488355327)&&decide ((j+1)*8≤140737488355328))=true:=by simp;omega
  have A:take (j*1) (Ah ((u.moves.l.take j).map (·.unit)))++[.int .i64 u.moves.l[j].unit]=Ah ((u.moves.l.take (j+1)).map (·.unit)):=by
   rw[Akt (by simp[Cz];omega),Ala h,Al6,←Zl];rfl
  rw[F7 h,ct,Ac h,ct,Aku,Ar Dj _ _ h,Bf (by omega),v,ct,y,Dj]
  simp only[MoveD.av,setCells,Dd,Al1,Alf,Ani,Alc,Aly,Ak8,Alz,Aw,Bv,Xy,Ax,Nat.reduceAdd,Nat.reduceLeDiff,decide_true,Alm,Ama,Alq,cond_true,Akz,Akw,z,A,T2 hN b hs k m (j+1) fuel (show j+1+m=_ by omega) (show m<fuel by omega)]
theorem LX {N:Nat} {c:CaseD} {p:Ca} {o:Bool} {j:Nat} {K:LA→O R} (hs:Small c N) (h:j<c.ties.l.length) :
  N0 N c.av o (j:Int) (Cn p) K=K (Cn (nV c j c.ties.l[j] p)):=by
 have hN:=hs.n64
 have hN8:8≤N:=by omega
 have e:=hs.tie
 have z:=hs.top
 have s:c.ties.l[j] ∈ c.ties.l:=Ak3 h
 have A:=hs.tim _ s;have u:=hs.tex _ s;have v:=hs.tpr _ s
 have q:=@C7 R N c (c.ties.l.map (·.name)) o (k:=5) (n:=j) (hN:=hN) (hL:=fun K=>kp hs) (hn:=by simpa using h) (hs:=⟨by have:=e.1;omega,by have:=e.2;omega⟩)
 have y:(c.ties.l.map (·.name))[j]'(by simpa using h)=c.ties.l[j].name:=by simp
 rw[y] at q
 rw[Up];unfold Rf 
 rw[NR,Ac h,ct,Aku,Ar Im _ _ h]
 generalize c.ties.l[j]=b at *
 have C:ble 5 (List.length (b.av++List.flatMap TieD.av (drop (j+1) c.ties.l)))=true:=by rw[Bv,Akx,Im];simp
 have D:take 5 (b.av++List.flatMap TieD.av (drop (j+1) c.ties.l))=b.av:=Ald (Im b)
 rw[C,ct,D,Im]
 simp only[Be,q,TieD.av,Alc,Ak7,Aw,Cy,C6,Bv,Xy,decide_true,Alm,cond_true]
 simp only[Ho hN8 (show c.buses.l.length<4611686018427387904 by omega),Di rfl A,Di rfl u,Di rfl v]
 rfl
theorem FY {N:Nat} {c:CaseD} {p:Ca} {o:Bool} {j:Nat} {K:LA→O R} (hs:Small c N) (h:j<c.stores.l.length) :
  Ku N c.av o (j:Int) (Cn p) K=K (Cn (Ud c j c.stores.l[j] p)):=by
 have hN:=hs.n64
 have hN8:8≤N:=by omega
 have e:=hs.sto
 have u:=hs.top
 have z:c.stores.l[j] ∈ c.stores.l:=Ak3 h
 skip
 have q:=@C7 R N c (c.stores.l.map (·.name)) o (k:=4) (n:=j) (hN:=hN) (hL:=fun K=>XD hs) (hn:=by simpa using h) (hs:=⟨by have:=e.1;omega,by have:=e.2;omega⟩)
 have s:(c.stores.l.map (·.name))[j]'(by simpa using h)=c.stores.l[j].name:=by simp
 rw[s] at q
 rw[Qi];unfold Oc 
 rw[We,Ac h,ct,Aku,Ar Er _ _ h]
 generalize c.stores.l[j]=b at *
 have v:ble 9 (List.length (b.av++List.flatMap StoreD.av (drop (j+1) c.stores.l)))=true:=by rw[Bv,Akx,Er];simp
 have y:take 9 (b.av++List.flatMap StoreD.av (drop (j+1) c.stores.l))=b.av:=Ald (Er b)
 rw[v,ct,y,Er]
 simp only[Be,q,StoreD.av,Alc,Ak7,Amv,Aly,Ak8,Alz,Aw,Bv,Xy,Ax,Nat.reduceAdd,decide_true,Alm,Ama,cond_true,Akz,Akw]
 simp only[Ho hN8 (show c.buses.l.length<4611686018427387904 by omega),Dc hN8,Ae (show(3:Int)≠0 by decide),Zm hN8]
 unfold Ud;cases G4 b.eff<;>cases decide (b.eff.num>0)<;>rfl
theorem IJ {N:Nat} {c:CaseD} {p:Ca} {o:Bool} {j:Nat} {K:LA→O R} (hs:Small c N) (h:j<c.lines.l.length) :
  Ii N c.av o (j:Int) (Cn p) K=K (Cn (CQ c j c.lines.l[j] p)):=by
 have hN:=hs.n64
 have hN8:8≤N:=by omega
 have e:=hs.lin
 have u:=hs.top
 have v:c.lines.l[j] ∈ c.lines.l:=Ak3 h
 have y:=hs.law _ v
 have q:=@C7 R N c (c.lines.l.map (·.name)) o (k:=2) (n:=j) (hN:=hN) (hL:=fun K=>dx hs) (hn:=by simpa using h) (hs:=⟨by have:=e.1;omega,by have:=e.2;omega⟩)
 have s:(c.lines.l.map (·.name))[j]'(by simpa using h)=c.lines.l[j].name:=by simp
 rw[s] at q
 rw[Tq];unfold Ks H9 Ln M2 Lm M1
 rw[Il,Ac h,ct,Aku,Ar B7 _ _ h]
 generalize c.lines.l[j]=b at *
 have z:ble 12 (List.length (b.av++List.flatMap LineD.av (drop (j+1) c.lines.l)))=true:=by rw[Bv,Akx,B7];simp
 have A:take 12 (b.av++List.flatMap LineD.av (drop (j+1) c.lines.l))=b.av:=Ald (B7 b)
 rw[z,ct,A,B7]
 simp only[Be,q,LineD.av,Alc,Ak7,Amv,Aly,Ak8,Alz,Aw,Cy,C6,Bv,Xy,Ax,Nat.reduceAdd,Nat.reduceLeDiff,decide_true,Alm,Ama,cond_true,Akz]
 simp only[Ho hN8 (show c.buses.l.length<4611686018427387904 by omega),Dc hN8,Ae (show(1:Int)≠0 by decide),Ae (show(3:Int)≠0 by decide),Zm hN8,Qk rfl y]
 unfold CQ;rw[show(b.fr != b.tl)=(b.tl != b.fr) by simp[bne,BEq.comm (a:=b.fr)]];cases G4 b.re<;>cases G4 b.smin<;>cases G4 b.smax<;>rfl
def yB (c:CaseD) (j:Nat) (u:UnitD) (p:Ca):Ca :=
 let p:=H6 ((c.units.l.map (·.name)).take j) 3 j u.name p
 let p:=nd p (HU c u.bus) (3,j,1) uq
 let p:=nd p (D2 0 1048576 u.min) (3,j,2) e3
 let p:=nd p (D2 u.min 1048576 u.max) (3,j,3) e3
 let p:=rQ u j p
 let p:=nd p (D2 0 1048576 u.noLoad) (3,j,5) e3
 let p:=nd p (D2 0 1048576 u.rampUp) (3,j,6) e3
 let p:=nd p (D2 0 1048576 u.rampDown) (3,j,7) e3
 let p:=nd p (D2 u.min u.max u.startRamp) (3,j,8) e3
 let p:=nd p (D2 u.min u.max u.stopRamp) (3,j,9) e3
 let p:=nd p (D2 0 24 u.upTime) (3,j,10) e3
 nd p (D2 0 24 u.downTime) (3,j,11) e3
def Aby (c:CaseD) (j:Nat) (u:UnitD) (p:Ca):Ca :=
 let p:=nd p (D2 0 24 u.startTime) (3,j,12) e3
 let p:=nd p (D2 0 1048576 u.hotCost) (3,j,13) e3
 let p:=nd p (D2 0 1048576 u.coldCost) (3,j,14) e3
 let p:=nd p (D2 0 24 u.hotHours) (3,j,15) e3
 let p:=nd p (D2 0 1048576 u.reserve) (3,j,16) e3
 let p:=nd p (D2 0 1048576 u.reservePrice) (3,j,17) e3
 let p:=LU c.hours u.away.l (3,j,18) p
 let p:=nd p (D2 0 2 u.state) (3,j,19) uq
 let p:=nd p (u.state != 1||decide (u.startTime>0)) (3,j,19) Ah8
 let p:=nd p (D2 1 48 u.hours) (3,j,20) e3
 let p:=nd p (u.state != 1||decide (u.hours≤u.startTime)) (3,j,20) e3
 cond (u.state==2) (nd p (D2 u.min u.max u.output) (3,j,21) e3) (nd p (u.output==0) (3,j,21) e3)
theorem Ahk (n:Int):D2 0 0 n=(n==0):=by
 unfold D2
 by_cases h:n=0
 ·simp[h]
 ·have:(n==0)=false:=by simpa using h
  rw[this];simp;omega
theorem Adj {c:CaseD} {j:Nat} {u:UnitD} {p:Ca}:Aby c j u (yB c j u p)=HW c j u p:=by
 show _=(let p:=nd (yB c j u p) (D2 0 24 u.startTime) (3,j,12) e3
  let p:=nd p (D2 0 1048576 u.hotCost) (3,j,13) e3
  let p:=nd p (D2 0 1048576 u.coldCost) (3,j,14) e3
  let p:=nd p (D2 0 24 u.hotHours) (3,j,15) e3
  let p:=nd p (D2 0 1048576 u.reserve) (3,j,16) e3
  let p:=nd p (D2 0 1048576 u.reservePrice) (3,j,17) e3
  let p:=LU c.hours u.away.l (3,j,18) p
  let p:=nd p (D2 0 2 u.state) (3,j,19) uq
  let p:=nd p (u.state != 1||u.startTime != 0) (3,j,19) Ah8
  let p:=nd p (D2 1 48 u.hours) (3,j,20) e3
  let p:=nd p (u.state != 1||decide (u.hours≤u.startTime)) (3,j,20) e3
  cond (u.state==2) (nd p (D2 u.min u.max u.output) (3,j,21) e3) (nd p (D2 0 0 u.output) (3,j,21) e3))
 unfold Aby
 rw[Ahk]
 cases hq:nd (yB c j u p) (D2 0 24 u.startTime) (3,(j:Int),12) e3 with
 | some x=>simp only[FV,LU]
 | none =>
  have b:D2 0 24 u.startTime=true:=by
   cases e:D2 0 24 u.startTime with
   | true=>rfl
   | false =>
    rw[e] at hq
    cases k:yB c j u p<;>rw[k] at hq<;>simp[nd] at hq
  have:decide (u.startTime>0)=(u.startTime != 0):=by
   unfold D2 at b
   simp at b
   by_cases h:u.startTime=0
   ·simp[h]
   ·have q:(u.startTime != 0)=true:=by simpa using h
    rw[q];simp;omega
  rw[this]
theorem IK {N:Nat} {c:CaseD} {p:Ca} {o:Bool} {j:Nat} {K:LA→O R} (hs:Small c N) (h:j<c.units.l.length) :
  Ik N c.av o (j:Int) (Cn p) K=K (Cn (HW c j c.units.l[j] p)):=by
 have hN:=hs.n64
 have hN8:8≤N:=by omega
 have e:=hs.uni
 have y:=hs.top
 have z:c.units.l[j] ∈ c.units.l:=Ak3 h
 have A:=hs.seg _ z;have s:=hs.uaw _ z
 have q:=@C7 R N c (c.units.l.map (·.name)) o (k:=3) (n:=j) (hN:=hN) (hL:=fun K=>dy hs) (hn:=by simpa using h) (hs:=⟨by have:=e.1;omega,by have:=e.2;omega⟩)
 have u:(c.units.l.map (·.name))[j]'(by simpa using h)=c.units.l[j].name:=by simp
 rw[u] at q
 rw[Tr];unfold Kt Ia Lo M4
 rw[Cu,Ac h,ct,Aku,Ar Ff _ _ h]
 generalize c.units.l[j]=b at *
 have C:ble 22 (List.length (b.av++List.flatMap UnitD.av (drop (j+1) c.units.l)))=true:=by rw[Bv,Akx,Ff];simp
 have D:take 22 (b.av++List.flatMap UnitD.av (drop (j+1) c.units.l))=b.av:=Ald (Ff b)
 rw[C,ct,D,Ff]
 have v:∀ (p:Ca) (K:LA→O R),Dg N [.str b.name,.int .i64 b.bus,.int .i64 b.min,.int .i64 b.max,b.segs.av 2 SegD.av,.int .i64 b.noLoad,.int .i64 b.rampUp,.int .i64 b.rampDown,.int .i64 b.startRamp,.int .i64 b.stopRamp,.int .i64 b.upTime,.int .i64 b.downTime,.int .i64 b.startTime,.int .i64 b.hotCost,.int .i64 b.coldCost,.int .i64 b.hotHours,.int .i64 b.reserve,.int .i64 b.reservePrice,b.away.av 1 V3,.int .i64 b.state,.int .i64 b.hours,.int .i64 b.output] o j (Cn p) K=K (Cn (rQ b j p)):=fun p K=>Xz hN8 A
 simp only[Be,q,UnitD.av,Alc,Ak7,Amv,Aly,Aw,Cy,C6,Bv,Xy,decide_true,Alm,cond_true,cond_false,Akw]
 simp only[Ho hN8 (show c.buses.l.length<4611686018427387904 by omega),Dc hN8,Ae (show(3:Int)≠0 by decide),Ae (show(12:Int)≠0 by decide),Ae (show(16:Int)≠0 by decide),v,Qk rfl s]
 rw[←Adj]
 unfold Aby
 by_cases s1:b.state=1
 ·simp[s1];rfl
 ·have a4:(b.state != 1)=true:=by simpa using s1
  rw[a4]
  cases b.state==2<;>rfl
theorem CV {N:Nat} {c:CaseD} {p:Ca} {o:Bool} {j:Nat} {K:LA→O R} (hs:Small c N) (h:j<c.outs.l.length) :
  Gi N c.av o (j:Int) (Cn p) K=K (Cn (RX c j c.outs.l[j] p)):=by
 have hN:=hs.n64
 have hN8:8≤N:=by omega
 have e:=hs.out
 have q:=hs.top
 have y:c.outs.l[j] ∈ c.outs.l:=Ak3 h
 have C:=hs.oli _ y;have s:=hs.omo _ y;have z:=hs.omb _ y
 have v:=@C7 R N c (c.outs.l.map (·.name)) o (k:=6) (n:=j) (hN:=hN) (hL:=fun K=>kq hs) (hn:=by simpa using h) (hs:=⟨by have:=e.1;omega,by have:=e.2;omega⟩)
 have A:(c.outs.l.map (·.name))[j]'(by simpa using h)=c.outs.l[j].name:=by simp
 rw[A] at v
 rw[Py];unfold Ib Gt Jg
 rw[Ms,Ac h,ct,Aku,Ar Cb _ _ h]
 generalize c.outs.l[j]=b at *
 have D:ble 4 (List.length (b.av++List.flatMap OutD.av (drop (j+1) c.outs.l)))=true:=by rw[Bv,Akx,Cb];simp
 have F:take 4 (b.av++List.flatMap OutD.av (drop (j+1) c.outs.l))=b.av:=Ald (Cb b)
 rw[D,ct,F,Cb]
 have l1:=fun p=>T2 (R:=R) (N:=N) (c:=c) (i:=j) (u:=b) (o:=o) (p:=p) (K:=K) hN8 q.2.2.1 s z b.moves.l.length 0 N (by omega) s.1
 simp only[Aly,Anh,Alw,Ah] at l1
 simp only[Xy,decide_true,Alm,cond_true,Cc,Be,v,XC,gK,Abx,Dc hN8,F5 rfl C,Uc rfl C,Il,Ae (show(4:Int)≠0 by decide),Ae (show(8:Int)≠0 by decide),Ae (show(11:Int)≠0 by decide),Ae (show(12:Int)≠0 by decide),Ae (show(16:Int)≠0 by decide),l1]
 have a1:D2 1 2 (b.lines.l.length:Int)=((b.lines.l.length:Int)==1||(b.lines.l.length:Int)==2):=by
  unfold D2
  by_cases x1:b.lines.l.length=1
  ·simp[x1]
  ·by_cases x2:b.lines.l.length=2
   ·simp[x2]
   ·have y1:((b.lines.l.length:Int)==1)=false:=by simp;omega
    have y2:((b.lines.l.length:Int)==2)=false:=by simp;omega
    rw[y1,y2];simp;omega
 have a2:b.lines.l.all (D2 0 (wrap .i64 ((c.lines.l.length:Int) - 1)))=b.lines.l.all fun n=>decide (0≤n)&&decide (n<(c.lines.l.length:Int)):=by
  congr 1;funext n;exact wy _ _ (by omega)
 rw[a1,a2]
 unfold RX RW
 cases b.corr
 ·simp
 ·simp
end
end Gx.Cf
namespace Gx.Cf
inductive Conn (es:List (Nat×Nat)):Nat→Nat→Prop
 | refl (a:Nat):Conn es a a
 | fwd {u v b:Nat}:(u,v) ∈ es→Conn es v b→Conn es u b
 | bwd {u v b:Nat}:(u,v) ∈ es→Conn es u b→Conn es v b
theorem Conn.trans {es:List (Nat×Nat)} {a b c:Nat} (q:Conn es a b) (e:Conn es b c):Conn es a c:=by
 induction q with
 | refl=>exact e
 | fwd j _ k=>exact .fwd j (k e)
 | bwd j _ k=>exact .bwd j (k e)
theorem Conn.symm {es:List (Nat×Nat)} {a b:Nat} (h:Conn es a b):Conn es b a:=by
 induction h with
 | refl=>exact .refl _
 | fwd e _ j=>exact j.trans (.bwd e (.refl _))
 | bwd e _ j=>exact j.trans (.fwd e (.refl _))
theorem Conn.mono {es fs:List (Nat×Nat)} (hs:∀ e ∈ es,e ∈ fs) {a b:Nat} (h:Conn es a b):Conn fs a b:=by
 induction h with
 | refl=>exact .refl _
 | fwd j _ k=>exact .fwd (hs _ j) k
 | bwd j _ k=>exact .bwd (hs _ j) k
def Nq (es:List (Nat×Nat)) (b:Nat):Prop:=∀ a,a<b→¬ Conn es a b
open Classical in
noncomputable def Gy (n:Nat) (es:List (Nat×Nat)):Nat:=((List.range n).filter fun b=>decide (Nq es b)).length
theorem wz {n:Nat} {es fs:List (Nat×Nat)} (h:∀ e ∈ es,e ∈ fs):Gy n fs≤Gy n es:=by
 unfold Gy
 have:∀ (l:List Nat),(l.filter fun b=>@decide (Nq fs b) (Classical.propDecidable _)).length≤(l.filter fun b=>@decide (Nq es b) (Classical.propDecidable _)).length:=by
  intro l
  induction l with
  | nil=>simp
  | cons a r j =>
   rw[Amg,Amg]
   by_cases x:Nq fs a
   ·have:Nq es a:=fun b k q=>x b k (q.mono h)
    simp[x,this,j]
   ·by_cases y:Nq es a<;>simp[x,y]<;>omega
 exact this _
def D7 (n:Nat):List Int:=(List.range n).map fun b:Nat=>(b:Int)
structure UfOk (n:Nat) (es:List (Nat×Nat)) (st:List Int×Int):Prop where
 len:st.1.length=n
 iff:∀ a b,a<n→b<n→(st.1.getD a 0=st.1.getD b 0↔Conn es a b)
 cnt:st.2=(Gy n es:Int)
theorem NT {n a:Nat} (h:a<n):(D7 n).getD a 0=(a:Int):=by
 rw[Ak5,D7,Am3,List.getElem?_range h];rfl
structure LeastOk (n:Nat) (es:List (Nat×Nat)) (L:List Int):Prop where
 len:L.length=n
 low:∀ b,b<n→0≤L.getD b 0∧L.getD b 0≤b
 con:∀ b,b<n→Conn es (L.getD b 0).toNat b
def yC (es:List (Nat×Nat)) (L:List Int):Prop:=∀ e ∈ es,L.getD e.1 0=L.getD e.2 0
def Adk (L:List Int):Nat:=((List.range L.length).filter fun b=>L.getD b 0==(b:Int)).length
theorem dz {n:Nat} {es:List (Nat×Nat)} {L:List Int} (h:LeastOk n es L) (u:yC es L) (v:∀ e ∈ es,e.1<n∧e.2<n):Adk L=Gy n es:=by
 unfold Adk Gy
 rw[h.len]
 congr 1
 apply Aoh
 intro b k
 have k:b<n:=by simpa using k
 have conn_eq:∀ a b,Conn es a b→L.getD a 0=L.getD b 0:=by
  intro a b q
  induction q with
  | refl=>rfl
  | fwd j _ s=>exact(u _ j).trans s
  | bwd j _ s=>exact(u _ j).symm.trans s
 have y:=h.low b k
 by_cases x:L.getD b 0=(b:Int)
 ·have:Nq es b:=fun a z q=>by
   have e:=conn_eq a b q
   have:=(h.low a (by omega)).2
   omega
  have x':(L.getD b 0==(b:Int))=true:=by simpa using x
  rw[x'];simp[this]
 ·have x':(L.getD b 0==(b:Int))=false:=by simpa using x
  have:¬ Nq es b:=fun j=>j (L.getD b 0).toNat (by omega) (h.con b k)
  rw[x'];simp[this]
end Gx.Cf
namespace Gx.Cf
open Go Go.Proofs
section
variable {R:Type}
theorem FZ {l:List Int} {j:Nat} (h:j<l.length):l.getD j 0=l[j]:=by rw[Ak5,Aky h];rfl
theorem O4 {x:Int} {n:Nat} (h0:0≤x) (b:x.toNat<n):Af x n=true:=by simp[Af];omega
theorem ku {l:List Int} {x:Int} (h:x.toNat<l.length) {f:Int→O R}:Ao .i64 (drop (0+((Int.toNat x)*1)) (Ah l)) f=f (l.getD x.toNat 0):=by
 rw[Akz,Ak6,CM h,FZ h]
theorem T3 (l:List Int) (j:Nat) (v:Int):List.set (Ah l) j (.int .i64 v)=Ah (l.set j v):=by simp[Ah,List.map_set]
theorem F_ {l:List Int} {x:Nat} (h:x<l.length):((beq 1 1)&&((ble ((0+(x*1))+1) (List.length (Ah l)))&&(!false)))=true:=by
 rw[Xy,Bv,Cz];simp;omega
def D0 (c:CaseD) (l:Int):Nat×Nat:=match c.lines.l[l.toNat]? with
 | some x=>(x.fr.toNat,x.tl.toNat)
 | none=>(0,0)
structure LnV (c:CaseD) (l:Int) (x:LineD):Prop where
 l0:0≤l
 lt:l.toNat<c.lines.l.length
 at':c.lines.l[l.toNat]?=some x
 f0:0≤x.fr
 f1:x.fr.toNat<c.buses.l.length
 t0:0≤x.tl
 t1:x.tl.toNat<c.buses.l.length
theorem NU {c:CaseD} {l:Int} {x:LineD} (h:LnV c l x):D0 c l=(x.fr.toNat,x.tl.toNat):=by unfold D0;rw[h.at']
theorem Abz {c:CaseD} {l:Int} {x:LineD} (h:LnV c l x) {f:Int→O R}:Ao .i64 (drop 1 (drop ((Int.toNat l)*12) (c.lines.l.flatMap LineD.av))) f=f x.fr:=by
 have e:c.lines.l[l.toNat]'h.lt=x:=by have:=h.at';rw[Aky h.lt] at this;simpa using this
 rw[Ar B7 _ _ h.lt,e];simp[LineD.av,Aw]
theorem Ab0 {c:CaseD} {l:Int} {x:LineD} (h:LnV c l x) {f:Int→O R}:Ao .i64 (drop 2 (drop ((Int.toNat l)*12) (c.lines.l.flatMap LineD.av))) f=f x.tl:=by
 have e:c.lines.l[l.toNat]'h.lt=x:=by have:=h.at';rw[Aky h.lt] at this;simpa using this
 rw[Ar B7 _ _ h.lt,e];simp[LineD.av,Aw]
theorem RY {L:List Int} {n j:Nat} (k:L.length=n) (h:j<n):((D7 n).take j++L.drop j).set j (j:Int)=(D7 n).take (j+1)++L.drop (j+1):=by
 have hi:(D7 n).length=n:=by simp[D7]
 have e:(D7 n)[j]'(by omega)=(j:Int):=by simp[D7]
 have b:j - ((D7 n).take j).length=0:=by simp[hi];omega
 rw[Anz _ _ (by simp;omega),b,Ala (by omega),Bb (l:=L) (by omega),e,Aoc,Ami];rfl
def LY (h:Int):List LineD→Nat→List Int
 | [],_=>[]
 | x::r,j=>cond (x.away.l.contains h) (LY h r (j+1)) ((j:Int)::LY h r (j+1))
theorem T4 (h:Int):∀ (l:List LineD) (j:Nat),(LY h l j).length≤l.length
 | [],_=>by simp[LY]
 | x::r,j=>by rw[LY];have:=T4 h r (j+1);cases x.away.l.contains h<;>simp<;>omega
theorem uH (h:Int):∀ (l:List LineD) (j:Nat) (a:Int),a ∈ LY h l j→(j:Int)≤a∧a<j+l.length
 | [],_,_,b=>by simp[LY] at b
 | x::r,j,a,b=>by
  rw[LY] at b
  have e:=uH h r (j+1) a
  cases k:x.away.l.contains h<;>rw[k] at b<;>simp at b
  ·rcases b with rfl | b
   ·simp;omega
   ·have:=e b;simp at this ⊢;omega
  ·have:=e b;simp at this ⊢;omega
def Aq (c:CaseD) (h:Int):List Int:=LY h c.lines.l 0
theorem gL {A B:List Int} {n:Nat} (h:n=A.length):(take (n*1) (Ah A))++Ah B=Ah (A++B):=by
 rw[Ak6,Akt (by simp[Cz,h]),Zl]
theorem LZ {N:Nat} {c:CaseD} {h:Int} {o:Bool} {K:Nat→LA→O R} (hs:Small c N):∀ (m j fuel:Nat) (A:List Int),j+m=c.lines.l.length→m<fuel→A.length≤j →
  Ek N K h o c.av fuel A.length (j:Int) (Ah A)=K (A++LY h (c.lines.l.drop j) j).length (Ah (A++LY h (c.lines.l.drop j) j))
 | 0,j,fuel+1,A,u,_,_=>by
  rw[Ek];unfold Kv
  rw[Il,G3 (by omega),cf,Bn (l:=c.lines.l) (by omega),LY,Alf]
 | m+1,j,fuel+1,A,u,F,hA=>by
  rw[Ek];unfold Kv
  have e:j<c.lines.l.length:=by omega
  have s:=hs.top.2.1
  have v:c.lines.l[j] ∈ c.lines.l:=Ak3 e
  have y:=hs.law _ v
  simp only[Il]
  rw[F7 e,ct,Ac e,ct,Aku,Ar B7 _ _ e,Bb (l:=c.lines.l) e,LY]
  have k:=LZ (N:=N) (c:=c) (h:=h) (o:=o) (K:=K) hs m (j+1) fuel (A++[(j:Int)]) (by omega) (by omega) (by simp;omega)
  have q:=LZ (N:=N) (c:=c) (h:=h) (o:=o) (K:=K) hs m (j+1) fuel A (by omega) (by omega) (by omega)
  generalize c.lines.l[j]=b at *
  have z:(ble (A.length+1) 140737488355328&&ble ((A.length+1)*8) 140737488355328)=true:=by rw[Bv,Bv];simp;omega
  have C:∀ (r:LA) (f:LA→Nat→O R),Ba 1 (drop 11 (b.av++r)) f=f (Ah b.away.l) b.away.l.length:=fun r f=>by simp[LineD.av,Cy,C6]
  have D:take (A.length*1) (Ah A)++[.int .i64 (j:Int)]=Ah (A++[(j:Int)]):=gL (B:=[(j:Int)]) rfl
  rw[C,V5 rfl y,z,ct,D,Bf (by omega)]
  cases b.away.l.contains h with
  | true=>simp only[Am7,cond_false,cond_true];exact q
  | false =>
   simp only[Alq,cond_true,cond_false]
   rw[Akx] at k
   simpa using k
theorem eA {N:Nat} {c:CaseD} {h:Int} {o:Bool} {K:Nat→LA→O R} (hs:Small c N):Hw N c.av o h K=K (Aq c h).length (Ah (Aq c h)):=by
 rw[Y5];unfold Pz
 have:=LZ (R:=R) (N:=N) (c:=c) (h:=h) (o:=o) (K:=K) hs c.lines.l.length 0 N [] (by omega) hs.lin.1 (by simp)
 simpa[Aq,Ah] using this
def Bm (e:Nat×Nat):LA:=[.int .i64 (e.1:Int),.int .i64 (e.2:Int)]
theorem Qd (e:Nat×Nat):(Bm e).length=2:=rfl
theorem NV (es:List (Nat×Nat)):(es.flatMap Bm).length=es.length*2:=by
 induction es with
 | nil=>rfl
 | cons e r b=>rw[All,Akx,b,Qd];simp;omega
theorem kv {N:Nat} {c:CaseD} {o:Bool} {ls:List Int} {K:Nat→Nat→LA→LA→O R} (k:ls.length≤1000000) (e:∀ l ∈ ls,∃ x,LnV c l x):∀ (m j fuel:Nat),j+m=ls.length→m<fuel →
  Jh N K ls.length o c.av (Ah ls) fuel j (ls.length:Int) (j:Int) (((ls.take j).map (D0 c)).flatMap Bm)=K ls.length ls.length ((ls.map (D0 c)).flatMap Bm) (Ah ls)
 | 0,j,fuel+1,q,_=>by
  rw[Jh];unfold So
  have:j=ls.length:=by omega
  rw[G3 (by omega),cf,Akt (by omega),this]
 | m+1,j,fuel+1,q,v=>by
  rw[Jh];unfold So
  have h:j<ls.length:=by omega
  obtain⟨x,b⟩:=e ls[j] (Ak3 h)
  have s:(ble (j+1) 140737488355328&&ble ((j+1)*16) 140737488355328)=true:=by rw[Bv,Bv];simp;omega
  have u:take (j*2) (((ls.take j).map (D0 c)).flatMap Bm)++[.int .i64 x.fr,.int .i64 x.tl]=((ls.take (j+1)).map (D0 c)).flatMap Bm:=by
   rw[Akt (by rw[NV];simp;omega),Ala h,Al6,Al5]
   simp only[Ak9,Anh,NU b,All,List.flatMap_nil,Alf,Bm]
   have:=b.f0;have:=b.t0
   rw[An4 b.f0,An4 b.t0]
  rw[F7 h,ct,Ac h,ct,ku (by simpa using h),Aku,FZ h]
  simp only[Il,Abz b,Ab0 b]
  rw[O4 b.l0 b.lt,ct,ct,s,ct,u,Bf (by omega),kv k e m (j+1) fuel (by omega) (by omega)]
theorem xA {N:Nat} {c:CaseD} {h:Int} {o:Bool} {K:Nat→Nat→LA→LA→O R} (hs:Small c N) (j:∀ l ∈ Aq c h,∃ x,LnV c l x) :
  CC N c.av o h K=K (Aq c h).length (Aq c h).length (((Aq c h).map (D0 c)).flatMap Bm) (Ah (Aq c h)):=by
 rw[PX];unfold FG
 have k:=T4 h c.lines.l 0
 have b:=hs.top.2.1
 have e:=hs.lin.1
 have:=kv (R:=R) (N:=N) (c:=c) (o:=o) (ls:=Aq c h) (K:=K) (by unfold Aq;omega) j (Aq c h).length 0 N (by omega) (by unfold Aq;omega)
 rw[Cc,ct,Be,eA hs]
 simpa using this
def Es (st:Bool×List Int) (e:Nat×Nat):Bool×List Int :=
 let m:=Io (st.2.getD e.1 0) (st.2.getD e.2 0)
 ((st.1||(st.2.getD e.1 0 != m))||(st.2.getD e.2 0 != m),(st.2.set e.1 m).set e.2 m)
theorem eC {N:Nat} {es:List (Nat×Nat)} {n:Nat} {t o:Bool} {K1:Bool→LA→O R} {K:Nat→LA→O R} (hs:es.length<4611686018427387904) (s:∀ e ∈ es,e.1<n∧e.2<n):∀ (m j fuel:Nat) (st:Bool×List Int),j+m=es.length→m<fuel→st.2.length=n →
  Gj N K1 K (es.flatMap Bm) es.length t o n fuel st.1 (es.length:Int) (j:Int) (Ah st.2)=K1 ((es.drop j).foldl Es st).1 (Ah ((es.drop j).foldl Es st).2)
 | 0,j,fuel+1,st,u,_,_=>by
  rw[Gj];unfold N1
  rw[G3 (by omega),cf,Bn (l:=es) (by omega)];rfl
 | m+1,j,fuel+1,st,u,M,b=>by
  rw[Gj];unfold N1
  have h:j<es.length:=by omega
  obtain⟨k,q⟩:=s es[j] (Ak3 h)
  have v:=eC (N:=N) (es:=es) (n:=n) (t:=t) (o:=o) (K1:=K1) (K:=K) hs s m (j+1) fuel (Es st es[j]) (by omega) (by omega) (by simp[Es,b])
  rw[F7 h,ct,Ac h,ct,Aku,Ar Qd _ _ h,Bb (l:=es) h,Amx,←v]
  generalize es[j]=e at *
  have y:ble 2 (List.length (Bm e++List.flatMap Bm (drop (j+1) es)))=true:=by rw[Bv,Akx,Qd];simp
  have z:take 2 (Bm e++List.flatMap Bm (drop (j+1) es))=Bm e:=Ald (Qd e)
  rw[y,ct,z,Qd]
  have iu:Af (e.1:Int) n=true:=Ac k
  have iv:Af (e.2:Int) n=true:=Ac q
  have ru:∀ f:Int→O R,Ao .i64 (drop (0+((Int.toNat (e.1:Int))*1)) (Ah st.2)) f=f (st.2.getD e.1 0):=fun f=>by rw[ku (by rw[b];simpa using k)];rfl
  have rv:∀ f:Int→O R,Ao .i64 (drop (0+((Int.toNat (e.2:Int))*1)) (Ah st.2)) f=f (st.2.getD e.2 0):=fun f=>by rw[ku (by rw[b];simpa using q)];rfl
  have s1:=F_ (l:=st.2) (x:=(Int.toNat (e.1:Int))) (by rw[b];simpa using k)
  have s2:∀ m:Int,((beq 1 1)&&((ble ((0+((Int.toNat (e.2:Int))*1))+1) (List.length (List.set (Ah st.2) (0+((Int.toNat (e.1:Int))*1)) (.int .i64 m))))&&(!false)))=true:=fun m=>by
   rw[T3];exact F_ (by simpa[b] using q)
  have A:∀ m:Int,List.set (List.set (Ah st.2) (0+((Int.toNat (e.1:Int))*1)) (.int .i64 m)) (0+((Int.toNat (e.2:Int))*1)) (.int .i64 m)=Ah ((st.2.set e.1 m).set e.2 m):=fun m=>by
   rw[T3,T3];simp
  have C:(!o||Ax (Bm e))=true:=by simp[Bm,Ax]
  have D:(beq 2 2&&(ble 2 2&&!false))=true:=rfl
  have F:setCells [(.int .i64 (0:Int)),(.int .i64 (0:Int))] 0 (Bm e)=Bm e:=rfl
  have G:∀ f:Int→O R,Ao .i64 (Bm e) f=f e.1:=fun f=>by simp[Bm,Aw]
  have I:∀ f:Int→O R,Ao .i64 (drop 1 (Bm e)) f=f e.2:=fun f=>by simp[Bm,Aw]
  simp only[C,D,F,G,I,ct,iu,iv,ru,rv,s1,s2,A,Bf (show j<4611686018427387904 by omega)]
  unfold Es
  cases st.1
  ·cases L:(st.2.getD e.1 0 != Io (st.2.getD e.1 0) (st.2.getD e.2 0))<;>simp only[L,Am1,Amo,cond_true,cond_false,beq_self_eq_true,show(true==false)=false from rfl]
  ·simp only[Amo,cond_false,show(true==false)=false from rfl]
def RZ (L:List Int):Nat:=(L.map Int.toNat).sum
theorem yD {L:List Int} {x:Nat} {v:Int} (h:x<L.length):RZ (L.set x v)+(L.getD x 0).toNat=RZ L+v.toNat:=by
 unfold RZ
 rw[FZ h]
 induction L generalizing x with
 | nil=>simp at h
 | cons a r b =>
  cases x with
  | zero=>simp;omega
  | succ x=>have:=b (x:=x) (by simpa using h);simp at this ⊢;omega
theorem kw {L:List Int} {x y:Nat} {v:Int} (h:x<L.length):(L.set x v).getD y 0=if x=y then v else L.getD y 0:=by
 rw[Ak5,Ak5,List.getElem?_set]
 by_cases e:x=y
 ·subst e;simp[h]
 ·simp[e]
theorem Adl (a b:Int):Io a b≤a∧Io a b≤b∧(Io a b=a∨Io a b=b):=by
 unfold Io
 by_cases h:b<a
 ·simp[h];omega
 ·simp[h];omega
theorem zR {n:Nat} {es:List (Nat×Nat)} {e:Nat×Nat} (G:e ∈ es) (A:e.1<n) (C:e.2<n) {b:Bool} {L:List Int} (h:LeastOk n es L) :
    LeastOk n es (Es (b,L) e).2∧(((Es (b,L) e).1=true∧RZ (Es (b,L) e).2<RZ L)∨((Es (b,L) e)=(b,L)∧L.getD e.1 0=L.getD e.2 0)):=by
  obtain⟨u,v⟩:=e
  simp only at A C
  obtain⟨m1,m2,m3⟩:=Adl (L.getD u 0) (L.getD v 0)
  have j:u<L.length:=by rw[h.len];exact A
  have s:v<L.length:=by rw[h.len];exact C
  have k:Conn es u v:=.fwd G (.refl _)
  have Ai:∀ y,((L.set u (Io (L.getD u 0) (L.getD v 0))).set v (Io (L.getD u 0) (L.getD v 0))).getD y 0=if v=y then Io (L.getD u 0) (L.getD v 0) else if u=y then Io (L.getD u 0) (L.getD v 0) else L.getD y 0:=fun y=>by
    rw[kw (by simpa using s),kw j]
  have lu:=h.low u A
  have lv:=h.low v C
  refine⟨⟨by simp[Es,h.len],fun y F=>?_,fun y F=>?_⟩,?_⟩
  · simp only[Es,Ai]
    split
    · rename_i e;subst e;omega
    · split
      · rename_i e;subst e;omega
      · exact h.low y F
  · simp only[Es,Ai]
    have cm:Conn es (Io (L.getD u 0) (L.getD v 0)).toNat u:=by
      rcases m3 with e | e<;>rw[e]
      · exact h.con u A
      · exact(h.con v C).trans k.symm
    split
    · rename_i e;subst e;exact cm.trans k
    · split
      · rename_i e;subst e;exact cm
      · exact h.con y F
  · by_cases e1:L.getD u 0=Io (L.getD u 0) (L.getD v 0)<;>by_cases D:L.getD v 0=Io (L.getD u 0) (L.getD v 0)
    · right
      have q:(L.set u (Io (L.getD u 0) (L.getD v 0))).set v (Io (L.getD u 0) (L.getD v 0))=L:=by
        have key:∀ m:Int,L.getD u 0=m→L.getD v 0=m→(L.set u m).set v m=L:=by
          intro m I K
          have a1:L.set u m=L:=by rw[←I,FZ j,Ao0]
          have a2:L.set v m=L:=by rw[←K,FZ s,Ao0]
          rw[a1,a2]
        exact key _ e1 D
      have x1:(L.getD u 0 != Io (L.getD u 0) (L.getD v 0))=false:=by simpa using e1
      have x2:(L.getD v 0 != Io (L.getD u 0) (L.getD v 0))=false:=by simpa using D
      refine⟨by simp only[Es,q,x1,x2,Bool.or_false],by rw[e1];exact D.symm⟩
    all_goals
      left
      have M:=yD (v:=Io (L.getD u 0) (L.getD v 0)) j
      have z:=yD (L:=L.set u (Io (L.getD u 0) (L.getD v 0))) (x:=v) (v:=Io (L.getD u 0) (L.getD v 0)) (by simpa using s)
      rw[kw j] at z
      refine⟨?_,?_⟩
      · first
          | (have x2 : (L.getD v 0 != Io (L.getD u 0) (L.getD v 0)) = true := by simpa using D
             simp only[Es,x2,Ama])
          | (have x1 : (L.getD u 0 != Io (L.getD u 0) (L.getD v 0)) = true := by simpa using e1
             simp only[Es,x1,Ama,Amo])
      · simp only[Es]
        split at z
        · rename_i e;subst e;omega
        · omega
theorem rR {n:Nat} {es:List (Nat×Nat)} (k:∀ e ∈ es,e.1<n∧e.2<n):∀ (fs:List (Nat×Nat)) (b:Bool) (L:List Int),(∀ e ∈ fs,e ∈ es)→LeastOk n es L →
  LeastOk n es (fs.foldl Es (b,L)).2∧(((fs.foldl Es (b,L)).1=true∧(RZ (fs.foldl Es (b,L)).2<RZ L∨(b=true∧RZ (fs.foldl Es (b,L)).2≤RZ L)))∨((fs.foldl Es (b,L))=(b,L)∧yC fs L))
 | [],b,L,_,h=>⟨h,.inr ⟨rfl,fun e k=>by simp at k⟩⟩
 | e::r,b,L,v,h=>by
  have y:=v e (by simp)
  obtain⟨D,F⟩:=zR y (k e y).1 (k e y).2 (b:=b) h
  rw[Amx]
  rcases F with⟨z,A⟩ | ⟨z,A⟩
  ·have G:Es (b,L) e=(true,(Es (b,L) e).2):=by rw[←z]
   rw[G]
   obtain⟨C,q⟩:=rR k r true (Es (b,L) e).2 (fun x j=>v x (Amc _ j)) D
   refine⟨C,.inl ?_⟩
   rcases q with⟨s,u⟩ | ⟨s,_⟩
   ·exact⟨s,.inl (by rcases u with u | ⟨_,u⟩<;>omega)⟩
   ·rw[s];exact⟨rfl,.inl A⟩
  ·rw[z]
   obtain⟨C,q⟩:=rR k r b L (fun x j=>v x (Amc _ j)) h
   refine⟨C,?_⟩
   rcases q with q | ⟨s,u⟩
   ·exact .inl q
   ·refine .inr ⟨s,fun x j=>?_⟩
    rcases Alb.1 j with rfl | j
    ·exact A
    ·exact u x j
theorem eD {N:Nat} {es:List (Nat×Nat)} {n:Nat} {t o:Bool} (hs:D8 es.length N) (j:∀ e ∈ es,e.1<n∧e.2<n):∀ (s fuel:Nat) (L:List Int),LeastOk n es L→RZ L≤s→s+2<fuel →
  ∃ L',LeastOk n es L'∧yC es L'∧∀ K:Nat→LA→O R,Cq N K (es.flatMap Bm) es.length t o n fuel true (Ah L)=K n (Ah L')
 | s,fuel+1,L,h,hL,z=>by
  obtain⟨q,u⟩:=rR j es false L (fun _ v=>v) h
  have step:∀ K:Nat→LA→O R,Cq N K (es.flatMap Bm) es.length t o n (fuel+1) true (Ah L)=Cq N K (es.flatMap Bm) es.length t o n fuel (es.foldl Es (false,L)).1 (Ah (es.foldl Es (false,L)).2):=fun K=>by
   rw[Cq];unfold N2
   have:=eC (R:=R) (N:=N) (es:=es) (n:=n) (t:=t) (o:=o) (K1:=Cq N K (es.flatMap Bm) es.length t o n fuel) (K:=K) hs.2 j es.length 0 N (false,L) (by omega) hs.1 h.len
   simpa using this
  rcases u with⟨k,b⟩ | ⟨k,b⟩
  ·have y:RZ (es.foldl Es (false,L)).2<RZ L:=by
    rcases b with b | ⟨b,_⟩
    ·exact b
    ·cases b
   obtain⟨L',a1,a2,a3⟩:=eD hs j (s - 1) fuel _ q (by omega) (by omega)
   exact⟨L',a1,a2,fun K=>by rw[step,k];exact a3 K⟩
  ·refine⟨L,h,b,fun K=>?_⟩
   rw[step,k]
   rcases fuel with _ | fuel
   ·omega
   ·rw[Cq];unfold N2;rfl
 termination_by s=>s
 decreasing_by omega
theorem eE {N:Nat} {es:List (Nat×Nat)} {n:Nat} {t o:Bool} {K:Nat→LA→O R} (hn:n<4611686018427387904) (L:List Int) (hL:L.length=n):∀ (m j fuel:Nat),j+m=n→m<fuel →
  Gk N K (n:Int) (es.flatMap Bm) es.length t o fuel n (j:Int) (Ah ((D7 n).take j++L.drop j))=Cq N K (es.flatMap Bm) es.length t o n N true (Ah (D7 n))
 | 0,j,fuel+1,e,_=>by
  rw[Gk];unfold N3
  rw[G3 (by omega),cf,Bn (by omega),Alf,Akt (by simp[D7];omega)]
 | m+1,j,fuel+1,e,k=>by
  rw[Gk];unfold N3
  have h:j<n:=by omega
  have b:((D7 n).take j++L.drop j).length=n:=by simp[D7];omega
  rw[F7 h,ct,Ac h,ct,F_ (by rw[b];simpa using h),ct,Aku,Akz,Ak6,T3,RY hL h,Bf (by omega),eE hn L hL m (j+1) fuel (by omega) (by omega)]
theorem xC (n:Nat) (es:List (Nat×Nat)):LeastOk n es (D7 n):=by
 refine⟨by simp[D7],fun b e=>?_,fun b e=>?_⟩
 ·rw[NT e];omega
 ·rw[NT e];exact .refl _
theorem Afk {L:List Int} {b:Nat}:(∀ x ∈ L,x.toNat≤b)→RZ L≤L.length*b:=by
 unfold RZ
 induction L with
 | nil=>intro _;simp
 | cons a r e =>
  intro h
  have k:=h a (by simp)
  have q:=e (fun x j=>h x (Amc _ j))
  simp[Amz];omega
theorem XE {N:Nat} {es:List (Nat×Nat)} {n:Nat} {t o:Bool} (hs:D8 es.length N) (hn:n≤1000) (hN:n*n+1000<N) (q:∀ e ∈ es,e.1<n∧e.2<n) :
  ∃ L,LeastOk n es L∧yC es L∧∀ (m:Nat) (K:Nat→LA→O R),m=es.length→Ov N (n:Int) (es.flatMap Bm) m t o K=K n (Ah L):=by
 have j:RZ (D7 n)≤n*n:=by
  have:=Afk (L:=D7 n) (b:=n) (by
   intro x k;simp[D7] at k;obtain⟨a,z,rfl⟩:=k;simp;omega)
  simpa[D7] using this
 obtain⟨L,s,u,v⟩:=eD (R:=R) (N:=N) (es:=es) (n:=n) (t:=t) (o:=o) hs q (n*n) N (D7 n) (xC n es) j (by omega)
 refine⟨L,s,u,fun m K y=>?_⟩
 subst y
 rw[HJ];unfold Vu
 have ok:(decide ((0:Int)≤(n:Int))&&(decide ((n:Int)≤(n:Int))&&(decide ((n:Int)≤(140737488355328:Int))&&decide (((n:Int)*((8:Nat):Int))≤(140737488355328:Int)))))=true:=by simp;omega
 have e:replicate n (AV.int .i64 (0:Int))=Ah (replicate n 0):=by simp[Ah]
 have:=eE (R:=R) (N:=N) (es:=es) (n:=n) (t:=t) (o:=o) (K:=K) (by omega) (replicate n 0) (by simp) n 0 N (by omega) (by omega)
 rw[ok,ct,Aku,e,←v K]
 simpa using this
theorem R_ {N:Nat} {L:List Int} {t o:Bool} {K:Int→O R} (hs:L.length<1000000):∀ (m j fuel:Nat) (a:Nat),j+m=L.length→m<fuel→a≤j →
  Ji N K (Ah L) L.length t o fuel (a:Int) (j:Int)=K ((a+((List.range' j m).filter fun b=>L.getD b 0==(b:Int)).length:Nat):Int)
 | 0,j,fuel+1,a,e,_,_=>by
  rw[Ji];unfold Sp
  rw[G3 (by omega),cf];simp
 | m+1,j,fuel+1,a,e,k,q=>by
  rw[Ji];unfold Sp
  have h:j<L.length:=by omega
  rw[F7 h,ct,Ac h,ct,Qc h,Bf (by omega),Bf (by omega),List.range'_succ,Amg,FZ h]
  cases s:L[j]==(j:Int) with
  | true =>
   rw[ct,R_ hs m (j+1) fuel (a+1) (by omega) (by omega) (by omega)]
   simp;congr 1;omega
  | false =>
   rw[cf,R_ hs m (j+1) fuel a (by omega) (by omega) (by omega)]
   simp
theorem ky {N:Nat} {L:List Int} {n:Nat} {t o:Bool} {K:Int→O R} (hn:n=L.length) (hs:L.length<1000000) (hN:L.length<N):Wc N (Ah L) n t o K=K (Adk L:Int):=by
 subst hn
 rw[PY];unfold FH
 have:=R_ (R:=R) (N:=N) (L:=L) (t:=t) (o:=o) (K:=K) hs L.length 0 N 0 (by omega) hN (by omega)
 simp only[Alw,Akz] at this
 rw[Adk,List.range_eq_range']
 exact this
def XF (gone:List Int):List (Nat×Nat)→Nat→List (Nat×Nat)
 | [],_=>[]
 | e::r,j=>cond (gone.contains (j:Int)) (XF gone r (j+1)) (e::XF gone r (j+1))
theorem kz {N:Nat} {es:List (Nat×Nat)} {gone:List Int} {n:Nat} {t o t2 o2:Bool} {K:Bool→O R} (D:es.length≤1000) (hlN:es.length<N) (hn:n≤1000) (hN:n*n+1000<N) (b:∀ e ∈ es,e.1<n∧e.2<n) (u:D8 gone.length N):∀ (m j fuel:Nat) (A:List (Nat×Nat)),j+m=es.length→m<fuel→A.length≤j→(∀ e ∈ A,e.1<n∧e.2<n) →
  El N K (n:Int) (es.flatMap Bm) es.length t o (Ah gone) gone.length t2 o2 fuel A.length (j:Int) (A.flatMap Bm)=K (decide ((Gy n (A++XF gone (es.drop j) j):Int)>(Gy n es:Int)))
 | 0,j,fuel+1,A,F,_,hA,hAe=>by
  rw[El];unfold Kw
  obtain⟨L,a1,a2,a3⟩:=XE (R:=R) (N:=N) (es:=A) (n:=n) (t:=false) (o:=true) ⟨by omega,by omega⟩ hn hN hAe
  obtain⟨L',q,v,y⟩:=XE (R:=R) (N:=N) (es:=es) (n:=n) (t:=false) (o:=o) ⟨by omega,by omega⟩ hn hN b
  have l1:=a1.len;have l2:=q.len
  rw[G3 (by omega),cf,Bn (l:=es) (by omega),XF,Alf,Akt (by rw[NV];exact Akw _),a3 _ _ rfl,Ak6,Akt (by rw[Cz];omega),ky (by omega) (by omega) (by omega),y _ _ rfl,Akt (by rw[Cz];omega),ky (by omega) (by omega) (by omega),dz a1 a2 hAe,dz q v b]
 | m+1,j,fuel+1,A,F,S,hA,hAe=>by
  rw[El];unfold Kw
  have h:j<es.length:=by omega
  have k:=kz (N:=N) (es:=es) (gone:=gone) (n:=n) (t:=t) (o:=o) (t2:=t2) (o2:=o2) (K:=K) D hlN hn hN b u m (j+1) fuel (A++[es[j]]) (by omega) (by omega) (by simp;omega) (by
   intro e z
   rcases Ak2.1 z with s | s
   ·exact hAe e s
   ·simp at s;subst s;exact b _ (Ak3 h))
  have C:=kz (N:=N) (es:=es) (gone:=gone) (n:=n) (t:=t) (o:=o) (t2:=t2) (o2:=o2) (K:=K) D hlN hn hN b u m (j+1) fuel A (by omega) (by omega) (by omega) hAe
  rw[F7 h,ct,V5 rfl u,Ac h,ct,Aku,Ar Qd _ _ h,Bb (l:=es) h,XF]
  generalize es[j]=e at *
  have q:ble 2 (List.length (Bm e++List.flatMap Bm (drop (j+1) es)))=true:=by rw[Bv,Akx,Qd];simp
  have v:take 2 (Bm e++List.flatMap Bm (drop (j+1) es))=Bm e:=Ald (Qd e)
  have y:(ble (A.length+1) 140737488355328&&ble ((A.length+1)*16) 140737488355328)=true:=by rw[Bv,Bv];simp;omega
  have G:(!o||Ax (Bm e))=true:=by simp[Bm,Ax]
  have I:take 2 (setCells [(.int .i64 (0:Int)),(.int .i64 (0:Int))] 0 (Bm e))=Bm e:=rfl
  have M:take (A.length*2) (A.flatMap Bm)++Bm e=(A++[e]).flatMap Bm:=by
   rw[Akt (by rw[NV];exact Akw _)];simp
  rw[q,ct,v,G,ct,Qd,show(beq 2 2&&ble 2 2)=true from rfl,ct,y,ct,I,M,Bf (by omega)]
  cases gone.contains (j:Int) with
  | true=>simp only[Am7,cond_false,cond_true];exact C
  | false =>
   simp only[Alq,cond_true,cond_false]
   rw[Akx] at k
   simpa using k
theorem lA {N:Nat} {es:List (Nat×Nat)} {gone:List Int} {n m m2:Nat} {t o t2 o2:Bool} {K:Bool→O R} (j:m=es.length) (b:m2=gone.length) (k:es.length≤1000) (hlN:es.length<N) (hn:n≤1000) (hN:n*n+1000<N) (q:∀ e ∈ es,e.1<n∧e.2<n) (s:D8 gone.length N) :
  Nk N (n:Int) (es.flatMap Bm) m t o (Ah gone) m2 t2 o2 K=K (decide ((Gy n (XF gone es 0):Int)>(Gy n es:Int))):=by
 subst j b
 rw[Y6];unfold P0
 have:=kz (R:=R) (N:=N) (es:=es) (gone:=gone) (n:=n) (t:=t) (o:=o) (t2:=t2) (o2:=o2) (K:=K) k hlN hn hN q s es.length 0 N [] (by omega) hlN (by simp) (by simp)
 simpa using this
theorem Ct {p:Ca} {ok:Bool} {w:Int×Int×Int} {e:{ e:Int // e≠0 }} (h:nd p ok w e=none):p=none∧ok=true:=by
 rcases p with _ | x
 ·cases ok
  ·simp[nd] at h
  ·exact⟨rfl,rfl⟩
 ·simp[nd] at h
theorem Of {α:Type} {f:Nat→α→Ca→Ca} (e:∀ j a x,f j a (some x)=some x):∀ (l:List α) (j:Nat) (p:Ca),A6 f l j p=none→p=none∧∀ i (h:i<l.length),f (j+i) l[i] none=none
 | [],j,p,h=>by rw[A6] at h;exact⟨h,fun i hi=>by simp at hi⟩
 | a::r,j,p,h=>by
  rw[A6] at h
  obtain⟨b,k⟩:=Of e r (j+1) _ h
  have q:p=none:=by
   rcases p with _ | x
   ·rfl
   ·rw[e] at b;cases b
  subst q
  refine⟨rfl,fun i hi=>?_⟩
  cases i with
  | zero=>simpa using b
  | succ i=>have:=k i (by simpa using hi);rw[show j+1+i=j+(i+1) by omega] at this;simpa using this
theorem NW {c:CaseD} (j:Nat) (x:BusD) (y:(Int×Int×Int)×{ e:Int // e≠0 }):nU c j x (some y)=some y:=rfl
theorem Xp {c:CaseD} (j:Nat) (x:LineD) (y:(Int×Int×Int)×{ e:Int // e≠0 }):CQ c j x (some y)=some y:=rfl
theorem L1 {c:CaseD} (j:Nat) (x:StoreD) (y:(Int×Int×Int)×{ e:Int // e≠0 }):Ud c j x (some y)=some y:=rfl
theorem O5 {c:CaseD} (j:Nat) (x:TieD) (y:(Int×Int×Int)×{ e:Int // e≠0 }):nV c j x (some y)=some y:=rfl
theorem Rr {c:CaseD} (j:Nat) (x:UnitD) (y:(Int×Int×Int)×{ e:Int // e≠0 }):HW c j x (some y)=some y:=by
 show cond (x.state==2) _ _=_
 cases x.state==2<;>rfl
def CW (c:CaseD):Ca :=
 let p:=LV c none
 let p:=A6 (nU c) c.buses.l 0 p
 let p:=A6 (CQ c) c.lines.l 0 p
 let p:=A6 (HW c) c.units.l 0 p
 let p:=A6 (Ud c) c.stores.l 0 p
 let p:=A6 (nV c) c.ties.l 0 p
 A6 (RX c) c.outs.l 0 p
noncomputable def Ab1 (c:CaseD) (h:Int) (o:OutD):Bool :=
 (Gy c.buses.l.length (((Aq c h).filter fun l=>!o.lines.l.contains l).map (D0 c)):Int)==(Gy c.buses.l.length ((Aq c h).map (D0 c)):Int)
noncomputable def uI (c:CaseD) (h:Int) (j:Nat) (o:OutD) (p:Ca):Ca:=nd p (Ab1 c h o) (6,j,h) Akq
noncomputable def Jw (c:CaseD):Nat→Nat→Ca→Ca
 | 0,_,p=>p
 | m+1,j,p=>Jw c m (j+1) (A6 (uI c j) c.outs.l 0 p)
theorem zS {c:CaseD} {h:Int} (j:Nat) (x:OutD) (y:(Int×Int×Int)×{ e:Int // e≠0 }):uI c h j x (some y)=some y:=rfl
theorem eG {c:CaseD} {y:(Int×Int×Int)×{ e:Int // e≠0 }}:∀ (m j:Nat),Jw c m j (some y)=some y
 | 0,_=>rfl
 | m+1,j=>by rw[Jw,A4 (fun j a=>zS j a y)];exact eG m (j+1)
noncomputable def D9 (c:CaseD):Ca:=match CW c with
 | some x=>some x
 | none=>Jw c c.hours.toNat 0 none
structure PreV (c:CaseD):Prop where
 hours:1≤c.hours∧c.hours≤24
 nb:c.buses.l.length≤32
 nl:c.lines.l.length≤64
 no:c.outs.l.length≤64
 line:∀ x ∈ c.lines.l,0≤x.fr∧x.fr.toNat<c.buses.l.length∧0≤x.tl∧x.tl.toNat<c.buses.l.length
 out:∀ x ∈ c.outs.l,x.lines.l.length≤2
theorem oh {c:CaseD} (h:CW c=none):PreV c:=by
 unfold CW at h
 obtain⟨y,o6⟩:=Of (fun _ _ _=>Kg) _ _ _ h
 obtain⟨z,o5⟩:=Of (fun j a x=>O5 j a x) _ _ _ y
 obtain⟨A,o4⟩:=Of (fun j a x=>L1 j a x) _ _ _ z
 obtain⟨C,o3⟩:=Of (fun j a x=>Rr j a x) _ _ _ A
 obtain⟨D,o2⟩:=Of (fun j a x=>Xp j a x) _ _ _ C
 obtain⟨u,o1⟩:=Of (fun j a x=>NW j a x) _ _ _ D
 unfold LV at u
 obtain⟨F,G⟩:=Ct u
 obtain⟨I,_⟩:=Ct F
 obtain⟨K,_⟩:=Ct I
 obtain⟨L,_⟩:=Ct K
 obtain⟨w3,k⟩:=Ct L
 obtain⟨M,b⟩:=Ct w3
 obtain⟨O,_⟩:=Ct M
 obtain⟨w0,_⟩:=Ct O
 obtain⟨_,q⟩:=Ct w0
 unfold D2 at q b
 simp at q b k G
 refine⟨q,by omega,by omega,by omega,fun x s=>?_,fun x s=>?_⟩
 ·obtain⟨i,hi,rfl⟩:=Alr s
  have:=o2 i hi
  unfold CQ LU at this
  obtain⟨a,_⟩:=Ct this
  obtain⟨a,_⟩:=Ct a
  obtain⟨a,_⟩:=Ct a
  obtain⟨a,_⟩:=Ct a
  obtain⟨a,_⟩:=Ct a
  obtain⟨a,_⟩:=Ct a
  obtain⟨a,_⟩:=Ct a
  obtain⟨a,_⟩:=Ct a
  obtain⟨a,v⟩:=Ct a
  obtain⟨_,e⟩:=Ct a
  unfold HU at v e
  simp at v e
  omega
 ·obtain⟨i,hi,rfl⟩:=Alr s
  have:=o6 i hi
  unfold RX RW at this
  obtain⟨a,_⟩:=Ct this
  obtain⟨a,_⟩:=Ct a
  obtain⟨a,_⟩:=Ct a
  obtain⟨a,_⟩:=Ct a
  obtain⟨a,_⟩:=Ct a
  obtain⟨a,_⟩:=Ct a
  obtain⟨a,_⟩:=Ct a
  obtain⟨_,e⟩:=Ct a
  simp at e
  omega
theorem PreV.lnV {c:CaseD} (v:PreV c) {h:Int} {l:Int} (k:l ∈ Aq c h):∃ x,LnV c l x:=by
 have:=uH h c.lines.l 0 l k
 have h0:0≤l:=by omega
 have j:l.toNat<c.lines.l.length:=by omega
 obtain⟨a,b,d,e⟩:=v.line _ (Ak3 j)
 exact⟨c.lines.l[l.toNat],h0,j,Aky j,a,b,d,e⟩
def w3 (p:Ca):LA:=match p with
 | none=>[.int .i64 0,.int .i64 0,.int .i64 0]
 | some ((a,b,f),_)=>[.int .i64 a,.int .i64 b,.int .i64 f]
theorem Ab2 {N:Nat} {c:CaseD} {p:Ca} {o:Bool} {j:Nat} {K:Int→LA→O R} {K2:LA→Int→O R} (hs:Small c N) (h:j<c.buses.l.length) :
  P1 N K K2 o c.av (j:Int) (Cn p)=K ((j+1:Nat):Int) (Cn (nU c j c.buses.l[j] p)):=by
 have hN:=hs.n64
 have hN8:8≤N:=by omega
 have e:=hs.bus
 have u:c.buses.l[j] ∈ c.buses.l:=Ak3 h
 have v:=hs.dem _ u
 have q:=@C7 R N c (c.buses.l.map (·.name)) o (k:=1) (n:=j) (hN:=hN) (hL:=fun K=>uG hs) (hn:=by simpa using h) (hs:=⟨by have:=e.1;omega,by have:=e.2;omega⟩)
 have s:(c.buses.l.map (·.name))[j]'(by simpa using h)=c.buses.l[j].name:=by simp
 rw[s] at q
 unfold P1
 simp only[Cc,Be,ct,q,Ly]
 rw[Ac h,ct,Aku,Ar Lz _ _ h]
 generalize c.buses.l[j]=b at *
 have y:∀ (r:LA) (f:LA→Nat→O R),Ba 1 (drop 1 (b.av++r)) f=f (Ah b.demand.l) b.demand.l.length:=fun r f=>by simp[BusD.av,Cy,C6]
 have z:∀ (r:LA) (f:Int→O R),Ao .i64 (drop 2 (b.av++r)) f=f b.shed:=fun r f=>by simp[BusD.av,Aw]
 rw[y,Di rfl v,ct,z,Dc hN8,Ae (by decide),Bf (by have:=e.2;omega)]
 rfl
theorem rS {p:Ca} {K:LA→Int→O R}:(cond (ble 3 (List.length (Cn p))) (Ao .i64 (drop 3 (Cn p)) fun x38=>cond ((beq (List.length (take 3 (Cn p))) 3)&&((ble 3 3)&&(!false))) (cond (ble 3 (List.length (setCells [(.int .i64 (0:Int)),(.int .i64 (0:Int)),(.int .i64 (0:Int))] 0 (take 3 (Cn p))))) (K (take 3 (setCells [(.int .i64 (0:Int)),(.int .i64 (0:Int)),(.int .i64 (0:Int))] 0 (take 3 (Cn p)))) x38) none) none) none)=K (w3 p) (A8 p):=by
 rcases p with _ | ⟨⟨a,b,f⟩,e,j⟩<;>simp[Cn,CN,w3,A8,Bv,setCells,Dd,Aw]
theorem eI {N:Nat} {c:CaseD} {o:Bool} {K:LA→Int→O R} (hs:Small c N):∀ (m j fuel:Nat) (p:Ca),j+m=c.buses.l.length→m<fuel →
  Hi N K o c.av fuel (j:Int) (Cn p)=Jn N K o c.av N 0 (Cn (A6 (nU c) (c.buses.l.drop j) j p))
 | 0,j,fuel+1,p,k,_=>by
  rw[Hi];unfold Sx
  rw[Ly,G3 (by omega),Bn (l:=c.buses.l) (by omega),A6];rfl
 | m+1,j,fuel+1,p,k,u=>by
  rw[Hi];unfold Sx
  have h:j<c.buses.l.length:=by omega
  have b:=hs.bus
  rw[Ly,F7 h,AJ,Bb (l:=c.buses.l) h,A6]
  rcases p with _ | ⟨x,e,q⟩
  ·simp only[A8,beq_self_eq_true,cond_true]
   rw[Ab2 hs h,eI hs m (j+1) fuel _ (by omega) (by omega)]
  ·have s:(e==0)=false:=by simpa using q
   simp only[A8,s,beq_self_eq_true,cond_true,cond_false]
   rw[NW,A4 (fun _ _=>NW _ _ _)]
theorem eJ {N:Nat} {c:CaseD} {o:Bool} {K:LA→Int→O R} (hs:Small c N):∀ (m j fuel:Nat) (p:Ca),j+m=c.lines.l.length→m<fuel →
  Jn N K o c.av fuel (j:Int) (Cn p)=Jm N K o c.av N 0 (Cn (A6 (CQ c) (c.lines.l.drop j) j p))
 | 0,j,fuel+1,p,k,_=>by
  rw[Jn];unfold Sw
  rw[Il,G3 (by omega),Bn (l:=c.lines.l) (by omega),A6];rfl
 | m+1,j,fuel+1,p,k,u=>by
  rw[Jn];unfold Sw
  have h:j<c.lines.l.length:=by omega
  have b:=hs.lin
  rw[Il,F7 h,AJ,Bb (l:=c.lines.l) h,A6]
  rcases p with _ | ⟨x,e,q⟩
  ·simp only[A8,beq_self_eq_true,cond_true]
   rw[Cc,ct,Be,IJ hs h,Bf (by have:=b.2;omega),eJ hs m (j+1) fuel _ (by omega) (by omega)]
  ·have s:(e==0)=false:=by simpa using q
   simp only[A8,s,beq_self_eq_true,cond_true,cond_false]
   rw[Xp,A4 (fun _ _=>Xp _ _ _)]
theorem eK {N:Nat} {c:CaseD} {o:Bool} {K:LA→Int→O R} (hs:Small c N):∀ (m j fuel:Nat) (p:Ca),j+m=c.units.l.length→m<fuel →
  Jm N K o c.av fuel (j:Int) (Cn p)=Jl N K o c.av N 0 (Cn (A6 (HW c) (c.units.l.drop j) j p))
 | 0,j,fuel+1,p,k,_=>by
  rw[Jm];unfold Sv
  rw[Cu,G3 (by omega),Bn (l:=c.units.l) (by omega),A6];rfl
 | m+1,j,fuel+1,p,k,u=>by
  rw[Jm];unfold Sv
  have h:j<c.units.l.length:=by omega
  have b:=hs.uni
  rw[Cu,F7 h,AJ,Bb (l:=c.units.l) h,A6]
  rcases p with _ | ⟨x,e,q⟩
  ·simp only[A8,beq_self_eq_true,cond_true]
   rw[Cc,ct,Be,IK hs h,Bf (by have:=b.2;omega),eK hs m (j+1) fuel _ (by omega) (by omega)]
  ·have s:(e==0)=false:=by simpa using q
   simp only[A8,s,beq_self_eq_true,cond_true,cond_false]
   rw[Rr,A4 (fun _ _=>Rr _ _ _)]
theorem eM {N:Nat} {c:CaseD} {o:Bool} {K:LA→Int→O R} (hs:Small c N):∀ (m j fuel:Nat) (p:Ca),j+m=c.stores.l.length→m<fuel →
  Jl N K o c.av fuel (j:Int) (Cn p)=Jk N K o c.av N 0 (Cn (A6 (Ud c) (c.stores.l.drop j) j p))
 | 0,j,fuel+1,p,k,_=>by
  rw[Jl];unfold Su
  rw[We,G3 (by omega),Bn (l:=c.stores.l) (by omega),A6];rfl
 | m+1,j,fuel+1,p,k,u=>by
  rw[Jl];unfold Su
  have h:j<c.stores.l.length:=by omega
  have b:=hs.sto
  rw[We,F7 h,AJ,Bb (l:=c.stores.l) h,A6]
  rcases p with _ | ⟨x,e,q⟩
  ·simp only[A8,beq_self_eq_true,cond_true]
   rw[Cc,ct,Be,FY hs h,Bf (by have:=b.2;omega),eM hs m (j+1) fuel _ (by omega) (by omega)]
  ·have s:(e==0)=false:=by simpa using q
   simp only[A8,s,beq_self_eq_true,cond_true,cond_false]
   rw[L1,A4 (fun _ _=>L1 _ _ _)]
theorem eN {N:Nat} {c:CaseD} {o:Bool} {K:LA→Int→O R} (hs:Small c N):∀ (m j fuel:Nat) (p:Ca),j+m=c.ties.l.length→m<fuel →
  Jk N K o c.av fuel (j:Int) (Cn p)=Jj N K o c.av N 0 (Cn (A6 (nV c) (c.ties.l.drop j) j p))
 | 0,j,fuel+1,p,k,_=>by
  rw[Jk];unfold Ss
  rw[NR,G3 (by omega),Bn (l:=c.ties.l) (by omega),A6];rfl
 | m+1,j,fuel+1,p,k,u=>by
  rw[Jk];unfold Ss
  have h:j<c.ties.l.length:=by omega
  have b:=hs.tie
  rw[NR,F7 h,AJ,Bb (l:=c.ties.l) h,A6]
  rcases p with _ | ⟨x,e,q⟩
  ·simp only[A8,beq_self_eq_true,cond_true]
   rw[Cc,ct,Be,LX hs h,Bf (by have:=b.2;omega),eN hs m (j+1) fuel _ (by omega) (by omega)]
  ·have s:(e==0)=false:=by simpa using q
   simp only[A8,s,beq_self_eq_true,cond_true,cond_false]
   rw[O5,A4 (fun _ _=>O5 _ _ _)]
theorem eQ {N:Nat} {c:CaseD} {o:Bool} {K:LA→Int→O R} (hs:Small c N):∀ (m j fuel:Nat) (p:Ca),j+m=c.outs.l.length→m<fuel →
  Jj N K o c.av fuel (j:Int) (Cn p)=Db N K o c.av N 0 (Cn (A6 (RX c) (c.outs.l.drop j) j p))
 | 0,j,fuel+1,p,k,_=>by
  rw[Jj];unfold Sr
  rw[Ms,G3 (by omega),Bn (l:=c.outs.l) (by omega),A6];rfl
 | m+1,j,fuel+1,p,k,u=>by
  rw[Jj];unfold Sr
  have h:j<c.outs.l.length:=by omega
  have b:=hs.out
  rw[Ms,F7 h,AJ,Bb (l:=c.outs.l) h,A6]
  rcases p with _ | ⟨x,e,q⟩
  ·simp only[A8,beq_self_eq_true,cond_true]
   rw[Cc,ct,Be,CV hs h,Bf (by have:=b.2;omega),eQ hs m (j+1) fuel _ (by omega) (by omega)]
  ·have s:(e==0)=false:=by simpa using q
   simp only[A8,s,beq_self_eq_true,cond_true,cond_false]
   rw[Kg,A4 (fun _ _=>Kg)]
def Xq (ol:List Int):List Int→Nat→List Int
 | [],_=>[]
 | a::r,j=>cond (ol.contains a) ((j:Int)::Xq ol r (j+1)) (Xq ol r (j+1))
theorem uJ (ol:List Int):∀ (l:List Int) (j:Nat) (x:Int),x ∈ Xq ol l j→(j:Int)≤x
 | [],_,_,h=>by simp[Xq] at h
 | a::r,j,x,h=>by
  rw[Xq] at h
  have b:=uJ ol r (j+1) x
  cases e:ol.contains a<;>rw[e] at h<;>simp at h
  ·have:=b h;omega
  ·rcases h with rfl | h
   ·omega
   ·have:=b h;omega
theorem aV {f:Int→Nat×Nat} (ol:List Int):∀ (l:List Int) (j:Nat) (pre:List Int),(∀ x ∈ pre,x<(j:Int))→XF (pre++Xq ol l j) (l.map f) j=((l.filter fun a=>!ol.contains a).map f)
 | [],_,_,_=>rfl
 | a::r,j,pre,q=>by
  rw[Ak9,XF,Xq,Amg]
  have e:¬ (j:Int) ∈ pre:=fun h=>by have:=q _ h;omega
  cases u:ol.contains a with
  | true =>
   have s:(pre++cond true ((j:Int)::Xq ol r (j+1)) (Xq ol r (j+1))).contains (j:Int)=true:=by simp
   rw[s]
   have:=aV (f:=f) ol r (j+1) (pre++[(j:Int)]) (by
    intro x b
    rcases Ak2.1 b with k | k
    ·have:=q x k;omega
    ·simp at k;omega)
   simp only[cond_true,Am7,Amr,if_false]
   rw[←this];simp
  | false =>
   have s:(pre++cond false ((j:Int)::Xq ol r (j+1)) (Xq ol r (j+1))).contains (j:Int)=false:=by
    simp only[cond_false]
    rw[List.contains_eq_mem]
    simp only[decide_eq_false_iff_not,Ak2,not_or]
    exact⟨e,fun k=>by have:=uJ ol r (j+1) _ k;omega⟩
   rw[s]
   have:=aV (f:=f) ol r (j+1) pre (by intro x b;have:=q x b;omega)
   simp only[cond_false,Alq,if_true,Ak9]
   rw[this]
theorem GA {N:Nat} {c:CaseD} {o:Bool} {hr:Int} {j:Nat} {p:Ca} {K7:Int→LA→O R} {K9:Int→Int→LA→O R} {K:LA→Int→O R} (hs:Small c N) (hN:4096≤N) (v:PreV c) (h:j<c.outs.l.length):∀ (m q fuel:Nat) (A:List Int),q+m=(Aq c hr).length→m<fuel→A.length≤q →
  A++Xq c.outs.l[j].lines.l ((Aq c hr).drop q) q=Xq c.outs.l[j].lines.l (Aq c hr) 0 →
  Hx N K7 K9 K (Aq c hr).length (Aq c hr).length o c.av (((Aq c hr).map (D0 c)).flatMap Bm) (Ah (Aq c hr)) fuel hr (j:Int) A.length (q:Int) (Cn p) (Ah A)=K9 hr ((j+1:Nat):Int) (Cn (uI c hr j c.outs.l[j] p))
 | 0,q,fuel+1,A,hq,_,hA,b=>by
  rw[Hx];unfold P2
  have I:=T4 hr c.lines.l 0
  have L:=v.nl
  have s:=v.nb
  have u:=hs.out
  have U:c.buses.l.length*c.buses.l.length≤32*32:=Nat.mul_le_mul s s
  have z:(Aq c hr).length≤64:=by unfold Aq;omega
  rw[Bn (l:=Aq c hr) (by omega),Xq,Alf] at b
  have F:∀ e ∈ (Aq c hr).map (D0 c),e.1<c.buses.l.length∧e.2<c.buses.l.length:=by
   intro e F
   simp only[Als] at F
   obtain⟨l,M,rfl⟩:=F
   obtain⟨x,k⟩:=v.lnV M
   rw[NU k];exact⟨k.f1,k.t1⟩
  rw[G3 (by omega),cf,Ly,Akt (by rw[NV];simp),Ak6,Akt (by rw[Cz];exact Akw _),
   lA (by simp) rfl (by simp;omega) (by simp;omega) (by omega) (by omega) F ⟨by omega,by omega⟩,Ae (by decide),Bf (by have:=u.2;omega)]
  have e1:XF A ((Aq c hr).map (D0 c)) 0=(((Aq c hr).filter fun a=>!c.outs.l[j].lines.l.contains a).map (D0 c)):=by
   rw[b]
   have:=aV (f:=D0 c) c.outs.l[j].lines.l (Aq c hr) 0 [] (by simp)
   simpa using this
  rw[e1]
  have S:Gy c.buses.l.length ((Aq c hr).map (D0 c))≤Gy c.buses.l.length (((Aq c hr).filter fun a=>!c.outs.l[j].lines.l.contains a).map (D0 c)):=wz (by
   intro e C
   simp only[Als,Amy] at C ⊢
   obtain⟨l,⟨M,_⟩,rfl⟩:=C
   exact⟨l,M,rfl⟩)
  have V:(!decide ((Gy c.buses.l.length (((Aq c hr).filter fun a=>!c.outs.l[j].lines.l.contains a).map (D0 c)):Int)>(Gy c.buses.l.length ((Aq c hr).map (D0 c)):Int)))=Ab1 c hr c.outs.l[j]:=by
   unfold Ab1
   generalize Gy c.buses.l.length ((Aq c hr).map (D0 c))=x at *
   generalize Gy c.buses.l.length (((Aq c hr).filter fun a=>!c.outs.l[j].lines.l.contains a).map (D0 c))=y at *
   by_cases T:x=y
   ·subst T;simp
   ·have a1:((y:Int)==(x:Int))=false:=by simp;omega
    rw[a1];simp;omega
  rw[V];rfl
 | m+1,q,fuel+1,A,hq,hf,hA,b=>by
  rw[Hx];unfold P2
  have D:q<(Aq c hr).length:=by omega
  have I:=T4 hr c.lines.l 0
  have L:=v.nl
  have z:(Aq c hr).length≤64:=by unfold Aq;omega
  have X:c.outs.l[j] ∈ c.outs.l:=Ak3 h
  have Y:=hs.oli _ X
  have b4:∀ (f:LA→Nat→O R),Ba 1 (drop 1 (drop (j*4) (List.flatMap OutD.av c.outs.l))) f=f (Ah c.outs.l[j].lines.l) c.outs.l[j].lines.l.length:=fun f=>by rw[Ar Cb _ _ h];simp[OutD.av,Cy,C6]
  have b3:(ble (A.length+1) 140737488355328&&ble ((A.length+1)*8) 140737488355328)=true:=by rw[Bv,Bv];simp;omega
  have b5:take (A.length*1) (Ah A)++[.int .i64 (q:Int)]=Ah (A++[(q:Int)]):=gL (B:=[(q:Int)]) rfl
  rw[F7 D,ct,Ms,Ac h,ct,Aku,b4,Ac D,ct,ku (by simpa using D),Aku,FZ D,V5 rfl Y,b3,ct,b5,Bf (by omega)]
  rw[Bb D,Xq] at b
  cases k:c.outs.l[j].lines.l.contains (Aq c hr)[q] with
  | true =>
   rw[k] at b
   have G:=GA (o:=o) (hr:=hr) (j:=j) (p:=p) (K7:=K7) (K9:=K9) (K:=K) hs hN v h m (q+1) fuel (A++[(q:Int)]) (by omega) (by omega) (by simp;omega) (by simpa using b)
   rw[Akx] at G
   simpa using G
  | false =>
   rw[k] at b
   have G:=GA (o:=o) (hr:=hr) (j:=j) (p:=p) (K7:=K7) (K9:=K9) (K:=K) hs hN v h m (q+1) fuel A (by omega) (by omega) (by omega) (by simpa using b)
   simpa using G
theorem eV {N:Nat} {c:CaseD} {o:Bool} {hr:Int} {K7:Int→LA→O R} {K:LA→Int→O R} (hs:Small c N) (hN:4096≤N) (v:PreV c):∀ (m j fuel:Nat) (p:Ca),j+m=c.outs.l.length→m<fuel →
  Hh N K7 K (Aq c hr).length (Aq c hr).length o c.av (((Aq c hr).map (D0 c)).flatMap Bm) (Ah (Aq c hr)) fuel hr (j:Int) (Cn p)=K7 (wrap .i64 (hr+1)) (Cn (A6 (uI c hr) (c.outs.l.drop j) j p))
 | 0,j,fuel+1,p,b,_=>by
  rw[Hh];unfold Sq
  rw[Ms,G3 (by omega),cf,Bn (l:=c.outs.l) (by omega),A6]
 | m+1,j,fuel+1,p,b,s=>by
  rw[Hh];unfold Sq
  have h:j<c.outs.l.length:=by omega
  have e:=T4 hr c.lines.l 0
  have k:=v.nl
  have q:=eV (o:=o) (hr:=hr) (K7:=K7) (K:=K) hs hN v m (j+1) fuel (uI c hr j c.outs.l[j] p) (by omega) (by omega)
  have l10:=GA (R:=R) (N:=N) (c:=c) (o:=o) (hr:=hr) (j:=j) (p:=p) (K7:=K7) (K9:=Hh N K7 K (Aq c hr).length (Aq c hr).length o c.av (((Aq c hr).map (D0 c)).flatMap Bm) (Ah (Aq c hr)) fuel) (K:=K) hs hN v h (Aq c hr).length 0 N [] (by omega) (by unfold Aq;omega) (by simp) (by simp)
  rw[Ms,F7 h,ct,Bb (l:=c.outs.l) h,A6,←q,←l10]
  rfl
theorem eW {N H:Nat} {c:CaseD} {o:Bool} {K:LA→Int→O R} (hs:Small c N) (hN:4096≤N) (v:PreV c) (hH:c.hours=(H:Int)):∀ (m j fuel:Nat) (p:Ca),j+m=H→m<fuel →
  Db N K o c.av fuel (j:Int) (Cn p)=K (w3 (Jw c m j p)) (A8 (Jw c m j p))
 | 0,j,fuel+1,p,b,_=>by
  rw[Db];unfold Nl
  rw[Fb,hH,G3 (by omega),rS,Jw];rfl
 | m+1,j,fuel+1,p,b,u=>by
  rw[Db];unfold Nl Vv AB
  have hh:=v.hours
  rw[Fb,hH,F7 (by omega),AJ,rS]
  rcases p with _ | ⟨x,e,k⟩
  ·simp only[A8,beq_self_eq_true,cond_true]
   have l9:=eV (R:=R) (N:=N) (c:=c) (o:=o) (hr:=(j:Int)) (K7:=Db N K o c.av fuel) (K:=K) hs hN v c.outs.l.length 0 N none (by omega) hs.out.1
   rw[Cc,ct,Be,xA hs (fun l q=>v.lnV q)]
   simp only[Ak7,Alw] at l9
   rw[l9,Bf (by omega),eW hs hN v hH m (j+1) fuel _ (by omega) (by omega)];rfl
  ·have s:(e==0)=false:=by simpa using k
   simp only[A8,s,beq_self_eq_true,cond_true,cond_false]
   rw[eG]
theorem uK {N:Nat} {c:CaseD} {o:Bool} {y:(Int×Int×Int)×{ e:Int // e≠0 }} {K:LA→Int→O R} {fuel:Nat}:Db N K o c.av (fuel+1) 0 (Cn (some y))=K (w3 (some y)) (A8 (some y)):=by
 rw[Db];unfold Nl
 rw[Fb,AJ,rS]
 have b:(y.2.1==0)=false:=by simpa using y.2.2
 cases decide ((0:Int)<c.hours)<;>simp[A8,b]
theorem Xr {N:Nat} {c:CaseD} {o:Bool} {K:LA→Int→O R} (hs:Small c N) (hN:4096≤N):Rg N c.av o K=K (w3 (D9 c)) (A8 (D9 c)):=by
 rw[PZ];unfold FI
 have b:[(.int .i64 (0:Int)),(.int .i64 (0:Int)),(.int .i64 (0:Int)),(.int .i64 (0:Int))]=Cn none:=rfl
 rw[Cc,ct,Be,b,FX hs]
 have l0:=fun p=>eI (R:=R) (N:=N) (c:=c) (o:=o) (K:=K) hs c.buses.l.length 0 N p (by omega) hs.bus.1
 have l2:=fun p=>eJ (R:=R) (N:=N) (c:=c) (o:=o) (K:=K) hs c.lines.l.length 0 N p (by omega) hs.lin.1
 have l3:=fun p=>eK (R:=R) (N:=N) (c:=c) (o:=o) (K:=K) hs c.units.l.length 0 N p (by omega) hs.uni.1
 have l4:=fun p=>eM (R:=R) (N:=N) (c:=c) (o:=o) (K:=K) hs c.stores.l.length 0 N p (by omega) hs.sto.1
 have l5:=fun p=>eN (R:=R) (N:=N) (c:=c) (o:=o) (K:=K) hs c.ties.l.length 0 N p (by omega) hs.tie.1
 have l6:=fun p=>eQ (R:=R) (N:=N) (c:=c) (o:=o) (K:=K) hs c.outs.l.length 0 N p (by omega) hs.out.1
 simp only[Ak7,Alw] at l0 l2 l3 l4 l5 l6
 try dsimp only
 rw[l0,l2,l3,l4,l5,l6]
 show Db N K o c.av N 0 (Cn (CW c))=_
 unfold D9
 cases e:CW c with
 | some y =>
  rcases N with _ | N
  ·omega
  ·exact uK
 | none =>
  have v:=oh e
  have hh:=v.hours
  have:=eW (R:=R) (N:=N) (H:=c.hours.toNat) (c:=c) (o:=o) (K:=K) hs hN v (by omega) c.hours.toNat 0 N none (by omega) (by omega)
  simpa using this
theorem Afl (p:Ca):(w3 p).length=3:=by rcases p with _ | ⟨⟨a,b,f⟩,e⟩<;>rfl
theorem uL (v n:Int) (j:1≤n) (k:n≤4611686018427387904):(wrap .u64 n==0)=false∧0≤wrap .i64 (Int.tmod (wrap .u64 v) (wrap .u64 n))∧wrap .i64 (Int.tmod (wrap .u64 v) (wrap .u64 n))<n:=by
 have hn:wrap .u64 n=n:=IntWalk.u64_in _ (by omega)
 have b:0≤wrap .u64 v:=by rw[IntKind.wrap_u64];omega
 rw[hn]
 have h0:0≤Int.tmod (wrap .u64 v) n:=Int.tmod_nonneg _ b
 have e:Int.tmod (wrap .u64 v) n<n:=Ant _ (by omega)
 rw[Np _ (by omega)]
 exact⟨by simp;omega,h0,e⟩
theorem nx {N:Nat} {l:List Int} {t o:Bool} (u:l.length≤9223372036854775807) (n:Int) (e:1≤n) (j:n≤4611686018427387904) (k:Nat) (q:k≤l.length) :
  ∃ (v:Int) (b:Nat),0≤v∧v<n∧b≤l.length∧∀ K:Int→Int→O R,Ab N n (Ah l) l.length t o (k:Int) K=K v (b:Int):=by
 by_cases h:k<l.length
 ·obtain⟨a1,a2,a3⟩:=uL l[k] n e j
  refine⟨_,k+1,a2,a3,by omega,fun K=>?_⟩
  rw[Ri];unfold S3
  have w0:wrap .i64 ((k:Int)+1)=((k+1:Nat):Int):=by rw[Np _ (by omega)];omega
  have s:wrap .i64 (wrap .i64 ((k:Int)+1) - 1)=(k:Int):=by rw[w0,Np _ (by omega)];omega
  rw[s,w0,Ac h,ct,Qc h,RQ];unfold gI
  rw[a1,cf,show decide ((k:Int)≥(l.length:Int))=false by simp;omega,cf]
 ·refine⟨0,k,by omega,by omega,q,fun K=>?_⟩
  rw[Ri];unfold S3
  rw[show decide ((k:Int)≥(l.length:Int))=true by simp;omega,ct]
theorem lB {N m:Nat} {l:List Int} {t o:Bool} (s:l.length≤9223372036854775807) (n:Int) (u:1≤n) (y:n≤4611686018427387904) (C:m≤1000):∀ (r j fuel:Nat) (k:Nat) (A:List Int),j+r=m→r<fuel→k≤l.length→A.length=j →
  ∃ (B:List Int) (z:Nat),B.length=r∧(∀ x ∈ B,0≤x∧x<n)∧z≤l.length∧∀ K:Nat→Int→LA→O R,Em N K (m:Int) n (Ah l) l.length t o fuel j (j:Int) (k:Int) (Ah A)=K m (z:Int) (Ah (A++B))
 | 0,j,fuel+1,k,A,D,_,b,hA=>by
  refine⟨[],k,rfl,by simp,b,fun K=>?_⟩
  rw[Em];unfold Kx
  have:j=m:=by omega
  subst this
  rw[G3 (Akw _),cf,Alf]
 | r+1,j,fuel+1,k,A,D,U,b,hA=>by
  obtain⟨v,F,v0,v1,e,G⟩:=nx (R:=R) (N:=N) (t:=t) (o:=o) s n u y k b
  obtain⟨B,I,L,M,S,T⟩:=lB s n u y C r (j+1) fuel F (A++[v]) (by omega) (by omega) e (by simp[hA])
  refine⟨v::B,I,by simp[L],?_,S,fun K=>?_⟩
  ·intro x q
   rcases Alb.1 q with rfl | q
   ·exact⟨v0,v1⟩
   ·exact M x q
  ·rw[Em];unfold Kx
   have c3:(ble (j+1) 140737488355328&&ble ((j+1)*8) 140737488355328)=true:=by rw[Bv,Bv];simp;omega
   have c5:take (j*1) (Ah A)++[.int .i64 v]=Ah (A++[v]):=gL (B:=[v]) hA.symm
   rw[F7 (by omega),ct,G,c3,ct,c5,Bf (by omega),T]
   simp
theorem Xs {N m:Nat} {l:List Int} {t o:Bool} (hN:1001≤N) (e:l.length≤9223372036854775807) (n:Int) (j:1≤n) (q:n≤4611686018427387904) (s:m≤1000) (k:Nat) (u:k≤l.length) :
  ∃ (B:List Int) (b:Nat),B.length=m∧(∀ x ∈ B,0≤x∧x<n)∧b≤l.length∧∀ K:Nat→Int→LA→O R,Ez N (m:Int) n (Ah l) l.length t o (k:Int) K=K m (b:Int) (Ah B):=by
 obtain⟨B,b,v,y,z,A⟩:=lB (R:=R) (N:=N) (t:=t) (o:=o) e n j q s m 0 N k [] (by omega) (by omega) u rfl
 refine⟨B,b,v,y,z,fun K=>?_⟩
 rw[Za];unfold P6
 simpa[Ah] using A K
theorem aW {N:Nat} {l:List Int} {t o:Bool} (j:l.length≤9223372036854775807) (H:Int) (C:1≤H) (I:H≤1000) (k:Nat) (D:k≤l.length) :
  ∃ (B:List Int) (q:Nat),B.length≤1∧(∀ x ∈ B,0≤x∧x<H)∧q≤l.length∧∀ K:Nat→Int→LA→O R,Mo N H (Ah l) l.length t o (k:Int) K=K B.length (q:Int) (Ah B):=by
 obtain⟨v,s,v0,v1,b,y⟩:=nx (R:=R) (N:=N) (t:=t) (o:=o) j 6 (by omega) (by omega) k D
 by_cases z:v=5
 ·obtain⟨u,F,u0,u1,e,G⟩:=nx (R:=R) (N:=N) (t:=t) (o:=o) j H C (by omega) s b
  refine⟨[u],F,by simp,by intro x A;simp at A;subst A;exact⟨u0,u1⟩,e,fun K=>?_⟩
  rw[Rj];unfold S4
  rw[y,G,z];rfl
 ·refine⟨[],s,by simp,by simp,b,fun K=>?_⟩
  rw[Rj];unfold S4
  have:(v==5)=false:=by simpa using z
  rw[y,this];rfl
def Ajk:Lu:=[48,49,50,51,52,53,54,55,56,57,97,98,99,100,101,102]
theorem O6 {N:Nat} {c:UInt8} {i:Nat} (hi:i<16) {K:Lu→O R}:FP N [c] (i:Int) K=K [c,Ajk.getD i 0]:=by
 rw[d9];unfold kP
 have e1:Int.tmod (i:Int) 16=(i:Int):=Int.tmod_eq_of_lt (by omega) (by omega)
 rw[e1,Bf (by omega)]
 have c1:(decide ((0:Int)≤(i:Int))&&(decide ((i:Int)≤((i+1:Nat):Int))&&(decide (((i+1:Nat):Int)≤(16:Int))&&decide ((16:Int)≤(16:Int)))))=true:=by simp;omega
 rw[c1,ct]
 simp only[Aku,Nat.add_sub_cancel_left]
 have:take 1 (drop i ([48,49,50,51,52,53,54,55,56,57,97,98,99,100,101,102]:Lu))=[Ajk.getD i 0]:=by
  rw[Bb (by simpa using hi)]
  simp[Ajk,hi]
 rw[this];rfl
theorem L3 {a:Int} (h:-9223372036854775808≤a∧a≤9223372036854775807):wrap .i64 a=a:=Np a h
theorem Ea {lo hi n:Int} (h:lo≤n∧n≤hi):D2 lo hi n=true:=by unfold D2;simp;omega
structure LineG (i:Nat) (fr tx H:Int) (x:LineD):Prop where
 name:x.name=[108,Ajk.getD i 0]
 fr:x.fr=fr
 tx:x.tl=tx
 re:(G4 x.re&&decide (x.re.num>0))=true
 smin:(G4 x.smin&&decide (x.smin.num≤0))=true
 smax:(G4 x.smax&&decide (x.smax.num≥0))=true
 lim:D2 0 1048576 x.limit=true
 em:D2 x.limit 1048576 x.emer=true
 aw:x.away.l.length≤1
 awr:∀ y ∈ x.away.l,0≤y∧y<H
theorem oi {f:FracD} (h:1≤f.den∧f.den≤1048576∧-1048576≤f.num∧f.num≤1048576):G4 f=true:=by unfold G4;rw[Ea (by omega),Ea (by omega)];rfl
theorem Rs {B:List Int}:take (B.length*1) (Ah B)=B.flatMap V3:=by rw[Ak6,Akt (by rw[Cz];exact Akw _),C6]
theorem om {N:Nat} {l:List Int} {t o:Bool} (e:l.length≤9223372036854775807) {i:Nat} (hi:i<16) (fr tx:Int) {H:Int} (hH:1≤H∧H≤24) (k:Nat) (X:k≤l.length) :
  ∃ (x:LineD) (U:Nat),LineG i fr tx H x∧U≤l.length∧∀ K:LA→Int→O R,P7 N (i:Int) fr tx H (Ah l) l.length t o (k:Int) K=K x.av (U:Int):=by
 obtain⟨y2,ky2,y20,y21,v,y⟩:=nx (R:=R) (N:=N) (t:=t) (o:=o) e 4 (by omega) (by omega) k X
 obtain⟨y4,ky4,y40,y41,z,A⟩:=nx (R:=R) (N:=N) (t:=t) (o:=o) e 2 (by omega) (by omega) ky2 v
 obtain⟨y6,ky6,y60,y61,C,D⟩:=nx (R:=R) (N:=N) (t:=t) (o:=o) e 40 (by omega) (by omega) ky4 z
 obtain⟨y8,ky8,y80,y81,F,G⟩:=nx (R:=R) (N:=N) (t:=t) (o:=o) e 20 (by omega) (by omega) ky6 C
 obtain⟨y10,ky10,y100,y101,b,j⟩:=nx (R:=R) (N:=N) (t:=t) (o:=o) e 5 (by omega) (by omega) ky8 F
 by_cases V:y10=4
 ·have e4:(y10==4)=true:=by simpa using V
  obtain⟨y12,ky12,y120,y121,q,I⟩:=nx (R:=R) (N:=N) (t:=t) (o:=o) e 4 (by omega) (by omega) ky10 b
  obtain⟨y14,ky14,y140,y141,s,L⟩:=nx (R:=R) (N:=N) (t:=t) (o:=o) e 2 (by omega) (by omega) ky12 q
  obtain⟨y16,ky16,y160,y161,u,M⟩:=nx (R:=R) (N:=N) (t:=t) (o:=o) e 4 (by omega) (by omega) ky14 s
  obtain⟨B,kB,S,T,hkB,hB⟩:=aW (R:=R) (N:=N) (t:=t) (o:=o) e H hH.1 (by omega) ky16 u
  refine⟨⟨[108,Ajk.getD i 0],fr,tx,⟨1+y2,1+y4⟩,⟨0 - y12,1+y14⟩,⟨y16,1⟩,4+y6,4+y6+y8,.of B false false⟩,kB,⟨rfl,rfl,rfl,?_,?_,?_,Ea (by simp only;omega),Ea (by simp only;omega),S,T⟩,hkB,fun K=>?_⟩
  ·rw[oi (by simp only;omega)];simp;omega
  ·rw[oi (by simp only;omega)];simp;omega
  ·rw[oi (by simp only;omega)];simp;omega
  ·rw[Rk];unfold S5
   rw[O6 hi,y,A,D,G,j,e4,ct,I,L,M,hB,Rs,L3 (a:=1+y2) (by omega),L3 (a:=1+y4) (by omega),L3 (a:=0 - y12) (by omega),L3 (a:=1+y14) (by omega),L3 (a:=4+y6) (by omega),L3 (a:=4+y6+y8) (by omega)]
   rfl
 ·have e4:(y10==4)=false:=by simpa using V
  obtain⟨B,kB,S,T,hkB,hB⟩:=aW (R:=R) (N:=N) (t:=t) (o:=o) e H hH.1 (by omega) ky10 b
  refine⟨⟨[108,Ajk.getD i 0],fr,tx,⟨1+y2,1+y4⟩,⟨0,1⟩,⟨0,1⟩,4+y6,4+y6+y8,.of B false false⟩,kB,⟨rfl,rfl,rfl,?_,?_,?_,Ea (by simp only;omega),Ea (by simp only;omega),S,T⟩,hkB,fun K=>?_⟩
  ·rw[oi (by simp only;omega)];simp;omega
  ·rw[oi (by simp only;omega)];simp
  ·rw[oi (by simp only;omega)];simp
  ·rw[Rk];unfold S5
   rw[O6 hi,y,A,D,G,j,e4,cf,hB,Rs,L3 (a:=1+y2) (by omega),L3 (a:=1+y4) (by omega),L3 (a:=4+y6) (by omega),L3 (a:=4+y6+y8) (by omega)]
   rfl
structure UnitG (i:Nat) (nb H:Int) (u:UnitD):Prop where
 name:u.name=[117,Ajk.getD i 0]
 bus:0≤u.bus∧u.bus<nb
 min:D2 0 1048576 u.min=true
 max:D2 u.min 1048576 u.max=true
 sl:1≤u.segs.l.length∧u.segs.l.length≤8
 sok:u.segs.l.all dw=true
 sord:LW u.segs.l=true
 ssum:(II 0 u.segs.l==wrap .i64 (u.max - u.min))=true
 noLoad:D2 0 1048576 u.noLoad=true
 rampUp:D2 0 1048576 u.rampUp=true
 rampDown:D2 0 1048576 u.rampDown=true
 startRamp:D2 u.min u.max u.startRamp=true
 stopRamp:D2 u.min u.max u.stopRamp=true
 upTime:D2 0 24 u.upTime=true
 downTime:D2 0 24 u.downTime=true
 startTime:D2 0 24 u.startTime=true
 hotCost:D2 0 1048576 u.hotCost=true
 coldCost:D2 0 1048576 u.coldCost=true
 hotHours:D2 0 24 u.hotHours=true
 reserve:D2 0 1048576 u.reserve=true
 reservePrice:D2 0 1048576 u.reservePrice=true
 aw:u.away.l.length≤1
 awr:∀ y ∈ u.away.l,0≤y∧y<H
 state:D2 0 2 u.state=true
 starting:(u.state != 1||u.startTime != 0)=true
 hours:D2 1 48 u.hours=true
 started:(u.state != 1||decide (u.hours≤u.startTime))=true
 output:cond (u.state==2) (D2 u.min u.max u.output) (D2 0 0 u.output)=true
theorem oq {s:SegD}:∀ {S:List SegD},LW S=true→(∀ x ∈ S,x.price≤s.price)→LW (S++[s])=true
 | [],_,_=>XB s
 | [a],_,h=>by
  rw[Alh,Al1,Xo,XB]
  have:=h a (by simp);simp;omega
 | a::b::r,e,h=>by
  rw[Xo] at e
  simp only[Ak1] at e
  rw[Alh,Alh,Xo,e.1]
  have:=oq (S:=b::r) e.2 (fun x k=>h x (by rcases Alb.1 k with j | j<;>simp[j]))
  simpa using this
theorem ot {s:SegD}:∀ {S:List SegD} {a:Int},II a (S++[s])=wrap .i64 (II a S+s.width)
 | [],a=>rfl
 | x::r,a=>by rw[Alh,II,II];exact ot
theorem Adm (S:List SegD):(S.flatMap SegD.av).length=S.length*2:=by
 induction S with
 | nil=>rfl
 | cons e r b=>rw[All,Akx,b,L0];simp;omega
theorem aX {S:List SegD} {n:Nat} (h:n=S.length):take (n*2) (S.flatMap SegD.av)=S.flatMap SegD.av:=Akt (by rw[Adm,h];exact Akw _)
theorem ou {N:Nat} {l:List Int} {t o:Bool} (b:l.length≤9223372036854775807) {i:Nat} {nb H bus mn noLoad:Int} (hb:0≤bus∧bus<nb) (hmn:0≤mn∧mn<8) (hno:0≤noLoad∧noLoad<20) (hH:1≤H∧H≤24):∀ (n fuel:Nat) (p:Int) (k:Nat) (M:Int) (S:List SegD),n<fuel→k≤l.length→S.length+n≤2→1≤S.length+n→(∀ x ∈ S,x.price≤p∧dw x=true)→LW S=true→II 0 S=M - mn→0≤M - mn→M - mn≤15*S.length→-10≤p→p≤20+10*S.length →
  ∃ (u:UnitD) (k':Nat),UnitG i nb H u∧k'≤l.length∧∀ K:LA→Int→O R,D6 N K H (Ah l) l.length t o [117,Ajk.getD i 0] bus mn noLoad fuel p (n:Int) (k:Int) M S.length (S.flatMap SegD.av)=K u.av (k':Int)
 | 0,fuel+1,p,k,M,S,_,hk,hS,hS1,hp,ho,hw,hM0,hM1,_,_=>by
  obtain⟨y16,ky16,y160,y161,s,hy16⟩:=nx (R:=R) (N:=N) (t:=t) (o:=o) b 20 (by omega) (by omega) k hk
  obtain⟨y18,ky18,y180,y181,v,hy18⟩:=nx (R:=R) (N:=N) (t:=t) (o:=o) b 20 (by omega) (by omega) ky16 s
  obtain⟨y20,ky20,y200,y201,y,hy20⟩:=nx (R:=R) (N:=N) (t:=t) (o:=o) b (M - mn+1) (by omega) (by omega) ky18 v
  obtain⟨y22,ky22,y220,y221,z,hy22⟩:=nx (R:=R) (N:=N) (t:=t) (o:=o) b (M - mn+1) (by omega) (by omega) ky20 y
  obtain⟨y24,ky24,y240,y241,A,hy24⟩:=nx (R:=R) (N:=N) (t:=t) (o:=o) b 3 (by omega) (by omega) ky22 z
  obtain⟨y26,ky26,y260,y261,C,hy26⟩:=nx (R:=R) (N:=N) (t:=t) (o:=o) b 3 (by omega) (by omega) ky24 A
  obtain⟨y28,ky28,y280,y281,D,hy28⟩:=nx (R:=R) (N:=N) (t:=t) (o:=o) b 2 (by omega) (by omega) ky26 C
  obtain⟨y30,ky30,y300,y301,F,hy30⟩:=nx (R:=R) (N:=N) (t:=t) (o:=o) b 30 (by omega) (by omega) ky28 D
  obtain⟨y32,ky32,y320,y321,G,hy32⟩:=nx (R:=R) (N:=N) (t:=t) (o:=o) b 30 (by omega) (by omega) ky30 F
  obtain⟨y34,ky34,y340,y341,I,hy34⟩:=nx (R:=R) (N:=N) (t:=t) (o:=o) b 4 (by omega) (by omega) ky32 G
  obtain⟨y36,ky36,y360,y361,L,hy36⟩:=nx (R:=R) (N:=N) (t:=t) (o:=o) b 8 (by omega) (by omega) ky34 I
  obtain⟨y38,ky38,y380,y381,T,hy38⟩:=nx (R:=R) (N:=N) (t:=t) (o:=o) b 4 (by omega) (by omega) ky36 L
  obtain⟨B,kB,b1,b2,hkB,hB⟩:=aW (R:=R) (N:=N) (t:=t) (o:=o) b H hH.1 (by omega) ky38 T
  obtain⟨y43,ky43,y430,y431,U,hy43⟩:=nx (R:=R) (N:=N) (t:=t) (o:=o) b (2+y28) (by omega) (by omega) kB hkB
  obtain⟨y46,ky46,y460,y461,j,hy46⟩:=nx (R:=R) (N:=N) (t:=t) (o:=o) b 4 (by omega) (by omega) ky43 U
  have i43:Af y43 3=true:=O4 y430 (by omega)
  obtain⟨x45,hx45,hst⟩:∃ x45:Int,(∀ f:Int→O R,Ao .i64 (drop (0+((Int.toNat y43)*1)) [(.int .i64 (0:Int)),(.int .i64 (2:Int)),(.int .i64 (1:Int))]) f=f x45)∧(x45=0∨x45=2∨(x45=1∧y28=1)):=by
   have e:[(.int .i64 (0:Int)),(.int .i64 (2:Int)),(.int .i64 (1:Int))]=Ah [0,2,1]:=rfl
   refine⟨([0,2,1]:List Int).getD y43.toNat 0,fun f=>by rw[e,ku (by simp;omega)],?_⟩
   have:y43=0∨y43=1∨y43=2:=by omega
   rcases this with rfl | rfl | rfl
   ·left;rfl
   ·right;left;rfl
   ·right;right;exact⟨rfl,by omega⟩
  have wM:wrap .i64 (wrap .i64 (M - mn)+1)=M - mn+1:=by rw[L3 (a:=M - mn) (by omega),L3 (by omega)]
  have head:∀ K:LA→Int→O R,D6 N K H (Ah l) l.length t o [117,Ajk.getD i 0] bus mn noLoad (fuel+1) p ((0:Nat):Int) (k:Int) M S.length (S.flatMap SegD.av) =
    Kb N K (Ah l) l.length t o (ky46:Int) [117,Ajk.getD i 0] bus mn M S.length noLoad y16 y18 y24 y26 y28 y30 y34 y36 y38 B.length x45 (S.flatMap SegD.av) (Ah B) (mn+y20) (mn+y22) (y30+y32) (cond (x45==1) 1 (1+y46)):=fun K=>by
   rw[D6];unfold Mp
   rw[show decide (((0:Nat):Int)>0)=false from rfl,cf,wM,hy16,hy18,hy20,hy22,hy24,hy26,hy28,hy30,hy32,hy34,hy36,hy38,hB,L3 (a:=2+y28) (by omega),hy43,i43,ct,hx45,hy46,L3 (a:=mn+y20) (by omega),L3 (a:=mn+y22) (by omega),L3 (a:=y30+y32) (by omega),L3 (a:=1+y46) (by omega)]
   cases x45==1<;>rfl
  have hhr:1≤(cond (x45==1) (1:Int) (1+y46))∧(cond (x45==1) (1:Int) (1+y46))≤4:=by cases x45==1<;>simp<;>omega
  have hst1:x45=1→cond (x45==1) (1:Int) (1+y46)=1:=by intro e;subst e;rfl
  have sall:S.all dw=true:=by rw[Ams];exact fun x hx=>(hp x hx).2
  have ssum:(II 0 S==wrap .i64 (M - mn))=true:=by rw[L3 (a:=M - mn) (by omega),hw];simp
  have starting:(x45 != 1||y28 != 0)=true:=by
   rcases hst with h | h | ⟨h,h'⟩
   ·rw[h];rfl
   ·rw[h];rfl
   ·rw[h,h'];rfl
  have started:(x45 != 1||decide ((cond (x45==1) (1:Int) (1+y46))≤y28))=true:=by
   rcases hst with h | h | ⟨h,h'⟩
   ·rw[h];rfl
   ·rw[h];rfl
   ·rw[h,h'];rfl
  have stR:D2 0 2 x45=true:=Ea (by omega)
  by_cases q:x45=2
  ·obtain⟨y48,ky48,y480,y481,V,hy48⟩:=nx (R:=R) (N:=N) (t:=t) (o:=o) b (M - mn+1) (by omega) (by omega) ky46 j
   refine⟨⟨[117,Ajk.getD i 0],bus,mn,M,.of S false false,noLoad,y16,y18,mn+y20,mn+y22,y24,y26,y28,y30,y30+y32,y34,y36,y38,.of B false false,x45,cond (x45==1) 1 (1+y46),mn+y48⟩,ky48,
    ⟨rfl,hb,Ea (by simp only;omega),Ea (by simp only;omega),by simp only[Sl.l];omega,sall,ho,ssum,Ea (by simp only;omega),Ea (by simp only;omega),Ea (by simp only;omega),Ea (by simp only;omega),Ea (by simp only;omega),Ea (by simp only;omega),Ea (by simp only;omega),Ea (by simp only;omega),Ea (by simp only;omega),Ea (by simp only;omega),Ea (by simp only;omega),Ea (by simp only;omega),Ea (by simp only;omega),b1,b2,stR,starting,Ea (by simp only;omega),started,?_⟩,V,fun K=>?_⟩
   ·have:(x45==2)=true:=by simpa using q
    simp only[this,cond_true];exact Ea (by omega)
   ·rw[head];unfold Kb
    have:(x45==2)=true:=by simpa using q
    rw[this,ct,wM,hy48,L3 (a:=mn+y48) (by omega),aX rfl,Rs]
    rfl
  ·refine⟨⟨[117,Ajk.getD i 0],bus,mn,M,.of S false false,noLoad,y16,y18,mn+y20,mn+y22,y24,y26,y28,y30,y30+y32,y34,y36,y38,.of B false false,x45,cond (x45==1) 1 (1+y46),0⟩,ky46,
    ⟨rfl,hb,Ea (by simp only;omega),Ea (by simp only;omega),by simp only[Sl.l];omega,sall,ho,ssum,Ea (by simp only;omega),Ea (by simp only;omega),Ea (by simp only;omega),Ea (by simp only;omega),Ea (by simp only;omega),Ea (by simp only;omega),Ea (by simp only;omega),Ea (by simp only;omega),Ea (by simp only;omega),Ea (by simp only;omega),Ea (by simp only;omega),Ea (by simp only;omega),Ea (by simp only;omega),b1,b2,stR,starting,Ea (by simp only;omega),started,?_⟩,j,fun K=>?_⟩
   ·have:(x45==2)=false:=by simpa using q
    simp only[this,cond_false];exact Ea (by omega)
   ·rw[head];unfold Kb
    have:(x45==2)=false:=by simpa using q
    rw[this,cf,aX rfl,Rs]
    rfl
 | n+1,fuel+1,p,k,M,S,hf,hk,hS,hS1,hp,ho,hw,hM0,hM1,hp0,hp1=>by
  obtain⟨y12,ky12,y120,y121,X,hy12⟩:=nx (R:=R) (N:=N) (t:=t) (o:=o) b 15 (by omega) (by omega) k hk
  obtain⟨y14,ky14,y140,y141,Y,hy14⟩:=nx (R:=R) (N:=N) (t:=t) (o:=o) b 10 (by omega) (by omega) ky12 X
  obtain⟨u,k',g1,g2,g3⟩:=ou (N:=N) (t:=t) (o:=o) (i:=i) (nb:=nb) (H:=H) (bus:=bus) (mn:=mn) (noLoad:=noLoad) b hb hmn hno hH n fuel (p+y14) ky14 (M+(1+y12)) (S++[(⟨1+y12,p⟩:SegD)]) (by omega) Y (by simp;omega) (by simp;omega) (by
   intro x hx
   rcases Ak2.1 hx with h | h
   ·have:=hp x h;exact⟨by omega,this.2⟩
   ·simp at h;subst h
    refine⟨by simp only;omega,?_⟩
    unfold dw;rw[Ea (by simp only;omega),Ea (by simp only;omega)];rfl) (oq ho fun x hx=>(hp x hx).1) (by rw[ot,hw,L3 (by simp only;omega)];simp only;omega) (by omega) (by simp;omega) (by omega) (by simp;omega)
  refine⟨u,k',g1,g2,fun K=>?_⟩
  rw[D6];unfold Mp
  have c3:(ble (S.length+1) 140737488355328&&ble ((S.length+1)*16) 140737488355328)=true:=by rw[Bv,Bv];simp;omega
  have c5:take (S.length*2) (S.flatMap SegD.av)++[.int .i64 (1+y12),.int .i64 p]=(S++[(⟨1+y12,p⟩:SegD)]).flatMap SegD.av:=by rw[aX rfl];simp[SegD.av]
  have wn:wrap .i64 (((n+1:Nat):Int) - 1)=(n:Int):=LT (by omega)
  rw[show decide (((n+1:Nat):Int)>0)=true from decide_eq_true (by omega),ct,hy12,c3,ct,hy14,L3 (a:=1+y12) (by omega),L3 (a:=p+y14) (by omega),wn,L3 (a:=M+(1+y12)) (by omega),c5]
  have:=g3 K
  rw[Akx] at this
  exact this
theorem zT {N:Nat} {l:List Int} {t o:Bool} (hN:8≤N) (e:l.length≤9223372036854775807) {i:Nat} (hi:i<16) {nb H:Int} (G:1≤nb∧nb≤1000) (hH:1≤H∧H≤24) (k:Nat) (I:k≤l.length) :
  ∃ (u:UnitD) (z:Nat),UnitG i nb H u∧z≤l.length∧∀ K:LA→Int→O R,P8 N (i:Int) nb H (Ah l) l.length t o (k:Int) K=K u.av (z:Int):=by
 obtain⟨y2,ky2,y20,y21,j,A⟩:=nx (R:=R) (N:=N) (t:=t) (o:=o) e nb (by omega) (by omega) k I
 obtain⟨y4,ky4,y40,y41,q,C⟩:=nx (R:=R) (N:=N) (t:=t) (o:=o) e 8 (by omega) (by omega) ky2 j
 obtain⟨y6,ky6,y60,y61,s,D⟩:=nx (R:=R) (N:=N) (t:=t) (o:=o) e 20 (by omega) (by omega) ky4 q
 obtain⟨y8,ky8,y80,y81,v,F⟩:=nx (R:=R) (N:=N) (t:=t) (o:=o) e 20 (by omega) (by omega) ky6 s
 obtain⟨y10,ky10,y100,y101,b,y⟩:=nx (R:=R) (N:=N) (t:=t) (o:=o) e 2 (by omega) (by omega) ky8 v
 obtain⟨n,hn⟩:∃ n:Nat,1+y10=(n:Int):=⟨(1+y10).toNat,by omega⟩
 obtain⟨u,z,L,M,S⟩:=ou (R:=R) (N:=N) (l:=l) (t:=t) (o:=o) e (i:=i) (nb:=nb) (H:=H) (bus:=y2) (mn:=y4) (noLoad:=y6) ⟨y20,y21⟩ ⟨y40,y41⟩ ⟨y60,y61⟩ hH n N (y8 - 2) ky10 y4 [] (by omega) b (by simp;omega) (by simp;omega) (by simp) ki (by simp[II]) (by omega) (by simp) (by omega) (by simp;omega)
 refine⟨u,z,L,M,fun K=>?_⟩
 rw[CH];unfold S6
 rw[O6 hi,A,C,D,F,y,L3 (a:=y8 - 2) (by omega),L3 (a:=1+y10) (by omega),hn]
 simpa using S K
structure OutG (i:Nat) (nl nu:Nat) (x:OutD):Prop where
 name:x.name=[111,Ajk.getD i 0]
 ll:x.lines.l.length=1∨x.lines.l.length=2
 lr:∀ y ∈ x.lines.l,0≤y∧y<(nl:Int)
 la:CP x.lines.l=true
 ml:x.moves.l.length≤nu
 mc:((x.moves.l.length:Int)==0||x.corr)=true
 mr:∀ m ∈ x.moves.l,0≤m.unit∧m.unit<(nu:Int)
 ma:CP (x.moves.l.map (·.unit))=true
 mi:x.moves.l.all nW=true
theorem uM {s:Int}:∀ {S:List Int},CP S=true→(∀ x ∈ S,x<s)→CP (S++[s])=true
 | [],_,_=>V4 s
 | [a],_,h=>by
  rw[Alh,Al1,O2,V4]
  have:=h a (by simp);simp;omega
 | a::b::r,e,h=>by
  rw[O2] at e
  simp only[Ak1] at e
  rw[Alh,Alh,O2,e.1]
  have:=uM (S:=b::r) e.2 (fun x k=>h x (by rcases Alb.1 k with j | j<;>simp[j]))
  simpa using this
theorem Ab3 (S:List MoveD):(S.flatMap MoveD.av).length=S.length*3:=by
 induction S with
 | nil=>rfl
 | cons e r b=>rw[All,Akx,b,Dj];simp;omega
theorem aY {N:Nat} {l:List Int} {t o:Bool} (z:l.length≤9223372036854775807) {i nl nu:Nat} (A:nu≤16) {B:List Int} (hB1:B.length=1∨B.length=2) (hB2:∀ y ∈ B,0≤y∧y<(nl:Int)) (hB3:CP B=true):∀ (m j fuel:Nat) (k:Nat) (S:List MoveD),j+m=nu→m<fuel→k≤l.length→S.length≤j→(∀ x ∈ S,0≤x.unit∧x.unit<(j:Int))→CP (S.map (·.unit))=true→S.all nW=true →
  ∃ (x:OutD) (u:Nat),OutG i nl nu x∧u≤l.length∧∀ K:LA→Int→O R,Dx N K (nu:Int) (Ah l) l.length t o [111,Ajk.getD i 0] B.length (Ah B) fuel (j:Int) (k:Int) S.length (S.flatMap MoveD.av)=K x.av (u:Int)
 | 0,j,fuel+1,k,S,V,_,G,hS,hr,F,hi=>by
  have I:j=nu:=by omega
  subst I
  refine⟨⟨[111,Ajk.getD i 0],.of B false false,true,.of S false false⟩,k,⟨rfl,hB1,hB2,hB3,hS,by simp,hr,F,hi⟩,G,fun K=>?_⟩
  rw[Dx];unfold Gl
  rw[G3 (Akw _),cf,Rs,Akt (by rw[Ab3];exact Akw _)]
  rfl
 | m+1,j,fuel+1,k,S,V,Y,G,hS,hr,F,hi=>by
  obtain⟨y10,ky10,y100,y101,b,e⟩:=nx (R:=R) (N:=N) (t:=t) (o:=o) z 2 (by omega) (by omega) k G
  by_cases U:y10=1
  ·obtain⟨y12,ky12,y120,y121,q,C⟩:=nx (R:=R) (N:=N) (t:=t) (o:=o) z 8 (by omega) (by omega) ky10 b
   obtain⟨y14,ky14,y140,y141,s,D⟩:=nx (R:=R) (N:=N) (t:=t) (o:=o) z 8 (by omega) (by omega) ky12 q
   obtain⟨x,u,L,M,T⟩:=aY (N:=N) (t:=t) (o:=o) (i:=i) (nl:=nl) (nu:=nu) z A hB1 hB2 hB3 m (j+1) fuel ky14 (S++[(⟨j,y12,y14⟩:MoveD)]) (by omega) (by omega) s (by simp;omega) (by
    intro x v
    rcases Ak2.1 v with h | h
    ·have:=hr x h;omega
    ·simp at h;subst h;simp only;omega) (by
    rw[Al6];exact uM F (by
     intro x v
     simp only[Als] at v
     obtain⟨y,X,rfl⟩:=v
     exact(hr y X).2)) (by
    rw[List.all_append,hi]
    simp only[Ale,Al3,Alm,Anb]
    unfold nW;rw[Ea (by simp only;omega),Ea (by simp only;omega)];rfl)
   refine⟨x,u,L,M,fun K=>?_⟩
   rw[Dx];unfold Gl
   have e1:(y10==1)=true:=by simpa using U
   have c3:(ble (S.length+1) 140737488355328&&ble ((S.length+1)*24) 140737488355328)=true:=by rw[Bv,Bv];simp;omega
   have c5:take (S.length*3) (S.flatMap MoveD.av)++[.int .i64 (j:Int),.int .i64 y12,.int .i64 y14]=(S++[(⟨j,y12,y14⟩:MoveD)]).flatMap MoveD.av:=by
    rw[Akt (by rw[Ab3];exact Akw _)];simp[MoveD.av]
   rw[F7 (by omega),ct,e,e1,ct,C,D,c3,ct,c5,Bf (by omega)]
   have:=T K
   rw[Akx] at this
   exact this
  ·obtain⟨x,u,L,M,T⟩:=aY (N:=N) (t:=t) (o:=o) (i:=i) (nl:=nl) (nu:=nu) z A hB1 hB2 hB3 m (j+1) fuel ky10 S (by omega) (by omega) b (by omega) (by intro x v;have:=hr x v;omega) F hi
   refine⟨x,u,L,M,fun K=>?_⟩
   rw[Dx];unfold Gl
   have e1:(y10==1)=false:=by simpa using U
   rw[F7 (by omega),ct,e,e1,cf,Bf (by omega),T]
theorem ov {N:Nat} {l:List Int} {t o:Bool} (hN:64≤N) (s:l.length≤9223372036854775807) {i nl nu:Nat} (q:nu≤16) {B:List Int} (hB1:B.length=1∨B.length=2) (hB2:∀ y ∈ B,0≤y∧y<(nl:Int)) (hB3:CP B=true) (k:Nat) (v:k≤l.length) :
  ∃ (x:OutD) (j:Nat),OutG i nl nu x∧j≤l.length∧∀ K:LA→Int→O R,Dy N K (nu:Int) (Ah l) l.length t o [111,Ajk.getD i 0] (k:Int) B.length (Ah B)=K x.av (j:Int):=by
 obtain⟨y8,ky8,y80,y81,b,e⟩:=nx (R:=R) (N:=N) (t:=t) (o:=o) s 2 (by omega) (by omega) k v
 by_cases u:y8=1
 ·obtain⟨x,j,z,A,C⟩:=aY (R:=R) (N:=N) (t:=t) (o:=o) (i:=i) (nl:=nl) (nu:=nu) s q hB1 hB2 hB3 nu 0 N ky8 [] (by omega) (by omega) b (by simp) (by simp) NQ rfl
  refine⟨x,j,z,A,fun K=>?_⟩
  unfold Dy Jq
  have e1:(y8==1)=true:=by simpa using u
  rw[e,e1,ct]
  simpa using C K
 ·refine⟨⟨[111,Ajk.getD i 0],.of B false false,false,.of [] false false⟩,ky8,⟨rfl,hB1,hB2,hB3,by simp[Sl.l],by simp[Sl.l],by simp[Sl.l],NQ,rfl⟩,b,fun K=>?_⟩
  unfold Dy Jq
  have e1:(y8==1)=false:=by simpa using u
  rw[e,e1,cf,Rs]
  rfl
theorem uN {N:Nat} {l:List Int} {t o:Bool} (hN:64≤N) (u:l.length≤9223372036854775807) {i nl nu:Nat} (hi:i<16) (T:1≤nl∧nl≤1000) (v:nu≤16) (k:Nat) (U:k≤l.length) :
  ∃ (x:OutD) (b:Nat),OutG i nl nu x∧b≤l.length∧∀ K:LA→Int→O R,Lr N (i:Int) (nl:Int) (nu:Int) (Ah l) l.length t o (k:Int) K=K x.av (b:Int):=by
 obtain⟨y2,ky2,y20,y21,z,q⟩:=nx (R:=R) (N:=N) (t:=t) (o:=o) u (nl:Int) (by omega) (by omega) k U
 obtain⟨y4,ky4,y40,y41,e,s⟩:=nx (R:=R) (N:=N) (t:=t) (o:=o) u (nl:Int) (by omega) (by omega) ky2 z
 have one:∀ k0,k0≤l.length→∃ (x:OutD) (b:Nat),OutG i nl nu x∧b≤l.length∧∀ K:LA→Int→O R,Dy N K (nu:Int) (Ah l) l.length t o [111,Ajk.getD i 0] (k0:Int) 1 [.int .i64 y2]=K x.av (b:Int):=fun k0 I =>
  ov (i:=i) (nl:=nl) hN u v (B:=[y2]) (.inl rfl) (by intro y A;simp at A;subst A;exact⟨y20,y21⟩) (V4 _) k0 I
 by_cases L:y4>y2
 ·obtain⟨y6,ky6,y60,y61,j,C⟩:=nx (R:=R) (N:=N) (t:=t) (o:=o) u 3 (by omega) (by omega) ky4 e
  by_cases S:y6=2
  ·obtain⟨x,b,D,F,G⟩:=ov (R:=R) (N:=N) (t:=t) (o:=o) (i:=i) (nl:=nl) (nu:=nu) hN u v (B:=[y2,y4]) (.inr rfl) (by intro y A;simp at A;rcases A with rfl | rfl<;>omega) (by rw[O2,V4];simp;omega) ky6 j
   refine⟨x,b,D,F,fun K=>?_⟩
   rw[Jr];unfold G9
   have e1:decide (y4>y2)=true:=by simpa using L
   have M:(y6==2)=true:=by simpa using S
   rw[O6 hi,q,s,e1,C,M]
   simpa[Ah] using G K
  ·obtain⟨x,b,D,F,G⟩:=one ky6 j
   refine⟨x,b,D,F,fun K=>?_⟩
   rw[Jr];unfold G9
   have e1:decide (y4>y2)=true:=by simpa using L
   have M:(y6==2)=false:=by simpa using S
   rw[O6 hi,q,s,e1,C,M]
   exact G K
 ·obtain⟨x,b,D,F,G⟩:=one ky4 e
  refine⟨x,b,D,F,fun K=>?_⟩
  rw[Jr];unfold G9
  have e1:decide (y4>y2)=false:=by simpa using L
  rw[O6 hi,q,s,e1]
  exact G K
def lC (f:Bool) (H:Nat) (res:List Int) (bs:List BusD) (ls:List LineD) (us:List UnitD) (ss:List StoreD) (ts:List TieD) (os:List OutD):CaseD :=
 ⟨(H:Int),.of res false f,.of bs false f,.of ls false f,.of us false f,.of ss false f,.of ts false f,.of os false f⟩
structure BusG (i H:Nat) (b:BusD):Prop where
 name:b.name=[98,Ajk.getD i 0]
 dl:b.demand.l.length=H
 dr:∀ x ∈ b.demand.l,0≤x∧x<14
 shed:0≤b.shed∧b.shed<300
structure StoreG (nb:Nat) (x:StoreD):Prop where
 name:x.name=[115,48]
 bus:0≤x.bus∧x.bus<(nb:Int)
 cap:0≤x.capacity∧x.capacity<20
 ini:0≤x.initial∧x.initial≤x.capacity
 fin:0≤x.final∧x.final≤x.capacity
 ch:0≤x.charge∧x.charge<8
 dis:0≤x.discharge∧x.discharge<8
 eff:1≤x.eff.num∧x.eff.num≤4∧x.eff.den=4
structure TieG (nb H:Nat) (x:TieD):Prop where
 name:x.name=[116,48]
 bus:0≤x.bus∧x.bus<(nb:Int)
 il:x.imp.l.length=H
 ir:∀ y ∈ x.imp.l,0≤y∧y<12
 el:x.exp.l.length=H
 er:∀ y ∈ x.exp.l,0≤y∧y<12
 pl:x.price.l.length=H
 pr:∀ y ∈ x.price.l,0≤y∧y<40
structure LineH (nb:Nat) (i:Nat) (H:Int) (x:LineD):Prop where
 g:LineG i x.fr x.tl H x
 fr:0≤x.fr∧x.fr<(nb:Int)
 tx:0≤x.tl∧x.tl<(nb:Int)
 ne:x.fr≠x.tl
structure BaseG (H:Nat) (res:List Int) (bs:List BusD) (ls:List LineD) (us:List UnitD) (ss:List StoreD) (ts:List TieD):Prop where
 h:1≤H∧H≤3
 rl:res.length=H
 rr:∀ x ∈ res,0≤x∧x<5
 bl:1≤bs.length∧bs.length≤4
 bg:∀ i (h:i<bs.length),BusG i H bs[i]
 ll:ls.length≤7
 lg:∀ i (h:i<ls.length),LineH bs.length i H ls[i]
 ul:1≤us.length∧us.length≤3
 ug:∀ i (h:i<us.length),UnitG i bs.length H us[i]
 sl:ss.length≤1
 sg:∀ x ∈ ss,StoreG bs.length x
 tl:ts.length≤1
 tg:∀ x ∈ ts,TieG bs.length H x
structure OutsG (nl nu:Nat) (os:List OutD):Prop where
 l:os.length≤3
 g:∀ i (h:i<os.length),OutG i nl nu os[i]
theorem ow {N:Nat} (hN:4096≤N) {f:Bool} {H:Nat} {j:List Int} {bs:List BusD} {ls:List LineD} {us:List UnitD} {ss:List StoreD} {ts:List TieD} {os:List OutD} (b:BaseG H j bs ls us ss ts) (g:OutsG ls.length us.length os):Small (lC f H j bs ls us ss ts os) N:=by
 have h:=b.h;have rl:=b.rl;have bl:=b.bl;have ll:=b.ll;have ul:=b.ul;have sl:=b.sl;have tl:=b.tl;have ol:=g.l
 have fit:∀ n:Nat,n≤100→D8 n N:=fun n hn=>⟨by omega,by omega⟩
 refine⟨by omega,fit _ (by simp only[lC,Sl.l];omega),fit _ (by simp only[lC,Sl.l];omega),fit _ (by simp only[lC,Sl.l];omega),fit _ (by simp only[lC,Sl.l];omega),fit _ (by simp only[lC,Sl.l];omega),fit _ (by simp only[lC,Sl.l];omega),fit _ (by simp only[lC,Sl.l];omega),
  fun x e=>?_,fun x e=>?_,fun x e=>?_,fun x e=>?_,fun x e=>?_,fun x e=>?_,fun x e=>?_,fun x e=>?_,fun x e=>?_,fun x e=>?_,by simp only[lC,Sl.l];omega⟩
 all_goals simp only[lC,Sl.l] at e
 ·obtain⟨i,hi,rfl⟩:=Alr e;have:=(b.bg i hi).dl;exact fit _ (by omega)
 ·obtain⟨i,hi,rfl⟩:=Alr e;have:=(b.lg i hi).g.aw;exact fit _ (by omega)
 ·obtain⟨i,hi,rfl⟩:=Alr e;have:=(b.ug i hi).sl;exact fit _ (by omega)
 ·obtain⟨i,hi,rfl⟩:=Alr e;have:=(b.ug i hi).aw;exact fit _ (by omega)
 ·have:=(b.tg x e).il;exact fit _ (by omega)
 ·have:=(b.tg x e).el;exact fit _ (by omega)
 ·have:=(b.tg x e).pl;exact fit _ (by omega)
 ·obtain⟨i,hi,rfl⟩:=Alr e;have:=(g.g i hi).ll;exact fit _ (by omega)
 ·obtain⟨i,hi,rfl⟩:=Alr e;have:=(g.g i hi).ml;exact fit _ (by omega)
 ·obtain⟨i,hi,rfl⟩:=Alr e;have:=(g.g i hi).ml;omega
theorem CX {α:Type} {e:α→LA} {sz:Nat} (b:∀ a,(e a).length=sz) (l:List α):(l.flatMap e).length=l.length*sz:=by
 induction l with
 | nil=>simp
 | cons a r j=>rw[All,Akx,j,b,Ak8,Amz];omega
theorem Bt {α:Type} {e:α→LA} {sz n:Nat} (b:∀ a,(e a).length=sz) (l:List α) (hn:n=l.length):take (n*sz) (l.flatMap e)=l.flatMap e:=Akt (by rw[CX b,hn];exact Akw _)
theorem L4 {B:List Int} {n:Nat} (h:n=B.length):take (n*1) (Ah B)=B.flatMap V3:=by rw[h];exact Rs
theorem L_ {α:Type} {P:Nat→α→Prop} {l:List α} {x:α} (h:∀ i (h:i<l.length),P i l[i]) (e:P l.length x):∀ i (h:i<(l++[x]).length),P i (l++[x])[i]:=by
 intro i hi
 by_cases b:i<l.length
 ·rw[List.getElem_append_left b];exact h i b
 ·have:i=l.length:=by simp at hi;omega
  subst this
  simpa using e
theorem xD {p:Ca} (h:(A8 p==0)=true):p=none:=by
 rcases p with _ | ⟨x,e,b⟩
 ·rfl
 ·simp[A8] at h;exact absurd h b
theorem rT {N:Nat} {l:List Int} {o:Bool} (hN:4096≤N) (v:l.length≤9223372036854775807) {H:Nat} {e:List Int} {bs:List BusD} {ls:List LineD} {us:List UnitD} {ss:List StoreD} {ts:List TieD} (b:BaseG H e bs ls us ss ts):∀ (n fuel k:Nat) (os:List OutD),n<fuel→k≤l.length→os.length+n≤3→OutsG ls.length us.length os→(os=[]∨D9 (lC true H e bs ls us ss ts os)=none) →
  ∃ j,OutsG ls.length us.length j∧(j=[]∨D9 (lC true H e bs ls us ss ts j)=none)∧∀ K:LA→O R,Gm N K (Ah l) l.length o (H:Int) e.length bs.length ls.length us.length ss.length ts.length (Ah e) (bs.flatMap BusD.av) (ls.flatMap LineD.av) (us.flatMap UnitD.av) (ss.flatMap StoreD.av) (ts.flatMap TieD.av) fuel (n:Int) (k:Int) os.length (os.flatMap OutD.av)=K (lC false H e bs ls us ss ts j).av
 | 0,fuel+1,k,os,_,y,_,g,s=>by
  refine⟨os,g,s,fun K=>?_⟩
  rw[Gm];unfold Tt
  rw[show decide (((0:Nat):Int)>0)=false from rfl,L4 rfl,Bt Lz _ rfl,Bt B7 _ rfl,Bt Ff _ rfl,Bt Er _ rfl,Bt Im _ rfl,Bt Cb _ rfl]
  rfl
 | n+1,fuel+1,k,os,F,y,hn,g,s=>by
  by_cases z:ls.length=0
  ·refine⟨os,g,s,fun K=>?_⟩
   rw[Gm];unfold Tt
   rw[show decide ((ls.length:Int)>0)=false from decide_eq_false (by omega),show decide (((n+1:Nat):Int)>0)=true from decide_eq_true (by omega),L4 rfl,Bt Lz _ rfl,Bt B7 _ rfl,Bt Ff _ rfl,Bt Er _ rfl,Bt Im _ rfl,Bt Cb _ rfl]
   rfl
  ·have A:=b.ul;have C:=b.ll
   obtain⟨x,u,gx,q,D⟩:=uN (R:=R) (N:=N) (t:=false) (o:=o) (by omega) v (i:=os.length) (nl:=ls.length) (nu:=us.length) (by omega) (by omega) (by omega) k y
   have g':OutsG ls.length us.length (os++[x]):=⟨by simp;omega,L_ g.g gx⟩
   have sm:=ow (f:=true) hN b g'
   have wn:wrap .i64 (((n+1:Nat):Int) - 1)=(n:Int):=LT (by omega)
   have step:∀ K:LA→O R,Gm N K (Ah l) l.length o (H:Int) e.length bs.length ls.length us.length ss.length ts.length (Ah e) (bs.flatMap BusD.av) (ls.flatMap LineD.av) (us.flatMap UnitD.av) (ss.flatMap StoreD.av) (ts.flatMap TieD.av) (fuel+1) ((n+1:Nat):Int) (k:Int) os.length (os.flatMap OutD.av) =
     cond (A8 (D9 (lC true H e bs ls us ss ts (os++[x])))==0)
      (Gm N K (Ah l) l.length o (H:Int) e.length bs.length ls.length us.length ss.length ts.length (Ah e) (bs.flatMap BusD.av) (ls.flatMap LineD.av) (us.flatMap UnitD.av) (ss.flatMap StoreD.av) (ts.flatMap TieD.av) fuel (n:Int) (u:Int) (os++[x]).length ((os++[x]).flatMap OutD.av))
      (Gm N K (Ah l) l.length o (H:Int) e.length bs.length ls.length us.length ss.length ts.length (Ah e) (bs.flatMap BusD.av) (ls.flatMap LineD.av) (us.flatMap UnitD.av) (ss.flatMap StoreD.av) (ts.flatMap TieD.av) fuel (n:Int) (u:Int) os.length (os.flatMap OutD.av)):=fun K=>by
    rw[Gm];unfold Tt FR
    have c1:(ble (0+os.length) 140737488355328&&ble ((0+os.length)*72) 140737488355328)=true:=by rw[Bv,Bv];simp;omega
    have c2:(ble ((0+os.length)+1) 140737488355328&&ble (((0+os.length)+1)*72) 140737488355328)=true:=by rw[Bv,Bv];simp;omega
    have c3:take ((0+os.length)*4) (take (os.length*4) (os.flatMap OutD.av))++take 4 (setCells [(.str ([]:Lu)),.nsl,(.bool false),.nsl] 0 (take 4 x.av))=(os++[x]).flatMap OutD.av:=by
     rw[Akz,Bt Cb _ rfl,Bt Cb _ rfl]
     simp only[Al5,All,List.flatMap_nil,Alf]
     rfl
    have c4:take (((0+os.length)+1)*4) ((os++[x]).flatMap OutD.av)=(os++[x]).flatMap OutD.av:=Bt Cb _ (by simp)
    have c5:(0+os.length)+1=(os++[x]).length:=by simp
    rw[show decide ((ls.length:Int)>0)=true from decide_eq_true (by omega),show decide (((n+1:Nat):Int)>0)=true from decide_eq_true (by omega)]
    simp only[beq_self_eq_true,cond_true]
    rw[D,show((beq 0 0)&&((beq (List.length x.av) 4)&&(beq 4 4)))=true from rfl,ct,c1,ct,show ble 4 (List.length x.av)=true from rfl,ct,show((beq (List.length (take 4 x.av)) 4)&&(ble 4 4))=true from rfl,ct,c2,ct,c3,c4,c5,L4 rfl,Bt Lz _ rfl,Bt B7 _ rfl,Bt Ff _ rfl,Bt Er _ rfl,Bt Im _ rfl]
    refine Apl (Xr (R:=R) (N:=N) (c:=lC true H e bs ls us ss ts (os++[x])) (o:=true) sm hN) ?_
    rw[Afl,show((beq 3 3)&&((ble 3 3)&&(!false)))=true from rfl,ct,wn]
   cases hq:A8 (D9 (lC true H e bs ls us ss ts (os++[x])))==0 with
   | true =>
    obtain⟨j,a1,a2,a3⟩:=rT hN v b n fuel u (os++[x]) (by omega) q (by simp;omega) g' (.inr (xD hq))
    exact⟨j,a1,a2,fun K=>by rw[step,hq,ct,a3]⟩
   | false =>
    obtain⟨j,a1,a2,a3⟩:=rT hN v b n fuel u os (by omega) q (by omega) g s
    exact⟨j,a1,a2,fun K=>by rw[step,hq,cf,a3]⟩
def CY (c:CaseD):Prop:=∃ (H:Nat) (res:List Int) (bs:List BusD) (ls:List LineD) (us:List UnitD) (ss:List StoreD) (ts:List TieD) (os:List OutD),
 BaseG H res bs ls us ss ts∧OutsG ls.length us.length os∧(os=[]∨D9 (lC true H res bs ls us ss ts os)=none)∧c=lC false H res bs ls us ss ts os
theorem yE {N:Nat} {l:List Int} {o:Bool} (hN:4096≤N) (q:l.length≤9223372036854775807) {H:Nat} {e:List Int} {bs:List BusD} {ls:List LineD} {us:List UnitD} {ss:List StoreD} {ts:List TieD} (b:BaseG H e bs ls us ss ts) (k:Nat) (s:k≤l.length) :
  ∃ c,CY c∧∀ K:LA→O R,FS N K (Ah l) l.length o (H:Int) e.length bs.length ls.length us.length ss.length (Ah e) (bs.flatMap BusD.av) (ls.flatMap LineD.av) (us.flatMap UnitD.av) (ss.flatMap StoreD.av) (k:Int) ts.length (ts.flatMap TieD.av)=K c.av:=by
 obtain⟨y,u,y0,y1,j,v⟩:=nx (R:=R) (N:=N) (t:=false) (o:=o) q 4 (by omega) (by omega) k s
 obtain⟨n,hn⟩:∃ n:Nat,y=(n:Int):=⟨y.toNat,by omega⟩
 subst hn
 obtain⟨os,a1,a2,a3⟩:=rT (R:=R) (o:=o) hN q b n N u [] (by omega) j (by simp;omega) ⟨by simp,by simp⟩ (.inl rfl)
 refine⟨_,⟨H,e,bs,ls,us,ss,ts,os,b,a1,a2,rfl⟩,fun K=>?_⟩
 unfold FS LM
 rw[v]
 simpa using a3 K
theorem yF {N:Nat} {l:List Int} {o:Bool} (hN:4096≤N) (u:l.length≤9223372036854775807) {H:Nat} {v:List Int} {bs:List BusD} {ls:List LineD} {us:List UnitD} {ss:List StoreD} (b:BaseG H v bs ls us ss []) (k:Nat) (hk:k≤l.length) :
  ∃ c,CY c∧∀ K:LA→O R,Xk N K (bs.length:Int) (Ah l) l.length o (H:Int) v.length bs.length ls.length us.length (Ah v) (bs.flatMap BusD.av) (ls.flatMap LineD.av) (us.flatMap UnitD.av) (k:Int) ss.length (ss.flatMap StoreD.av)=K c.av:=by
 have hb:=b.bl;have hH:=b.h
 obtain⟨y50,A,y500,y501,q,s⟩:=nx (R:=R) (N:=N) (t:=false) (o:=o) u 3 (by omega) (by omega) k hk
 by_cases Y:y50=2
 ·have F:(y50==2)=true:=by simpa using Y
  obtain⟨y52,G,y520,y521,C,D⟩:=nx (R:=R) (N:=N) (t:=false) (o:=o) u (bs.length:Int) (by omega) (by omega) A q
  obtain⟨B1,k1,j,I,L,hB1⟩:=Xs (R:=R) (N:=N) (m:=H) (t:=false) (o:=o) (by omega) u 12 (by omega) (by omega) (by omega) G C
  obtain⟨B2,k2,y,M,S,hB2⟩:=Xs (R:=R) (N:=N) (m:=H) (t:=false) (o:=o) (by omega) u 12 (by omega) (by omega) (by omega) k1 L
  obtain⟨B3,k3,z,T,U,hB3⟩:=Xs (R:=R) (N:=N) (m:=H) (t:=false) (o:=o) (by omega) u 40 (by omega) (by omega) (by omega) k2 S
  obtain⟨c,V,X⟩:=yE (R:=R) (o:=o) hN u (ts:=[⟨[116,48],y52,.of B1 false false,.of B2 false false,.of B3 false false⟩]) ⟨b.h,b.rl,b.rr,b.bl,b.bg,b.ll,b.lg,b.ul,b.ug,b.sl,b.sg,by simp,by
   intro x hx;simp at hx;subst hx
   exact⟨rfl,⟨y520,y521⟩,j,I,y,M,z,T⟩⟩ k3 U
  refine⟨c,V,fun K=>?_⟩
  unfold Xk Zd
  rw[s,F,ct,D,hB1,hB2,hB3,L4 j.symm,L4 y.symm,L4 z.symm,←X K,←j]
  simp only[j]
  have e:List.flatMap TieD.av [⟨[116,48],y52,.of B1 false false,.of B2 false false,.of B3 false false⟩]=[(.str ([116,48]:Lu)),(.int .i64 y52),(.imm (B1.flatMap V3) H 1 false false),(.imm (B2.flatMap V3) H 1 false false),(.imm (B3.flatMap V3) H 1 false false)]:=by
   simp[TieD.av,Sl.av,j,y,z]
  rw[e];rfl
 ·have F:(y50==2)=false:=by simpa using Y
  obtain⟨c,V,X⟩:=yE (R:=R) (o:=o) hN u b A q
  refine⟨c,V,fun K=>?_⟩
  unfold Xk Zd
  rw[s,F,cf,←X K];rfl
theorem yG {N:Nat} {l:List Int} {o:Bool} (hN:4096≤N) (b:l.length≤9223372036854775807) {H:Nat} {e:List Int} {bs:List BusD} {ls:List LineD} (h:1≤H∧H≤3) (rl:e.length=H) (rr:∀ x ∈ e,0≤x∧x<5) (bl:1≤bs.length∧bs.length≤4) (bg:∀ i (h:i<bs.length),BusG i H bs[i]) (ll:ls.length≤7) (lg:∀ i (h:i<ls.length),LineH bs.length i H ls[i]) :
  ∀ (n fuel k:Nat) (us:List UnitD),n<fuel→k≤l.length→us.length+n≤3→1≤us.length+n→(∀ i (h:i<us.length),UnitG i bs.length H us[i]) →
  ∃ c,CY c∧∀ K:LA→O R,Ls N K (bs.length:Int) (Ah l) l.length o (H:Int) e.length bs.length (Ah e) (bs.flatMap BusD.av) fuel (n:Int) (k:Int) ls.length us.length (ls.flatMap LineD.av) (us.flatMap UnitD.av)=K c.av
 | 0,fuel+1,k,us,_,Y,hn,hn1,ug=>by
  obtain⟨y34,s,y340,y341,j,q⟩:=nx (R:=R) (N:=N) (t:=false) (o:=o) b 3 (by omega) (by omega) k Y
  by_cases h2:y34=2
  ·have e2:(y34==2)=true:=by simpa using h2
   obtain⟨y36,k36,y360,y361,v,y⟩:=nx (R:=R) (N:=N) (t:=false) (o:=o) b (bs.length:Int) (by omega) (by omega) s j
   obtain⟨y38,k38,y380,y381,z,A⟩:=nx (R:=R) (N:=N) (t:=false) (o:=o) b 20 (by omega) (by omega) k36 v
   obtain⟨y40,k40,y400,y401,C,D⟩:=nx (R:=R) (N:=N) (t:=false) (o:=o) b 8 (by omega) (by omega) k38 z
   obtain⟨y42,k42,y420,y421,F,G⟩:=nx (R:=R) (N:=N) (t:=false) (o:=o) b 8 (by omega) (by omega) k40 C
   obtain⟨y44,k44,y440,y441,I,L⟩:=nx (R:=R) (N:=N) (t:=false) (o:=o) b 4 (by omega) (by omega) k42 F
   obtain⟨y46,k46,y460,y461,M,S⟩:=nx (R:=R) (N:=N) (t:=false) (o:=o) b (y38+1) (by omega) (by omega) k44 I
   obtain⟨y48,k48,y480,y481,T,U⟩:=nx (R:=R) (N:=N) (t:=false) (o:=o) b (y38+1) (by omega) (by omega) k46 M
   obtain⟨c,V,X⟩:=yF (R:=R) (o:=o) hN b (us:=us) (ss:=[⟨[115,48],y36,y38,y46,y48,y40,y42,⟨1+y44,4⟩⟩]) ⟨h,rl,rr,bl,bg,ll,lg,⟨by omega,by omega⟩,ug,by simp,by
    intro x hx;simp at hx;subst hx
    exact⟨rfl,⟨y360,y361⟩,⟨y380,y381⟩,⟨y460,by simp only;omega⟩,⟨y480,by simp only;omega⟩,⟨y400,y401⟩,⟨y420,y421⟩,by simp only;omega,by simp only;omega,rfl⟩,by simp,by simp⟩ k48 T
   refine⟨c,V,fun K=>?_⟩
   rw[Ls];unfold Tu
   rw[show decide (((0:Nat):Int)>0)=false from rfl,cf,q,e2,ct,y,A,D,G,L,L3 (a:=y38+1) (by omega),S,U,L3 (a:=1+y44) (by omega),←X K]
   rfl
  ·have e2:(y34==2)=false:=by simpa using h2
   obtain⟨c,V,X⟩:=yF (R:=R) (o:=o) hN b (us:=us) (ss:=[]) ⟨h,rl,rr,bl,bg,ll,lg,⟨by omega,by omega⟩,ug,by simp,by simp,by simp,by simp⟩ s j
   refine⟨c,V,fun K=>?_⟩
   rw[Ls];unfold Tu
   rw[show decide (((0:Nat):Int)>0)=false from rfl,cf,q,e2,cf,←X K]
   rfl
 | n+1,fuel+1,k,us,hf,Y,hn,hn1,ug=>by
  obtain⟨u,k1,gu,hk1,hu⟩:=zT (R:=R) (N:=N) (t:=false) (o:=o) (by omega) b (i:=us.length) (by omega) (nb:=(bs.length:Int)) (H:=(H:Int)) (by omega) (by omega) k Y
  obtain⟨c,V,X⟩:=yG (o:=o) hN b h rl rr bl bg ll lg n fuel k1 (us++[u]) (by omega) hk1 (by simp;omega) (by simp;omega) (L_ (P:=fun i u=>UnitG i bs.length H u) ug gu)
  refine⟨c,V,fun K=>?_⟩
  rw[Ls];unfold Tu
  have wn:wrap .i64 (((n+1:Nat):Int) - 1)=(n:Int):=LT (by omega)
  have c2:(ble (us.length+1) 140737488355328&&ble ((us.length+1)*216) 140737488355328)=true:=by rw[Bv,Bv];simp;omega
  have c3:take (us.length*22) (us.flatMap UnitD.av)++u.av=(us++[u]).flatMap UnitD.av:=by rw[Bt Ff _ rfl];simp
  rw[show decide (((n+1:Nat):Int)>0)=true from decide_eq_true (by omega),ct,hu,show((beq (List.length u.av) 22)&&(ble 22 22))=true from rfl,ct,c2,ct,wn,←X K,←c3,Akx]
  rfl
theorem Adn {N:Nat} {l:List Int} {o:Bool} (hN:4096≤N) (v:l.length≤9223372036854775807) {H:Nat} {b:List Int} {bs:List BusD} (h:1≤H∧H≤3) (rl:b.length=H) (rr:∀ x ∈ b,0≤x∧x<5) (bl:1≤bs.length∧bs.length≤4) (bg:∀ i (h:i<bs.length),BusG i H bs[i]) :
  ∀ (n fuel k:Nat) (ls:List LineD),n<fuel→k≤l.length→ls.length+n≤7→(∀ i (h:i<ls.length),LineH bs.length i H ls[i]) →
  ∃ c,CY c∧∀ K:LA→O R,Lt N K (bs.length:Int) (Ah l) l.length o (H:Int) b.length bs.length (Ah b) (bs.flatMap BusD.av) fuel (n:Int) (k:Int) ls.length (ls.flatMap LineD.av)=K c.av:=by
 have fin:∀ (k:Nat) (ls:List LineD),k≤l.length→ls.length≤7→(∀ i (h:i<ls.length),LineH bs.length i H ls[i])→∃ c,CY c∧∀ K:LA→O R,(Ab N (3:Int) (Ah l) l.length false o (k:Int) fun y22 y23=>Ls N K (bs.length:Int) (Ah l) l.length o (H:Int) b.length bs.length (Ah b) (bs.flatMap BusD.av) N (wrap .i64 ((1:Int)+y22)) y23 ls.length 0 (ls.flatMap LineD.av) [])=K c.av:=by
  intro k ls u ll lg
  obtain⟨y,F,y0,y1,j,M⟩:=nx (R:=R) (N:=N) (t:=false) (o:=o) v 3 (by omega) (by omega) k u
  obtain⟨n,hn⟩:∃ n:Nat,1+y=(n:Int):=⟨(1+y).toNat,by omega⟩
  obtain⟨c,q,s⟩:=yG (R:=R) (o:=o) hN v h rl rr bl bg ll lg n N F [] (by omega) j (by simp;omega) (by simp;omega) (by simp)
  refine⟨c,q,fun K=>?_⟩
  rw[M,L3 (a:=1+y) (by omega),hn]
  simpa using s K
 intro n
 induction n with
 | zero =>
  intro fuel k ls S u hn lg
  obtain⟨c,q,s⟩:=fin k ls u (by omega) lg
  refine⟨c,q,fun K=>?_⟩
  obtain⟨fuel,rfl⟩:∃ f,fuel=f+1:=⟨fuel - 1,by omega⟩
  rw[Lt];unfold Tv
  rw[show decide (((0:Nat):Int)>0)=false from rfl,←s K]
  rfl
 | succ n T =>
  intro fuel k ls S u hn lg
  obtain⟨fuel,rfl⟩:∃ f,fuel=f+1:=⟨fuel - 1,by omega⟩
  by_cases U:bs.length=1
  ·obtain⟨c,q,s⟩:=fin k ls u (by omega) lg
   refine⟨c,q,fun K=>?_⟩
   rw[Lt];unfold Tv
   rw[show decide (((n+1:Nat):Int)>0)=true from decide_eq_true (by omega),show decide ((bs.length:Int)>1)=false from decide_eq_false (by omega),←s K]
   rfl
  ·obtain⟨y26,G,y260,y261,z,A⟩:=nx (R:=R) (N:=N) (t:=false) (o:=o) v (bs.length:Int) (by omega) (by omega) k u
   obtain⟨y28,I,y280,y281,C,D⟩:=nx (R:=R) (N:=N) (t:=false) (o:=o) v ((bs.length:Int) - 1) (by omega) (by omega) G z
   have tm:∃ tx:Int,Int.tmod (y26+1+y28) (bs.length:Int)=tx∧0≤tx∧tx<(bs.length:Int)∧y26≠tx:=by
    refine⟨_,rfl,Int.tmod_nonneg _ (by omega),Ant _ (by omega),?_⟩
    by_cases L:y26+1+y28<(bs.length:Int)
    ·rw[Int.tmod_eq_of_lt (by omega) L];omega
    ·have:Int.tmod (y26+1+y28) (bs.length:Int)=y26+1+y28 - (bs.length:Int):=by
      have e:y26+1+y28=(y26+1+y28 - (bs.length:Int))+1*(bs.length:Int):=by omega
      rw[Int.tmod_eq_emod_of_nonneg (by omega)]
      conv=>lhs;rw[e]
      rw[Int.add_mul_emod_self_right,Int.emod_eq_of_lt (by omega) (by omega)]
     rw[this];omega
   obtain⟨tx,V,t0,t1,tne⟩:=tm
   obtain⟨x,F,gx,j,X⟩:=om (R:=R) (N:=N) (t:=false) (o:=o) v (i:=ls.length) (by omega) y26 tx (H:=(H:Int)) (by omega) I C
   obtain⟨c,q,s⟩:=T fuel F (ls++[x]) (by omega) j (by simp;omega) (L_ (P:=fun i x=>LineH bs.length i H x) lg ⟨by rw[gx.fr,gx.tx];exact gx,by rw[gx.fr];exact⟨y260,y261⟩,by rw[gx.tx];exact⟨t0,t1⟩,by rw[gx.fr,gx.tx];exact tne⟩)
   refine⟨c,q,fun K=>?_⟩
   rw[Lt];unfold Tv FQ
   have wn:wrap .i64 (((n+1:Nat):Int) - 1)=(n:Int):=LT (by omega)
   have c2:(ble (ls.length+1) 140737488355328&&ble ((ls.length+1)*120) 140737488355328)=true:=by rw[Bv,Bv];simp;omega
   have c3:take (ls.length*12) (ls.flatMap LineD.av)++x.av=(ls++[x]).flatMap LineD.av:=by rw[Bt B7 _ rfl];simp
   rw[show decide (((n+1:Nat):Int)>0)=true from decide_eq_true (by omega),show decide ((bs.length:Int)>1)=true from decide_eq_true (by omega)]
   simp only[beq_self_eq_true,cond_true]
   rw[A,L3 (a:=(bs.length:Int) - 1) (by omega),D,show((bs.length:Int)==0)=false from beq_eq_false_iff_ne.2 (by omega),cf,L3 (a:=y26+1) (by omega),L3 (a:=y26+1+y28) (by omega),V,X,show((beq (List.length x.av) 12)&&(ble 12 12))=true from rfl,ct,c2,ct,wn,←s K,←c3,Akx]
   rfl
theorem yH {N:Nat} {l:List Int} {o:Bool} (hN:4096≤N) (q:l.length≤9223372036854775807) {H:Nat} {b:List Int} {bs:List BusD} (h:1≤H∧H≤3) (rl:b.length=H) (rr:∀ x ∈ b,0≤x∧x<5) (bl:1≤bs.length∧bs.length≤4) (bg:∀ i (h:i<bs.length),BusG i H bs[i]) :
  ∀ (m j fuel k:Nat) (ls:List LineD),j+1+m=bs.length→m<fuel→k≤l.length→ls.length=j→(∀ i (h:i<ls.length),LineH bs.length i H ls[i]) →
  ∃ c,CY c∧∀ K:LA→O R,Rl N K (Ah l) l.length o (H:Int) b.length bs.length (Ah b) (bs.flatMap BusD.av) fuel (bs.length:Int) ((j+1:Nat):Int) (k:Int) ls.length (ls.flatMap LineD.av)=K c.av
 | 0,j,fuel+1,k,ls,F,_,u,s,lg=>by
  obtain⟨y,v,y0,y1,e,z⟩:=nx (R:=R) (N:=N) (t:=false) (o:=o) q 5 (by omega) (by omega) k u
  obtain⟨n,hn⟩:∃ n:Nat,y=(n:Int):=⟨y.toNat,by omega⟩
  subst hn
  obtain⟨c,A,C⟩:=Adn (R:=R) (o:=o) hN q h rl rr bl bg n N v ls (by omega) e (by omega) lg
  refine⟨c,A,fun K=>?_⟩
  rw[Rl];unfold Ze
  rw[G3 (by omega),cf,z];exact C K
 | m+1,j,fuel+1,k,ls,F,L,u,s,lg=>by
  obtain⟨y,v,y0,y1,e,z⟩:=nx (R:=R) (N:=N) (t:=false) (o:=o) q ((j+1:Nat):Int) (by omega) (by omega) k u
  obtain⟨x,G,gx,D,I⟩:=om (R:=R) (N:=N) (t:=false) (o:=o) q (i:=ls.length) (by omega) y ((j+1:Nat):Int) (H:=(H:Int)) (by omega) v e
  obtain⟨c,A,C⟩:=yH (o:=o) hN q h rl rr bl bg m (j+1) fuel G (ls++[x]) (by omega) (by omega) D (by simp[s]) (L_ (P:=fun i x=>LineH bs.length i H x) lg ⟨by rw[gx.fr,gx.tx];exact gx,by rw[gx.fr];omega,by rw[gx.tx];omega,by rw[gx.fr,gx.tx];omega⟩)
  refine⟨c,A,fun K=>?_⟩
  rw[Rl];unfold Ze
  have c2:(ble (ls.length+1) 140737488355328&&ble ((ls.length+1)*120) 140737488355328)=true:=by rw[Bv,Bv];simp;omega
  have c3:take (ls.length*12) (ls.flatMap LineD.av)++x.av=(ls++[x]).flatMap LineD.av:=by rw[Bt B7 _ rfl];simp
  rw[F7 (by omega),ct,z,I,show((beq (List.length x.av) 12)&&(ble 12 12))=true from rfl,ct,c2,ct,Bf (by omega),←C K,←c3,Akx]
  rfl
theorem yI {N:Nat} {l:List Int} {o:Bool} (hN:4096≤N) (v:l.length≤9223372036854775807) {H:Nat} {b:List Int} (h:1≤H∧H≤3) (rl:b.length=H) (rr:∀ x ∈ b,0≤x∧x<5) :
  ∀ (n fuel k:Nat) (bs:List BusD),n<fuel→k≤l.length→bs.length+n≤4→1≤bs.length+n→(∀ i (h:i<bs.length),BusG i H bs[i]) →
  ∃ c,CY c∧∀ K:LA→O R,Js N K (Ah l) l.length o b.length (Ah b) fuel (n:Int) (k:Int) (H:Int) bs.length (bs.flatMap BusD.av)=K c.av
 | 0,fuel+1,k,bs,_,D,hn,F,bg=>by
  obtain⟨c,q,u⟩:=yH (R:=R) (o:=o) hN v h rl rr ⟨by omega,by omega⟩ bg (bs.length - 1) 0 N k [] (by omega) (by omega) D rfl (by simp)
  refine⟨c,q,fun K=>?_⟩
  rw[Js];unfold Tx
  rw[show decide (((0:Nat):Int)>0)=false from rfl,cf,←u K]
  rfl
 | n+1,fuel+1,k,bs,V,D,hn,F,bg=>by
  obtain⟨B,S,C,T,G,hB⟩:=Xs (R:=R) (N:=N) (m:=H) (t:=false) (o:=o) (by omega) v 14 (by omega) (by omega) (by omega) k D
  obtain⟨y12,y,y120,y121,e,j⟩:=nx (R:=R) (N:=N) (t:=false) (o:=o) v 2 (by omega) (by omega) S G
  have wn:wrap .i64 (((n+1:Nat):Int) - 1)=(n:Int):=LT (by omega)
  have c2:(ble (bs.length+1) 140737488355328&&ble ((bs.length+1)*48) 140737488355328)=true:=by rw[Bv,Bv];simp;omega
  have c3:∀ s:Int,take (bs.length*3) (bs.flatMap BusD.av)++[(.str [98,Ajk.getD bs.length 0]),(.imm (B.flatMap V3) H 1 false false),(.int .i64 s)]=(bs++[(⟨[98,Ajk.getD bs.length 0],.of B false false,s⟩:BusD)]).flatMap BusD.av:=fun s=>by
   rw[Bt Lz _ rfl];simp[BusD.av,Sl.av,C]
  have go:∀ (s:Int) (kk:Nat),0≤s→s<300→kk≤l.length→∃ c,CY c∧∀ K:LA→O R,Js N K (Ah l) l.length o b.length (Ah b) fuel (n:Int) (kk:Int) (H:Int) (bs.length+1) (take (bs.length*3) (bs.flatMap BusD.av)++[(.str [98,Ajk.getD bs.length 0]),(.imm (B.flatMap V3) H 1 false false),(.int .i64 s)])=K c.av:=by
   intro s kk U s1 I
   have gb:BusG bs.length H (⟨[98,Ajk.getD bs.length 0],.of B false false,s⟩:BusD):=⟨rfl,C,T,U,s1⟩
   obtain⟨c,q,u⟩:=yI (o:=o) hN v h rl rr n fuel kk (bs++[(⟨[98,Ajk.getD bs.length 0],.of B false false,s⟩:BusD)]) (by omega) I (by simp;omega) (by simp;omega) (L_ (P:=fun i x=>BusG i H x) bg gb)
   refine⟨c,q,fun K=>?_⟩
   rw[c3,←u K,Akx]
   rfl
  by_cases M:y12=1
  ·have e1:(y12==1)=true:=by simpa using M
   obtain⟨y14,L,y140,y141,z,A⟩:=nx (R:=R) (N:=N) (t:=false) (o:=o) v 200 (by omega) (by omega) y e
   obtain⟨c,q,u⟩:=go (100+y14) L (by omega) (by omega) z
   refine⟨c,q,fun K=>?_⟩
   rw[Js];unfold Tx
   rw[show decide (((n+1:Nat):Int)>0)=true from decide_eq_true (by omega),ct,O6 (by omega),hB,j,e1,ct,A,c2,ct,wn,L3 (a:=100+y14) (by omega),L4 C.symm,u]
  ·have e1:(y12==1)=false:=by simpa using M
   obtain⟨c,q,u⟩:=go 0 y (by omega) (by omega) e
   refine⟨c,q,fun K=>?_⟩
   rw[Js];unfold Tx
   rw[show decide (((n+1:Nat):Int)>0)=true from decide_eq_true (by omega),ct,O6 (by omega),hB,j,e1,cf,c2,ct,wn,L4 C.symm,u]
theorem XG {N:Nat} {l:List Int} {n:Nat} {t o:Bool} (hn:n=l.length) (hN:4096≤N) (b:l.length≤9223372036854775807):∃ c,CY c∧∀ K:LA→O R,NN N (Ah l) n t o K=K c.av:=by
 subst hn
 obtain⟨y1,v,y10,y11,e,j⟩:=nx (R:=R) (N:=N) (t:=false) (o:=o) b 3 (by omega) (by omega) 0 (by omega)
 obtain⟨H,hH⟩:∃ H:Nat,1+y1=(H:Int):=⟨(1+y1).toNat,by omega⟩
 obtain⟨B,y,u,A,k,hB⟩:=Xs (R:=R) (N:=N) (m:=H) (t:=false) (o:=o) (by omega) b 5 (by omega) (by omega) (by omega) v e
 obtain⟨y6,C,y60,y61,q,s⟩:=nx (R:=R) (N:=N) (t:=false) (o:=o) b 4 (by omega) (by omega) y k
 obtain⟨m,D⟩:∃ m:Nat,1+y6=(m:Int):=⟨(1+y6).toNat,by omega⟩
 obtain⟨c,F,G⟩:=yI (R:=R) (o:=o) hN b (H:=H) (by omega) u A m N C [] (by omega) q (by simp;omega) (by simp;omega) (by simp)
 refine⟨c,F,fun K=>?_⟩
 rw[d_];unfold WS
 rw[FO];unfold WP
 have z:Ab N 3 (Ah l) l.length false o 0=Ab (R:=R) N 3 (Ah l) l.length false o ((0:Nat):Int):=rfl
 rw[z,j,L3 (a:=1+y1) (by omega),hH,hB,s,L3 (a:=1+y6) (by omega),D,←G K,u]
 rfl
def Cd (c:CaseD) (p:Ca) (k i:Int):LA:=c.av++CN p k i
theorem Jx {N:Nat} {c:CaseD} {p:Ca} {k i j q:Int} {w:Bool} {K:Bool→LA→O R} :
  JX N j q w (Cd c p k i) K=K w (Cd c p j q):=by
 rw[oU];unfold wD
 rcases p with _ | ⟨⟨a,b,f⟩,e,s⟩
 ·simp[Cd,CaseD.av,CN,Aw,Dd,Bv,Xy]
 ·have:(e==0)=false:=by simpa using s
  simp[Cd,CaseD.av,CN,Aw,this]
theorem An {N:Nat} {c:CaseD} {p:Ca} {k i f e:Int} {ok w:Bool} {K:Bool→LA→O R} (q:e≠0) :
  As N ok f e w (Cd c p k i) K=K w (Cd c (nd p ok (k,i,f) ⟨e,q⟩) k i):=by
 rw[c_];unfold iz
 rcases p with _ | ⟨⟨a,b,u⟩,s,j⟩
 ·cases ok<;>simp[Cd,CaseD.av,CN,Aw,nd,Bv,Xy]
 ·have:(s==0)=false:=by simpa using j
  simp[Cd,CaseD.av,CN,Aw,nd,this]
theorem D1 {N:Nat} {c:CaseD} {p:Ca} {k i f n lo hi:Int} {w:Bool} {K:Bool→LA→O R} :
  A0 N f n lo hi w (Cd c p k i) K=K w (Cd c (nd p (D2 lo hi n) (k,i,f) ⟨3,by decide⟩) k i):=by
 rw[PK];unfold RG
 rw[An (by decide),An (by decide)]
 unfold D2
 cases h:decide (n≥lo) with
 | true=>simp at h;simp[h]
 | false=>simp at h;simp[show ¬ lo≤n by omega]
theorem Zo {N:Nat} {l:List Int} {t o:Bool} {K:Bool→O R} (hs:l.length<4611686018427387904):∀ (m j fuel:Nat),j+1+m=l.length→m<fuel →
  D4 N K (Ah l) l.length t o fuel ((j+1:Nat):Int)=K (CP (l.drop j))
 | 0,j,fuel+1,e,_=>by
  rw[D4];unfold Ic
  rw[G3 (by omega),cf,Bb (by omega),Bn (by omega),V4]
 | m+1,j,fuel+1,e,k=>by
  rw[D4];unfold Ic
  have h:j+1<l.length:=by omega
  have h':j<l.length:=by omega
  rw[F7 h,ct,Ac h,ct,Qc h,LT (by omega),Ac h',ct,Qc h',Bf (by omega),Zo hs m (j+1) fuel (by omega) (by omega),Bb h',Bb h,O2]
  by_cases b:l[j+1]≤l[j]
  ·have:¬ l[j]<l[j+1]:=by omega
   simp[b,this]
  ·have:l[j]<l[j+1]:=by omega
   simp[b,this]
theorem Qe {N:Nat} {l:List Int} {n:Nat} {t o:Bool} {K:Bool→O R} (hn:n=l.length) (hs:D8 l.length N):I4 N (Ah l) n t o K=K (CP l):=by
 subst hn
 rw[BQ];unfold Sc
 rcases l with _ | ⟨a,r⟩
 ·have hN:=hs.1
  rcases N with _ | N
  ·simp at hN
  ·rw[D4];unfold Ic;simp[NQ]
 ·have:=Zo (R:=R) (N:=N) (t:=t) (o:=o) (K:=K) hs.2 r.length 0 N (by simp;omega) (by have:=hs.1;simp at this;omega)
  simpa using this
theorem lD {N:Nat} {v:Int} {l:List Int} {t o:Bool} {K:Int→O R} (hs:l.length<4611686018427387904):∀ (m j fuel:Nat),j+m=l.length→m<fuel →
  ∃ r:Int,(decide (r≥0)=(l.drop j).contains v)∧Br N K (Ah l) l.length t o v fuel (l.length:Int) (j:Int)=K r
 | 0,j,fuel+1,b,_=>by
  rw[Br];unfold Eb
  rw[G3 (by omega),cf,Bn (by omega)];exact⟨-1,by simp,rfl⟩
 | m+1,j,fuel+1,b,e=>by
  rw[Br];unfold Eb
  have h:j<l.length:=by omega
  rw[F7 h,ct,Ac h,ct,Qc h,Bf (by omega),Bb h,Aph]
  cases k:v==l[j] with
  | true=>exact⟨j,by simp,rfl⟩
  | false=>simpa using lD hs m (j+1) fuel (by omega) (by omega)
theorem QH {N:Nat} {v:Int} {l:List Int} {n:Nat} {t o:Bool} {K:Bool→O R} (hn:n=l.length) (hs:D8 l.length N):C8 N (Ah l) n t o v K=K (l.contains v):=by
 subst hn
 rw[J8];unfold Gz
 rw[Mv];unfold Ft
 obtain⟨r,b,e⟩:=lD (R:=R) (N:=N) (v:=v) (t:=false) (o:=o) (K:=fun y1=>K (decide (y1≥0))) hs.2 l.length 0 N (by omega) hs.1
 simp only[Ak7] at b
 rw[←b]
 simpa using e
theorem rU {N:Nat} {v:Int} {K:O R} (hN:8≤N):Dl N v K=K:=by
 rw[H5];unfold Fk
 rw[J9];unfold Ec
 rcases N with _ | N
 ·omega
 ·rw[Ck];unfold Fj;rfl
theorem In {c:CaseD} {p:Ca} {k i:Int} {f:Int→O R}:Ao .i64 (drop 11 (Cd c p k i)) f=f (A8 p):=by
 rcases p with _ | ⟨⟨a,b,j⟩,e,q⟩<;>simp[Cd,CaseD.av,CN,Aw,A8]
theorem aZ {c:CaseD} {k i:Int} {f:Int→O R}:Ao .i64 (drop 9 (Cd c none k i)) f=f i:=by simp[Cd,CaseD.av,CN,Aw]
theorem XH {c:CaseD} {p:Ca} {k i:Int} {f:Int→O R}:Ao .i64 (Cd c p k i) f=f c.hours:=by simp[Cd,CaseD.av,Aw]
theorem xE {c:CaseD} {p:Ca} {k i:Int} {f:LA→Nat→O R}:Ba 1 (drop 1 (Cd c p k i)) f=f (Ah c.reserve.l) c.reserve.l.length:=by simp[Cd,CaseD.av,Cy,C6]
theorem XI {c:CaseD} {p:Ca} {k i:Int} {f:LA→Nat→O R}:Ba 3 (drop 2 (Cd c p k i)) f=f (c.buses.l.flatMap BusD.av) c.buses.l.length:=by simp[Cd,CaseD.av,Cy]
theorem XJ {c:CaseD} {p:Ca} {k i:Int} {f:LA→Nat→O R}:Ba 12 (drop 3 (Cd c p k i)) f=f (c.lines.l.flatMap LineD.av) c.lines.l.length:=by simp[Cd,CaseD.av,Cy]
theorem XK {c:CaseD} {p:Ca} {k i:Int} {f:LA→Nat→O R}:Ba 22 (drop 4 (Cd c p k i)) f=f (c.units.l.flatMap UnitD.av) c.units.l.length:=by simp[Cd,CaseD.av,Cy]
theorem a6 {c:CaseD} {p:Ca} {k i:Int} {f:LA→Nat→O R}:Ba 9 (drop 5 (Cd c p k i)) f=f (c.stores.l.flatMap StoreD.av) c.stores.l.length:=by simp[Cd,CaseD.av,Cy]
theorem rV {c:CaseD} {p:Ca} {k i:Int} {f:LA→Nat→O R}:Ba 5 (drop 6 (Cd c p k i)) f=f (c.ties.l.flatMap TieD.av) c.ties.l.length:=by simp[Cd,CaseD.av,Cy]
theorem gM {c:CaseD} {p:Ca} {k i:Int} {f:LA→Nat→O R}:Ba 4 (drop 7 (Cd c p k i)) f=f (c.outs.l.flatMap OutD.av) c.outs.l.length:=by simp[Cd,CaseD.av,Cy]
theorem MA {N:Nat} {c:CaseD} {k i f lo hi:Int} {l:List Int} {t o w:Bool} {K:Bool→LA→O R} (hs:l.length<4611686018427387904):∀ (m j fuel:Nat) (p:Ca),j+m=l.length→m<fuel →
  I3 N K f lo hi (Ah l) l.length t o fuel (l.length:Int) (j:Int) w (Cd c p k i)=K w (Cd c (nd p ((l.drop j).all (D2 lo hi)) (k,i,f) ⟨3,by decide⟩) k i)
 | 0,j,fuel+1,p,b,_=>by
  rw[I3];unfold Sa
  rw[G3 (by omega),cf,Bn (by omega),Al3,E4]
 | m+1,j,fuel+1,p,b,s=>by
  rw[I3];unfold Sa
  have h:j<l.length:=by omega
  rw[F7 h,ct,Ac h,ct,Qc h,In,D1,Bf (by omega),MA hs m (j+1) fuel _ (by omega) (by omega),Bb h,Ale,Mx]
  rcases p with _ | ⟨x,e,q⟩
  ·simp[A8]
  ·have:(e != 0)=true:=by simpa using q
   simp[A8,this,nd]
theorem L5 {N:Nat} {c:CaseD} {p:Ca} {k i f lo hi:Int} {l:List Int} {n:Nat} {t o w:Bool} {K:Bool→LA→O R} (hn:n=l.length) (hs:D8 l.length N) :
  Mi N f (Ah l) n t o lo hi w (Cd c p k i) K=K w (Cd c (QF c.hours l lo hi (k,i,f) p) k i):=by
 subst hn
 rw[PL];unfold EJ
 rw[XH,An (by decide)]
 have:=MA (R:=R) (N:=N) (c:=c) (k:=k) (i:=i) (f:=f) (lo:=lo) (hi:=hi) (t:=t) (o:=o) (w:=w) (K:=K) hs.2 l.length 0 N (nd p ((l.length:Int)==c.hours) (k,i,f) ⟨4,by decide⟩) (by omega) hs.1
 simpa[QF] using this
theorem XL {N:Nat} {c:CaseD} {k i f:Int} {l:List Int} {t o w w0:Bool} {h0:LA} {K:Bool→LA→O R} (hs:D8 l.length N):∀ (m j fuel:Nat) (p:Ca),j+m=l.length→m<fuel →
  N9 N K f (Ah l) l.length t o w0 h0 fuel (l.length:Int) (j:Int) w (Cd c p k i)=K w (Cd c (nd (nd p ((l.drop j).all (D2 0 (wrap .i64 (c.hours - 1)))) (k,i,f) ⟨3,by decide⟩) (CP l) (k,i,f) ⟨11,by decide⟩) k i)
 | 0,j,fuel+1,p,b,_=>by
  rw[N9];unfold Yk
  rw[G3 (by omega),cf,Bn (by omega),Al3,E4,Qe rfl hs,An (by decide)]
 | m+1,j,fuel+1,p,b,u=>by
  rw[N9];unfold Yk
  have h:j<l.length:=by omega
  have q:=hs.2
  rw[F7 h,ct,Ac h,ct,Qc h,In,XH,D1,Bf (by omega),XL hs m (j+1) fuel _ (by omega) (by omega),Bb h,Ale,Mx]
  rcases p with _ | ⟨x,e,s⟩
  ·simp[A8]
  ·have:(e != 0)=true:=by simpa using s
   simp[A8,this,nd]
theorem XM {N:Nat} {c:CaseD} {p:Ca} {k i f:Int} {l:List Int} {n:Nat} {t o w:Bool} {K:Bool→LA→O R} (hn:n=l.length) (hs:D8 l.length N) :
  M_ N f (Ah l) n t o w (Cd c p k i) K=K w (Cd c (LU c.hours l (k,i,f) p) k i):=by
 subst hn
 rw[dE];unfold UR
 have:=XL (R:=R) (N:=N) (c:=c) (k:=k) (i:=i) (f:=f) (t:=t) (o:=o) (w:=w) (w0:=w) (h0:=Cd c p k i) (K:=K) hs l.length 0 N p (by omega) hs.1
 simpa[LU] using this
theorem Zp {N:Nat} {c:CaseD} {p:Ca} {k i f b:Int} {w:Bool} {K:Bool→LA→O R} :
  KB N f b w (Cd c p k i) K=K w (Cd c (nd p (HU c b) (k,i,f) ⟨12,by decide⟩) k i):=by
 rw[jI];unfold qf
 rw[XI,An (by decide),An (by decide)]
 unfold HU
 cases h:decide (b≥0) with
 | true=>simp at h;simp[h]
 | false=>simp at h;simp[show ¬ 0≤b by omega]
theorem QI {N:Nat} {f:FracD} {o:Bool} {K:Bool→O R}:W2 N [.int .i64 f.num,.int .i64 f.den] o K=K (G4 f):=by
 rw[UQ];unfold ZW
 simp only[Alc,Ak7,Aw]
 unfold G4 D2
 by_cases b:1≤f.den<;>by_cases e:f.den≤1048576<;>by_cases j:-1048576≤f.num<;>simp[b,e,j]
theorem XN {N:Nat} {s:Lu} {K:Bool→O R} (hs:s.length<4611686018427387904):∀ (m j fuel:Nat),j+m=s.length→m<fuel →
  Q8 N K s fuel (s.length:Int) (j:Int)=K ((s.drop j).all Abw)
 | 0,j,fuel+1,b,_=>by
  rw[Q8];unfold Yh
  rw[G3 (by omega),cf,Bn (by omega)];rfl
 | m+1,j,fuel+1,b,z=>by
  rw[Q8];unfold Yh
  have h:j<s.length:=by omega
  rw[F7 h,ct,Ac h,ct,Bf (by omega),XN hs m (j+1) fuel (by omega) (by omega),Bb h,Ale,rP h]
  unfold Abw aU
  generalize s[j].toNat=v
  generalize (s.drop (j+1)).all _=r
  by_cases e:97≤v<;>by_cases k:v≤122<;>by_cases q:48≤v<;>by_cases u:v≤57<;>by_cases y:v=95 <;>
   simp[e,k,q,u,show((v:Int)<97)↔¬ 97≤v by omega,show((v:Int)<48)↔¬ 48≤v by omega,show((122:Int)<v)↔¬ v≤122 by omega,show((57:Int)<v)↔¬ v≤57 by omega,show((v:Int) != 95)=!decide (v=95) by (by_cases v=95<;>simp_all<;>omega),y]
theorem Mt {N:Nat} {s:Lu} {K:Bool→O R} (hN:64≤N):Sb N s K=K (Jv s):=by
 rw[dC];unfold UL EK JZ
 unfold Jv
 by_cases b:1≤s.length
 ·by_cases e:s.length≤16
  ·have j:=XN (R:=R) (N:=N) (s:=s) (K:=K) (by omega) s.length 0 N (by omega) (by omega)
   simp only[Ak7,Alw] at j
   rw[j]
   have h0:Af 0 s.length=true:=Ac (i:=0) (by omega)
   rw[h0]
   simp only[b,e,show(decide ((s.length:Int)<1))=false by simp;omega,show(decide ((s.length:Int)>16))=false by simp;omega,decide_true,cond_true,cond_false,beq_self_eq_true]
   cases s==[99,111,114,114,101,99,116,105,118,101]
   ·unfold aU
    generalize (List.getD s 0 0).toNat=v
    by_cases k:97≤v<;>by_cases q:v≤122<;>simp[k,q,show((v:Int)<97)↔¬ 97≤v by omega,show((122:Int)<v)↔¬ v≤122 by omega]
   ·simp
  ·simp[b,e,show((s.length:Int)<1)↔¬ 1≤s.length by omega,show((16:Int)<s.length)↔¬ s.length≤16 by omega]
 ·simp[b,show((s.length:Int)<1)↔¬ 1≤s.length by omega]
theorem XO {N:Nat} {c:CaseD} {p:Ca} {k i:Int} {w:Bool} {j:Nat} {K:Lu→O R} (h:j<c.buses.l.length):U6 N (j:Int) w (Cd c p k i) K=K c.buses.l[j].name:=by
 rw[BN];unfold Z0
 rw[XI,Ac h,ct,Aku,Ar Lz _ _ h]
 simp[BusD.av,Dh]
theorem XP {N:Nat} {c:CaseD} {k i:Int} {s:Lu} {w:Bool} {K:Bool→LA→O R} {n:Nat} (hn:n≤c.buses.l.length) (hs:n<4611686018427387904):∀ (m j fuel:Nat) (p:Ca),j+m=n→m<fuel →
  Fx N K s (n:Int) fuel (j:Int) w (Cd c p k i)=K w (Cd c (nd p ((((c.buses.l.map (·.name)).take n).drop j).all fun x=>!(x==s)) (k,i,0) ⟨10,by decide⟩) k i)
 | 0,j,fuel+1,p,b,_=>by
  rw[Fx];unfold La
  rw[G3 (by omega),cf,Bn (by simp;omega),Al3,E4]
 | m+1,j,fuel+1,p,b,y=>by
  rw[Fx];unfold La
  have h:j<c.buses.l.length:=by omega
  have q:j<((c.buses.l.map (·.name)).take n).length:=by simp;omega
  rw[F7 (by omega),ct,In,XO h,An (by decide),Bf (by omega),XP hn hs m (j+1) fuel _ (by omega) (by omega),Bb q,Ale,Mx]
  have e:((c.buses.l.map (·.name)).take n)[j]=c.buses.l[j].name:=by simp
  rw[e]
  rcases p with _ | ⟨x,u,v⟩
  ·simp[A8]
  ·have:(u != 0)=true:=by simpa using v
   simp[A8,this,nd]
theorem rW {N:Nat} {c:CaseD} {p:Ca} {k:Int} {n:Nat} {s:Lu} {w:Bool} {K:Bool→LA→O R} (hN:64≤N) (hn:n≤c.buses.l.length) (hs:D8 n N) :
  W0 N s w (Cd c p k (n:Int)) K=K w (Cd c (H6 ((c.buses.l.map (·.name)).take n) k n s p) k n):=by
 rw[J_];unfold Yi
 rw[Mt hN,An (by decide)]
 unfold H6
 cases u:nd p (Jv s) (k,(n:Int),0) ⟨9,by decide⟩ with
 | none =>
  rw[aZ]
  have:=XP (R:=R) (N:=N) (c:=c) (k:=k) (i:=n) (s:=s) (w:=w) (K:=K) hn hs.2 n 0 N none (by omega) hs.1
  simpa using this
 | some x =>
  obtain⟨⟨a,b,f⟩,e,j⟩:=x
  have q:∀ g:Int→O R,Ao .i64 (drop 9 (Cd c (some ((a,b,f),⟨e,j⟩)) k n)) g=g b:=by intro g;simp[Cd,CaseD.av,CN,Aw]
  rw[q,FV]
  rcases N with _ | N
  ·omega
  ·dsimp only
   rw[Fx];unfold La
   rw[In]
   have:(e != 0)=true:=by simpa using j
   cases decide (0<b)<;>simp[A8,this]
theorem XQ {N:Nat} {c:CaseD} {p:Ca} {k i:Int} {w:Bool} {j:Nat} {K:Lu→O R} (h:j<c.lines.l.length):U8 N (j:Int) w (Cd c p k i) K=K c.lines.l[j].name:=by
 rw[BP];unfold Z1
 rw[XJ,Ac h,ct,Aku,Ar B7 _ _ h]
 simp[LineD.av,Dh]
theorem HZ {N:Nat} {c:CaseD} {k i:Int} {s:Lu} {w:Bool} {K:Bool→LA→O R} {n:Nat} (hn:n≤c.lines.l.length) (hs:n<4611686018427387904):∀ (m j fuel:Nat) (p:Ca),j+m=n→m<fuel →
  Fy N K s (n:Int) fuel (j:Int) w (Cd c p k i)=K w (Cd c (nd p ((((c.lines.l.map (·.name)).take n).drop j).all fun x=>!(x==s)) (k,i,0) ⟨10,by decide⟩) k i)
 | 0,j,fuel+1,p,b,_=>by
  rw[Fy];unfold Lc
  rw[G3 (by omega),cf,Bn (by simp;omega),Al3,E4]
 | m+1,j,fuel+1,p,b,y=>by
  rw[Fy];unfold Lc
  have h:j<c.lines.l.length:=by omega
  have q:j<((c.lines.l.map (·.name)).take n).length:=by simp;omega
  rw[F7 (by omega),ct,In,XQ h,An (by decide),Bf (by omega),HZ hn hs m (j+1) fuel _ (by omega) (by omega),Bb q,Ale,Mx]
  have e:((c.lines.l.map (·.name)).take n)[j]=c.lines.l[j].name:=by simp
  rw[e]
  rcases p with _ | ⟨x,u,v⟩
  ·simp[A8]
  ·have:(u != 0)=true:=by simpa using v
   simp[A8,this,nd]
theorem ft {N:Nat} {c:CaseD} {p:Ca} {k:Int} {n:Nat} {s:Lu} {w:Bool} {K:Bool→LA→O R} (hN:64≤N) (hn:n≤c.lines.l.length) (hs:D8 n N) :
  W1 N s w (Cd c p k (n:Int)) K=K w (Cd c (H6 ((c.lines.l.map (·.name)).take n) k n s p) k n):=by
 rw[KA];unfold Yj
 rw[Mt hN,An (by decide)]
 unfold H6
 cases u:nd p (Jv s) (k,(n:Int),0) ⟨9,by decide⟩ with
 | none =>
  rw[aZ]
  have:=HZ (R:=R) (N:=N) (c:=c) (k:=k) (i:=n) (s:=s) (w:=w) (K:=K) hn hs.2 n 0 N none (by omega) hs.1
  simpa using this
 | some x =>
  obtain⟨⟨a,b,f⟩,e,j⟩:=x
  have q:∀ g:Int→O R,Ao .i64 (drop 9 (Cd c (some ((a,b,f),⟨e,j⟩)) k n)) g=g b:=by intro g;simp[Cd,CaseD.av,CN,Aw]
  rw[q,FV]
  rcases N with _ | N
  ·omega
  ·dsimp only
   rw[Fy];unfold Lc
   rw[In]
   have:(e != 0)=true:=by simpa using j
   cases decide (0<b)<;>simp[A8,this]
theorem XR {N:Nat} {c:CaseD} {p:Ca} {k i:Int} {w:Bool} {j:Nat} {K:Lu→O R} (h:j<c.units.l.length):Va N (j:Int) w (Cd c p k i) K=K c.units.l[j].name:=by
 rw[BS];unfold Z2
 rw[XK,Ac h,ct,Aku,Ar Ff _ _ h]
 simp[UnitD.av,Dh]
theorem H_ {N:Nat} {c:CaseD} {k i:Int} {s:Lu} {w:Bool} {K:Bool→LA→O R} {n:Nat} (hn:n≤c.units.l.length) (hs:n<4611686018427387904):∀ (m j fuel:Nat) (p:Ca),j+m=n→m<fuel →
  Fz N K s (n:Int) fuel (j:Int) w (Cd c p k i)=K w (Cd c (nd p ((((c.units.l.map (·.name)).take n).drop j).all fun x=>!(x==s)) (k,i,0) ⟨10,by decide⟩) k i)
 | 0,j,fuel+1,p,b,_=>by
  rw[Fz];unfold Ld
  rw[G3 (by omega),cf,Bn (by simp;omega),Al3,E4]
 | m+1,j,fuel+1,p,b,y=>by
  rw[Fz];unfold Ld
  have h:j<c.units.l.length:=by omega
  have q:j<((c.units.l.map (·.name)).take n).length:=by simp;omega
  rw[F7 (by omega),ct,In,XR h,An (by decide),Bf (by omega),H_ hn hs m (j+1) fuel _ (by omega) (by omega),Bb q,Ale,Mx]
  have e:((c.units.l.map (·.name)).take n)[j]=c.units.l[j].name:=by simp
  rw[e]
  rcases p with _ | ⟨x,u,v⟩
  ·simp[A8]
  ·have:(u != 0)=true:=by simpa using v
   simp[A8,this,nd]
theorem fu {N:Nat} {c:CaseD} {p:Ca} {k:Int} {n:Nat} {s:Lu} {w:Bool} {K:Bool→LA→O R} (hN:64≤N) (hn:n≤c.units.l.length) (hs:D8 n N) :
  W4 N s w (Cd c p k (n:Int)) K=K w (Cd c (H6 ((c.units.l.map (·.name)).take n) k n s p) k n):=by
 rw[KE];unfold Yn
 rw[Mt hN,An (by decide)]
 unfold H6
 cases u:nd p (Jv s) (k,(n:Int),0) ⟨9,by decide⟩ with
 | none =>
  rw[aZ]
  have:=H_ (R:=R) (N:=N) (c:=c) (k:=k) (i:=n) (s:=s) (w:=w) (K:=K) hn hs.2 n 0 N none (by omega) hs.1
  simpa using this
 | some x =>
  obtain⟨⟨a,b,f⟩,e,j⟩:=x
  have q:∀ g:Int→O R,Ao .i64 (drop 9 (Cd c (some ((a,b,f),⟨e,j⟩)) k n)) g=g b:=by intro g;simp[Cd,CaseD.av,CN,Aw]
  rw[q,FV]
  rcases N with _ | N
  ·omega
  ·dsimp only
   rw[Fz];unfold Ld
   rw[In]
   have:(e != 0)=true:=by simpa using j
   cases decide (0<b)<;>simp[A8,this]
theorem SA {N:Nat} {c:CaseD} {p:Ca} {k i:Int} {w:Bool} {j:Nat} {K:Lu→O R} (h:j<c.stores.l.length):Sd N (j:Int) w (Cd c p k i) K=K c.stores.l[j].name:=by
 rw[Yq];unfold W5
 rw[a6,Ac h,ct,Aku,Ar Er _ _ h]
 simp[StoreD.av,Dh]
theorem H' {N:Nat} {c:CaseD} {k i:Int} {s:Lu} {w:Bool} {K:Bool→LA→O R} {n:Nat} (hn:n≤c.stores.l.length) (hs:n<4611686018427387904):∀ (m j fuel:Nat) (p:Ca),j+m=n→m<fuel →
  E6 N K s (n:Int) fuel (j:Int) w (Cd c p k i)=K w (Cd c (nd p ((((c.stores.l.map (·.name)).take n).drop j).all fun x=>!(x==s)) (k,i,0) ⟨10,by decide⟩) k i)
 | 0,j,fuel+1,p,b,_=>by
  rw[E6];unfold J5
  rw[G3 (by omega),cf,Bn (by simp;omega),Al3,E4]
 | m+1,j,fuel+1,p,b,y=>by
  rw[E6];unfold J5
  have h:j<c.stores.l.length:=by omega
  have q:j<((c.stores.l.map (·.name)).take n).length:=by simp;omega
  rw[F7 (by omega),ct,In,SA h,An (by decide),Bf (by omega),H' hn hs m (j+1) fuel _ (by omega) (by omega),Bb q,Ale,Mx]
  have e:((c.stores.l.map (·.name)).take n)[j]=c.stores.l[j].name:=by simp
  rw[e]
  rcases p with _ | ⟨x,u,v⟩
  ·simp[A8]
  ·have:(u != 0)=true:=by simpa using v
   simp[A8,this,nd]
theorem fw {N:Nat} {c:CaseD} {p:Ca} {k:Int} {n:Nat} {s:Lu} {w:Bool} {K:Bool→LA→O R} (hN:64≤N) (hn:n≤c.stores.l.length) (hs:D8 n N) :
  Te N s w (Cd c p k (n:Int)) K=K w (Cd c (H6 ((c.stores.l.map (·.name)).take n) k n s p) k n):=by
 rw[G_];unfold Vd
 rw[Mt hN,An (by decide)]
 unfold H6
 cases u:nd p (Jv s) (k,(n:Int),0) ⟨9,by decide⟩ with
 | none =>
  rw[aZ]
  have:=H' (R:=R) (N:=N) (c:=c) (k:=k) (i:=n) (s:=s) (w:=w) (K:=K) hn hs.2 n 0 N none (by omega) hs.1
  simpa using this
 | some x =>
  obtain⟨⟨a,b,f⟩,e,j⟩:=x
  have q:∀ g:Int→O R,Ao .i64 (drop 9 (Cd c (some ((a,b,f),⟨e,j⟩)) k n)) g=g b:=by intro g;simp[Cd,CaseD.av,CN,Aw]
  rw[q,FV]
  rcases N with _ | N
  ·omega
  ·dsimp only
   rw[E6];unfold J5
   rw[In]
   have:(e != 0)=true:=by simpa using j
   cases decide (0<b)<;>simp[A8,this]
theorem a7 {N:Nat} {c:CaseD} {p:Ca} {k i:Int} {w:Bool} {j:Nat} {K:Lu→O R} (h:j<c.ties.l.length):Yr N (j:Int) w (Cd c p k i) K=K c.ties.l[j].name:=by
 rw[HA];unfold EQ
 rw[rV,Ac h,ct,Aku,Ar Im _ _ h]
 simp[TieD.av,Dh]
theorem IA {N:Nat} {c:CaseD} {k i:Int} {s:Lu} {w:Bool} {K:Bool→LA→O R} {n:Nat} (hn:n≤c.ties.l.length) (hs:n<4611686018427387904):∀ (m j fuel:Nat) (p:Ca),j+m=n→m<fuel →
  E7 N K s (n:Int) fuel (j:Int) w (Cd c p k i)=K w (Cd c (nd p ((((c.ties.l.map (·.name)).take n).drop j).all fun x=>!(x==s)) (k,i,0) ⟨10,by decide⟩) k i)
 | 0,j,fuel+1,p,b,_=>by
  rw[E7];unfold J6
  rw[G3 (by omega),cf,Bn (by simp;omega),Al3,E4]
 | m+1,j,fuel+1,p,b,y=>by
  rw[E7];unfold J6
  have h:j<c.ties.l.length:=by omega
  have q:j<((c.ties.l.map (·.name)).take n).length:=by simp;omega
  rw[F7 (by omega),ct,In,a7 h,An (by decide),Bf (by omega),IA hn hs m (j+1) fuel _ (by omega) (by omega),Bb q,Ale,Mx]
  have e:((c.ties.l.map (·.name)).take n)[j]=c.ties.l[j].name:=by simp
  rw[e]
  rcases p with _ | ⟨x,u,v⟩
  ·simp[A8]
  ·have:(u != 0)=true:=by simpa using v
   simp[A8,this,nd]
theorem fy {N:Nat} {c:CaseD} {p:Ca} {k:Int} {n:Nat} {s:Lu} {w:Bool} {K:Bool→LA→O R} (hN:64≤N) (hn:n≤c.ties.l.length) (hs:D8 n N) :
  Tf N s w (Cd c p k (n:Int)) K=K w (Cd c (H6 ((c.ties.l.map (·.name)).take n) k n s p) k n):=by
 rw[HB];unfold Ve
 rw[Mt hN,An (by decide)]
 unfold H6
 cases u:nd p (Jv s) (k,(n:Int),0) ⟨9,by decide⟩ with
 | none =>
  rw[aZ]
  have:=IA (R:=R) (N:=N) (c:=c) (k:=k) (i:=n) (s:=s) (w:=w) (K:=K) hn hs.2 n 0 N none (by omega) hs.1
  simpa using this
 | some x =>
  obtain⟨⟨a,b,f⟩,e,j⟩:=x
  have q:∀ g:Int→O R,Ao .i64 (drop 9 (Cd c (some ((a,b,f),⟨e,j⟩)) k n)) g=g b:=by intro g;simp[Cd,CaseD.av,CN,Aw]
  rw[q,FV]
  rcases N with _ | N
  ·omega
  ·dsimp only
   rw[E7];unfold J6
   rw[In]
   have:(e != 0)=true:=by simpa using j
   cases decide (0<b)<;>simp[A8,this]
theorem OR {N:Nat} {c:CaseD} {p:Ca} {k i:Int} {w:Bool} {j:Nat} {K:Lu→O R} (h:j<c.outs.l.length):Pi N (j:Int) w (Cd c p k i) K=K c.outs.l[j].name:=by
 rw[W6];unfold T9
 rw[gM,Ac h,ct,Aku,Ar Cb _ _ h]
 simp[OutD.av,Dh]
theorem IB {N:Nat} {c:CaseD} {k i:Int} {s:Lu} {w:Bool} {K:Bool→LA→O R} {n:Nat} (hn:n≤c.outs.l.length) (hs:n<4611686018427387904):∀ (m j fuel:Nat) (p:Ca),j+m=n→m<fuel →
  E8 N K s (n:Int) fuel (j:Int) w (Cd c p k i)=K w (Cd c (nd p ((((c.outs.l.map (·.name)).take n).drop j).all fun x=>!(x==s)) (k,i,0) ⟨10,by decide⟩) k i)
 | 0,j,fuel+1,p,b,_=>by
  rw[E8];unfold J7
  rw[G3 (by omega),cf,Bn (by simp;omega),Al3,E4]
 | m+1,j,fuel+1,p,b,y=>by
  rw[E8];unfold J7
  have h:j<c.outs.l.length:=by omega
  have q:j<((c.outs.l.map (·.name)).take n).length:=by simp;omega
  rw[F7 (by omega),ct,In,OR h,An (by decide),Bf (by omega),IB hn hs m (j+1) fuel _ (by omega) (by omega),Bb q,Ale,Mx]
  have e:((c.outs.l.map (·.name)).take n)[j]=c.outs.l[j].name:=by simp
  rw[e]
  rcases p with _ | ⟨x,u,v⟩
  ·simp[A8]
  ·have:(u != 0)=true:=by simpa using v
   simp[A8,this,nd]
theorem IC {N:Nat} {c:CaseD} {p:Ca} {k:Int} {n:Nat} {s:Lu} {w:Bool} {K:Bool→LA→O R} (hN:64≤N) (hn:n≤c.outs.l.length) (hs:D8 n N) :
  Tg N s w (Cd c p k (n:Int)) K=K w (Cd c (H6 ((c.outs.l.map (·.name)).take n) k n s p) k n):=by
 rw[HC];unfold Vf
 rw[Mt hN,An (by decide)]
 unfold H6
 cases u:nd p (Jv s) (k,(n:Int),0) ⟨9,by decide⟩ with
 | none =>
  rw[aZ]
  have:=IB (R:=R) (N:=N) (c:=c) (k:=k) (i:=n) (s:=s) (w:=w) (K:=K) hn hs.2 n 0 N none (by omega) hs.1
  simpa using this
 | some x =>
  obtain⟨⟨a,b,f⟩,e,j⟩:=x
  have q:∀ g:Int→O R,Ao .i64 (drop 9 (Cd c (some ((a,b,f),⟨e,j⟩)) k n)) g=g b:=by intro g;simp[Cd,CaseD.av,CN,Aw]
  rw[q,FV]
  rcases N with _ | N
  ·omega
  ·dsimp only
   rw[E8];unfold J7
   rw[In]
   have:(e != 0)=true:=by simpa using j
   cases decide (0<b)<;>simp[A8,this]
theorem nX {N:Nat} {c:CaseD} {p:Ca} {k i:Int} {w:Bool} {K:Bool→LA→O R} (hs:Small c N):BM N w (Cd c p k i) K=K w (Cd c (LV c p) 0 0):=by
 rw[UK];unfold MY Yg
 simp only[Jx,XH,D1,xE,L5 rfl hs.res,XI,XJ,XK,a6,rV,gM,An (show(8:Int)≠0 by decide)]
 unfold LV
 cases h:decide ((c.buses.l.length:Int)≥1) with
 | true=>simp only[beq_self_eq_true,cond_true];simp only[D2];simp at h;simp[show(1:Int)≤(c.buses.l.length:Int) by omega]
 | false=>simp only[D2];simp at h;simp[show ¬ ((1:Int)≤(c.buses.l.length:Int)) by simp;omega]
theorem QJ {N:Nat} {c:CaseD} {w w0:Bool} (hs:Small c N):∀ (m j fuel:Nat) (p:Ca) (k i:Int),j+m=c.buses.l.length→m<fuel →
  ∃ q s:Int,∀ K:Bool→LA→O R,Lb N K (c.buses.l.flatMap BusD.av) c.buses.l.length w0 fuel (c.buses.l.length:Int) (j:Int) w (Cd c p k i)=K w (Cd c (A6 (nU c) (c.buses.l.drop j) j p) q s)
 | 0,j,fuel+1,p,k,i,v,_=>by
  refine⟨k,i,fun K=>?_⟩
  rw[Lb];unfold U7
  rw[G3 (by omega),cf,Bn (by omega),A6]
 | m+1,j,fuel+1,p,k,i,v,F=>by
  have h:j<c.buses.l.length:=by omega
  have hN:=hs.n64
  have e:=hs.bus
  obtain⟨q,s,y⟩:=QJ (w:=w) (w0:=w0) hs m (j+1) fuel (nU c j c.buses.l[j] p) 1 j (by omega) (by omega)
  refine⟨q,s,fun K=>?_⟩
  rw[Lb];unfold U7 
  rw[F7 h,ct,Ac h,ct,Aku,Ar Lz _ _ h,Bb h,A6,←y K]
  have z:c.buses.l[j] ∈ c.buses.l:=Ak3 h
  have A:=hs.dem _ z
  have u:=@rW R N c
  generalize c.buses.l[j]=b at *
  have C:ble 3 (List.length (b.av++List.flatMap BusD.av (drop (j+1) c.buses.l)))=true:=by rw[Bv,Akx,Lz];simp
  have D:take 3 (b.av++List.flatMap BusD.av (drop (j+1) c.buses.l))=b.av:=Ald (Lz b)
  rw[C,ct,D,Lz]
  simp only[BusD.av,Alc,Ak7,Dh,Aw,Cy,C6,Xy,decide_true,Alm,cond_true,Jx,Bf (show j<4611686018427387904 by have:=e.2;omega)]
  simp only[u hN (show j≤_ by omega) ⟨by have:=e.1;omega,by have:=e.2;omega⟩,L5 rfl A,D1]
  rfl
theorem nY {N:Nat} {c:CaseD} {p:Ca} {k i:Int} {w:Bool} (hs:Small c N):∃ b e:Int,∀ K:Bool→LA→O R,BO N w (Cd c p k i) K=K w (Cd c (A6 (nU c) c.buses.l 0 p) b e):=by
 obtain⟨b,e,h⟩:=QJ (R:=R) (w:=w) (w0:=w) hs c.buses.l.length 0 N p k i (by omega) hs.bus.1
 refine⟨b,e,fun K=>?_⟩
 rw[UN];unfold MZ
 rw[XI]
 simpa using h K
theorem QK {N:Nat} {c:CaseD} {w w0:Bool} {h0:LA} (hs:Small c N):∀ (m j fuel:Nat) (p:Ca) (k i:Int),j+m=c.lines.l.length→m<fuel →
  ∃ q s:Int,∀ K:Bool→LA→O R,Ir N K (c.lines.l.flatMap LineD.av) c.lines.l.length w0 h0 fuel (c.lines.l.length:Int) (j:Int) w (Cd c p k i)=K w (Cd c (A6 (CQ c) (c.lines.l.drop j) j p) q s)
 | 0,j,fuel+1,p,k,i,v,_=>by
  refine⟨k,i,fun K=>?_⟩
  rw[Ir];unfold U9
  rw[G3 (by omega),cf,Bn (by omega),A6]
 | m+1,j,fuel+1,p,k,i,v,F=>by
  have h:j<c.lines.l.length:=by omega
  have hN:=hs.n64
  have e:=hs.lin
  obtain⟨q,s,y⟩:=QK (w:=w) (w0:=w0) (h0:=h0) hs m (j+1) fuel (CQ c j c.lines.l[j] p) 2 j (by omega) (by omega)
  refine⟨q,s,fun K=>?_⟩
  rw[Ir];unfold U9 Yl EM KD EL KC
  rw[F7 h,ct,Ac h,ct,Aku,Ar B7 _ _ h,Bb h,A6,←y K]
  have z:c.lines.l[j] ∈ c.lines.l:=Ak3 h
  have A:=hs.law _ z
  have u:=@ft R N c
  generalize c.lines.l[j]=b at *
  have C:ble 12 (List.length (b.av++List.flatMap LineD.av (drop (j+1) c.lines.l)))=true:=by rw[Bv,Akx,B7];simp
  have D:take 12 (b.av++List.flatMap LineD.av (drop (j+1) c.lines.l))=b.av:=Ald (B7 b)
  rw[C,ct,D,B7]
  simp only[LineD.av,Alc,Ak7,Amv,Aly,Ak8,Alz,Dh,Aw,Cy,C6,Bv,Xy,Ax,Nat.reduceAdd,Nat.reduceLeDiff,decide_true,Alm,Ama,cond_true,Akz,Jx,Bf (show j<4611686018427387904 by have:=e.2;omega)]
  simp only[u hN (show j≤_ by omega) ⟨by have:=e.1;omega,by have:=e.2;omega⟩,Zp,D1,XM rfl A,QI,An (show(1:Int)≠0 by decide),An (show(3:Int)≠0 by decide)]
  unfold CQ;cases G4 b.re<;>cases G4 b.smin<;>cases G4 b.smax<;>rfl
theorem nZ {N:Nat} {c:CaseD} {p:Ca} {k i:Int} {w:Bool} (hs:Small c N):∃ b e:Int,∀ K:Bool→LA→O R,BR N w (Cd c p k i) K=K w (Cd c (A6 (CQ c) c.lines.l 0 p) b e):=by
 obtain⟨b,e,h⟩:=QK (R:=R) (w:=w) (w0:=w) (h0:=Cd c p k i) hs c.lines.l.length 0 N p k i (by omega) hs.lin.1
 refine⟨b,e,fun K=>?_⟩
 rw[US];unfold M'
 rw[XJ]
 simpa using h K
theorem MB {N:Nat} {c:CaseD} {w w0:Bool} (hs:Small c N):∀ (m j fuel:Nat) (p:Ca) (k i:Int),j+m=c.stores.l.length→m<fuel →
  ∃ q s:Int,∀ K:Bool→LA→O R,I5 N K (c.stores.l.flatMap StoreD.av) c.stores.l.length w0 fuel (c.stores.l.length:Int) (j:Int) w (Cd c p k i)=K w (Cd c (A6 (Ud c) (c.stores.l.drop j) j p) q s)
 | 0,j,fuel+1,p,k,i,v,_=>by
  refine⟨k,i,fun K=>?_⟩
  rw[I5];unfold Se
  rw[G3 (by omega),cf,Bn (by omega),A6]
 | m+1,j,fuel+1,p,k,i,v,C=>by
  have h:j<c.stores.l.length:=by omega
  have hN:=hs.n64
  have e:=hs.sto
  obtain⟨q,s,y⟩:=MB (w:=w) (w0:=w0) hs m (j+1) fuel (Ud c j c.stores.l[j] p) 4 j (by omega) (by omega)
  refine⟨q,s,fun K=>?_⟩
  rw[I5];unfold Se 
  rw[F7 h,ct,Ac h,ct,Aku,Ar Er _ _ h,Bb h,A6,←y K]
  have D:c.stores.l[j] ∈ c.stores.l:=Ak3 h
  skip
  have u:=@fw R N c
  generalize c.stores.l[j]=b at *
  have z:ble 9 (List.length (b.av++List.flatMap StoreD.av (drop (j+1) c.stores.l)))=true:=by rw[Bv,Akx,Er];simp
  have A:take 9 (b.av++List.flatMap StoreD.av (drop (j+1) c.stores.l))=b.av:=Ald (Er b)
  rw[z,ct,A,Er]
  simp only[StoreD.av,setCells,Dd,Al1,Alf,Ani,Alc,Ak7,Amv,Aly,Ak8,Alz,Dh,Aw,Bv,Xy,Ax,Nat.reduceAdd,decide_true,Alm,Ama,Alq,cond_true,Akz,Akw,Jx,Bf (show j<4611686018427387904 by have:=e.2;omega)]
  simp only[u hN (show j≤_ by omega) ⟨by have:=e.1;omega,by have:=e.2;omega⟩,Zp,D1,QI,An (show(3:Int)≠0 by decide)]
  unfold Ud;cases G4 b.eff<;>cases decide (b.eff.num>0)<;>rfl
theorem lE {N:Nat} {c:CaseD} {p:Ca} {k i:Int} {w:Bool} (hs:Small c N):∃ b e:Int,∀ K:Bool→LA→O R,Wa N w (Cd c p k i) K=K w (Cd c (A6 (Ud c) c.stores.l 0 p) b e):=by
 obtain⟨b,e,h⟩:=MB (R:=R) (w:=w) (w0:=w) hs c.stores.l.length 0 N p k i (by omega) hs.sto.1
 refine⟨b,e,fun K=>?_⟩
 rw[PO];unfold EP
 rw[a6]
 simpa using h K
theorem XS {N:Nat} {c:CaseD} {w w0:Bool} (hs:Small c N):∀ (m j fuel:Nat) (p:Ca) (k i:Int),j+m=c.ties.l.length→m<fuel →
  ∃ q s:Int,∀ K:Bool→LA→O R,Oa N K (c.ties.l.flatMap TieD.av) c.ties.l.length w0 fuel (c.ties.l.length:Int) (j:Int) w (Cd c p k i)=K w (Cd c (A6 (nV c) (c.ties.l.drop j) j p) q s)
 | 0,j,fuel+1,p,k,i,A,_=>by
  refine⟨k,i,fun K=>?_⟩
  rw[Oa];unfold Ys
  rw[G3 (by omega),cf,Bn (by omega),A6]
 | m+1,j,fuel+1,p,k,i,A,I=>by
  have h:j<c.ties.l.length:=by omega
  have hN:=hs.n64
  have e:=hs.tie
  obtain⟨q,s,C⟩:=XS (w:=w) (w0:=w0) hs m (j+1) fuel (nV c j c.ties.l[j] p) 5 j (by omega) (by omega)
  refine⟨q,s,fun K=>?_⟩
  rw[Oa];unfold Ys 
  rw[F7 h,ct,Ac h,ct,Aku,Ar Im _ _ h,Bb h,A6,←C K]
  have u:c.ties.l[j] ∈ c.ties.l:=Ak3 h
  have D:=hs.tim _ u;have v:=hs.tex _ u;have y:=hs.tpr _ u
  have z:=@fy R N c
  generalize c.ties.l[j]=b at *
  have F:ble 5 (List.length (b.av++List.flatMap TieD.av (drop (j+1) c.ties.l)))=true:=by rw[Bv,Akx,Im];simp
  have G:take 5 (b.av++List.flatMap TieD.av (drop (j+1) c.ties.l))=b.av:=Ald (Im b)
  rw[F,ct,G,Im]
  simp only[TieD.av,Alc,Ak7,Dh,Aw,Cy,C6,Xy,decide_true,Alm,cond_true,Jx,Bf (show j<4611686018427387904 by have:=e.2;omega)]
  simp only[z hN (show j≤_ by omega) ⟨by have:=e.1;omega,by have:=e.2;omega⟩,Zp,L5 rfl D,L5 rfl v,L5 rfl y]
  rfl
theorem rX {N:Nat} {c:CaseD} {p:Ca} {k i:Int} {w:Bool} (hs:Small c N):∃ b e:Int,∀ K:Bool→LA→O R,NB N w (Cd c p k i) K=K w (Cd c (A6 (nV c) c.ties.l 0 p) b e):=by
 obtain⟨b,e,h⟩:=XS (R:=R) (w:=w) (w0:=w) hs c.ties.l.length 0 N p k i (by omega) hs.tie.1
 refine⟨b,e,fun K=>?_⟩
 rw[dI];unfold U_
 rw[rV]
 simpa using h K
theorem XT {N:Nat} {c:CaseD} {k i s:Int} {u:UnitD} {o w:Bool} {K:Bool→LA→O R} (hs:u.segs.l.length<4611686018427387904):∀ (m j fuel:Nat) (p:Ca),j+1+m=u.segs.l.length→m<fuel →
  Ge N K s o u.av fuel ((j+1:Nat):Int) w (Cd c p k i)=K w (Cd c (nd (nd p (LW (u.segs.l.drop j)) (k,i,4) zP) (s==wrap .i64 (u.max - u.min)) (k,i,4) e4) k i)
 | 0,j,fuel+1,p,b,_=>by
  rw[Ge];unfold J4
  rw[AI,G3 (by omega),cf,Bb (l:=u.segs.l) (j:=j) (by omega),Bn (l:=u.segs.l) (j:=j+1) (by omega),XB,E4,xz,yA,An (by decide)]
 | m+1,j,fuel+1,p,b,e=>by
  rw[Ge];unfold J4
  have h:j+1<u.segs.l.length:=by omega
  have h':j<u.segs.l.length:=by omega
  simp only[AI]
  rw[F7 h,ct,Ac h,ct,NS h,LT (by omega),Ac h',ct,NS h',Bf (by omega),An (by decide),XT hs m (j+1) fuel _ (by omega) (by omega),Bb h',Bb h,Xo,Mx]
theorem XU {N:Nat} {c:CaseD} {k i:Int} {u:UnitD} {o w:Bool} {K:Bool→LA→O R} (hs:D8 u.segs.l.length N):∀ (m j fuel:Nat) (p:Ca) (a:Int),j+m=u.segs.l.length→m<fuel →
  Gf N K (u.segs.l.flatMap SegD.av) u.segs.l.length o u.av fuel a (u.segs.l.length:Int) (j:Int) w (Cd c p k i) =
   K w (Cd c (nd (nd (nd p ((u.segs.l.drop j).all dw) (k,i,4) e3) (LW u.segs.l) (k,i,4) zP) (II a (u.segs.l.drop j)==wrap .i64 (u.max - u.min)) (k,i,4) e4) k i)
 | 0,j,fuel+1,p,a,q,_=>by
  rw[Gf];unfold Nv
  rw[G3 (by omega),cf,Bn (by omega),Al3,E4,II]
  rcases e:u.segs.l with _ | ⟨b,r⟩
  ·rw[ki,E4]
   have hN:=hs.1
   rcases N with _ | N
   ·omega
   ·dsimp only
    rw[Ge];unfold J4
    rw[AI,e]
    simp only[Alz,Alw]
    rw[show decide ((1:Int)<0)=false by decide,cf,xz,yA,An (by decide)]
  ·have:=XT (R:=R) (N:=N) (c:=c) (k:=k) (i:=i) (s:=a) (u:=u) (o:=o) (w:=w) (K:=K) hs.2 r.length 0 N p (by rw[e];simp;omega) (by have:=hs.1;rw[e] at this;simp at this;omega)
   rw[e] at this
   simpa using this
 | m+1,j,fuel+1,p,a,q,A=>by
  rw[Gf];unfold Nv
  have h:j<u.segs.l.length:=by omega
  have v:=hs.2
  rw[F7 h,ct,Ac h,ct,Aku,Ar L0 _ _ h,Bb h,Ale,II,Bf (by omega)]
  have y:ble 2 (List.length (u.segs.l[j].av++List.flatMap SegD.av (drop (j+1) u.segs.l)))=true:=by rw[Bv,Akx,L0];simp
  have z:take 2 (u.segs.l[j].av++List.flatMap SegD.av (drop (j+1) u.segs.l))=u.segs.l[j].av:=Ald (L0 _)
  rw[y,ct,z,L0]
  simp only[SegD.av,setCells,Dd,Al1,Alf,Ani,Alc,Ak7,Aly,Ak8,Alz,Aw,Bv,Xy,Ax,Nat.reduceAdd,decide_true,Alm,Ama,Alq,cond_true,Akz,Akw,D1,XU hs m (j+1) fuel _ _ (show j+1+m=_ by omega) (show m<fuel by omega)]
  rw[Mx,Mx,←Bool.and_assoc];rfl
theorem a8 {N:Nat} {c:CaseD} {p:Ca} {j:Nat} {u:UnitD} {o w:Bool} {K:Bool→LA→O R} (hs:D8 u.segs.l.length N) :
  Om N u.av o w (Cd c p 3 j) K=K w (Cd c (rQ u j p) 3 j):=by
 rw[GZ];unfold Vb
 simp only[AI,An (show(8:Int)≠0 by decide),In]
 have:=XU (R:=R) (N:=N) (c:=c) (k:=3) (i:=j) (u:=u) (o:=o) (w:=w) (K:=K) hs u.segs.l.length 0 N (nd p (decide ((u.segs.l.length:Int)≤8)) (3,j,4) e8) 0 (by omega) hs.1
 simp only[Ak7,Alw] at this
 rw[this]
 unfold rQ
 cases b:nd p (decide ((u.segs.l.length:Int)≤8)) (3,(j:Int),4) e8 with
 | none=>simp[A8]
 | some x =>
  have:(x.2.1 != 0)=true:=by simpa using x.2.2
  simp[A8,this,nd]
theorem eX {N:Nat} {c:CaseD} {k i:Int} {l:List MoveD} {o w:Bool} {K:Bool→LA→O R} (hs:l.length<4611686018427387904):∀ (m j fuel:Nat) (p:Ca),j+m=l.length→m<fuel →
  Oo N K (l.flatMap MoveD.av) l.length o fuel (l.length:Int) (j:Int) w (Cd c p k i)=K w (Cd c (nd p ((l.drop j).all nW) (k,i,3) e3) k i)
 | 0,j,fuel+1,p,b,_=>by
  rw[Oo];unfold Vg
  rw[G3 (by omega),cf,Bn (by omega),Al3,E4]
 | m+1,j,fuel+1,p,b,s=>by
  rw[Oo];unfold Vg
  have h:j<l.length:=by omega
  rw[F7 h,ct,Ac h,ct,Aku,Ar Dj _ _ h,Bb h,Ale,Bf (by omega)]
  have e:ble 3 (List.length (l[j].av++List.flatMap MoveD.av (drop (j+1) l)))=true:=by rw[Bv,Akx,Dj];simp
  have q:take 3 (l[j].av++List.flatMap MoveD.av (drop (j+1) l))=l[j].av:=Ald (Dj _)
  rw[e,ct,q,Dj]
  simp only[MoveD.av,setCells,Dd,Al1,Alf,Ani,Alc,Ak7,Aly,Ak8,Alz,Aw,Bv,Xy,Ax,Nat.reduceAdd,decide_true,Alm,Ama,Alq,cond_true,Akz,Akw,D1,eX hs m (j+1) fuel _ (show j+1+m=_ by omega) (show m<fuel by omega)]
  rw[Mx,Mx,←Bool.and_assoc];rfl
theorem eY {N:Nat} {c:CaseD} {k i:Int} {u:OutD} {o w:Bool} {K:Bool→LA→O R} (hs:D8 u.moves.l.length N) (q:u.moves.l.length≤16):∀ (m j fuel:Nat) (p:Ca),j+m=u.moves.l.length→m<fuel →
  Le N K (u.moves.l.flatMap MoveD.av) u.moves.l.length o u.av fuel j (u.moves.l.length:Int) (j:Int) w (Cd c p k i) (Ah ((u.moves.l.take j).map (·.unit))) =
   K w (Cd c (nd (nd (nd p ((u.moves.l.drop j).all (uF c)) (k,i,3) uq) (CP (u.moves.l.map (·.unit))) (k,i,3) zP) (u.moves.l.all nW) (k,i,3) e3) k i)
 | 0,j,fuel+1,p,s,_=>by
  rw[Le];unfold Vh
  have v:j=u.moves.l.length:=by omega
  rw[G3 (by omega),cf,Bn (l:=u.moves.l) (j:=j) (by omega),Al3,E4,Ak6,Akt (by simp[Cz];omega),Akt (show u.moves.l.length≤j by omega)]
  rw[Qe (by simp;omega) (by simpa using hs),An (by decide),gK]
  have:=eX (R:=R) (N:=N) (c:=c) (k:=k) (i:=i) (l:=u.moves.l) (o:=o) (w:=w) (K:=K) hs.2 u.moves.l.length 0 N (nd p (CP (u.moves.l.map (·.unit))) (k,i,3) zP) (by omega) hs.1
  simpa using this
 | m+1,j,fuel+1,p,s,D=>by
  rw[Le];unfold Vh
  have h:j<u.moves.l.length:=by omega
  have y:=hs.2
  have z:ble 3 (List.length (u.moves.l[j].av++List.flatMap MoveD.av (drop (j+1) u.moves.l)))=true:=by rw[Bv,Akx,Dj];simp
  have A:take 3 (u.moves.l[j].av++List.flatMap MoveD.av (drop (j+1) u.moves.l))=u.moves.l[j].av:=Ald (Dj _)
  have F:(ble (j+1) 140737488355328&&ble ((j+1)*8) 140737488355328)=true:=by rw[Bv,Bv];simp;omega
  have C:take (j*1) (Ah ((u.moves.l.take j).map (·.unit)))++[.int .i64 u.moves.l[j].unit]=Ah ((u.moves.l.take (j+1)).map (·.unit)):=by
   rw[Akt (by simp[Cz];omega),Ala h,Al6,←Zl];rfl
  rw[F7 h,ct,Ac h,ct,Aku,Ar Dj _ _ h,Bb h,Ale,Bf (by omega),z,ct,A,Dj]
  simp only[MoveD.av,setCells,Dd,Al1,Alf,Ani,Alc,Aly,Ak8,Alz,Aw,Bv,Xy,Ax,Nat.reduceAdd,Nat.reduceLeDiff,decide_true,Alm,Ama,Alq,cond_true,Akz,Akw,XK,An (show(12:Int)≠0 by decide),C,eY hs q m (j+1) fuel _ (show j+1+m=_ by omega) (show m<fuel by omega)]
  rw[Mx,Mx]
  unfold uF
  generalize (drop (j+1) u.moves.l).all _=r
  have b:(decide (j≤140737488355327)&&decide ((j+1)*8≤140737488355328))=true:=by simp;omega
  by_cases e:0≤u.moves.l[j].unit
  ·have e1:decide (u.moves.l[j].unit≥0)=true:=by simpa using e
   rw[e1,b];rfl
  ·have e1:decide (u.moves.l[j].unit≥0)=false:=by simpa using e
   rw[e1,b];rfl
theorem n6 {N:Nat} {c:CaseD} {p:Ca} {j:Nat} {u:OutD} {o w:Bool} {K:Bool→LA→O R} (hs:D8 u.moves.l.length N) :
  KK N u.av o w (Cd c p 6 j) K=K w (Cd c (RW c u j p) 6 j):=by
 rw[VB];unfold NC Yt ER
 simp only[gK,Abx,An (show(16:Int)≠0 by decide),An (show(8:Int)≠0 by decide),In]
 have key:∀ b:Ca,(cond (A8 (nd b (decide ((u.moves.l.length:Int)≤16)) (6,(j:Int),3) e8) != 0) (K w (Cd c (nd b (decide ((u.moves.l.length:Int)≤16)) (6,(j:Int),3) e8) 6 j))
   (Le N K (u.moves.l.flatMap MoveD.av) u.moves.l.length o u.av N 0 (u.moves.l.length:Int) 0 w (Cd c (nd b (decide ((u.moves.l.length:Int)≤16)) (6,(j:Int),3) e8) 6 j) [])) =
   K w (Cd c (nd (nd (nd (nd b (decide ((u.moves.l.length:Int)≤16)) (6,(j:Int),3) e8) (u.moves.l.all (uF c)) (6,j,3) uq) (CP (u.moves.l.map (·.unit))) (6,j,3) zP) (u.moves.l.all nW) (6,j,3) e3) 6 j):=by
  intro b
  cases e:nd b (decide ((u.moves.l.length:Int)≤16)) (6,(j:Int),3) e8 with
  | none =>
   have q:u.moves.l.length≤16:=by
    rcases b with _ | x
    ·by_cases q:u.moves.l.length≤16
     ·exact q
     ·have:decide ((u.moves.l.length:Int)≤16)=false:=by simp;omega
      rw[this] at e;simp[nd] at e
    ·simp[nd] at e
   have:=eY (R:=R) (N:=N) (c:=c) (k:=6) (i:=j) (u:=u) (o:=o) (w:=w) (K:=K) hs q u.moves.l.length 0 N none (by omega) hs.1
   simp only[Aly,Anh,Ak7,Alw,Ah] at this
   simp only[A8,bne_self_eq_false,cond_false]
   exact this
  | some x =>
   have:(x.2.1 != 0)=true:=by simpa using x.2.2
   simp[A8,this,nd]
 unfold RW
 cases s:((u.moves.l.length:Int)==0) with
 | true=>simp only[Amo,cond_false,show(true==false)=false from rfl];exact key _
 | false=>simp only[beq_self_eq_true,Am1,cond_true,cond_false];exact key _
theorem QL {N:Nat} {c:CaseD} {w w0:Bool} {h0:LA} (hs:Small c N):∀ (m j fuel:Nat) (p:Ca) (k i:Int),j+m=c.units.l.length→m<fuel →
  ∃ q s:Int,∀ K:Bool→LA→O R,Is N K (c.units.l.flatMap UnitD.av) c.units.l.length w0 h0 fuel (c.units.l.length:Int) (j:Int) w (Cd c p k i)=K w (Cd c (A6 (HW c) (c.units.l.drop j) j p) q s)
 | 0,j,fuel+1,p,k,i,C,_=>by
  refine⟨k,i,fun K=>?_⟩
  rw[Is];unfold Vc
  rw[G3 (by omega),cf,Bn (by omega),A6]
 | m+1,j,fuel+1,p,k,i,C,L=>by
  have h:j<c.units.l.length:=by omega
  have hN:=hs.n64
  have e:=hs.uni
  obtain⟨q,s,D⟩:=QL (w:=w) (w0:=w0) (h0:=h0) hs m (j+1) fuel (HW c j c.units.l[j] p) 3 j (by omega) (by omega)
  refine⟨q,s,fun K=>?_⟩
  rw[Is];unfold Vc Yo EO KJ EN KI
  rw[F7 h,ct,Ac h,ct,Aku,Ar Ff _ _ h,Bb h,A6,←D K]
  have z:c.units.l[j] ∈ c.units.l:=Ak3 h
  have F:=hs.seg _ z;have u:=hs.uaw _ z
  have v:=@fu R N c
  generalize c.units.l[j]=b at *
  have G:ble 22 (List.length (b.av++List.flatMap UnitD.av (drop (j+1) c.units.l)))=true:=by rw[Bv,Akx,Ff];simp
  have I:take 22 (b.av++List.flatMap UnitD.av (drop (j+1) c.units.l))=b.av:=Ald (Ff b)
  rw[G,ct,I,Ff]
  have y:∀ (p:Ca) (K:Bool→LA→O R),Om N [.str b.name,.int .i64 b.bus,.int .i64 b.min,.int .i64 b.max,b.segs.av 2 SegD.av,.int .i64 b.noLoad,.int .i64 b.rampUp,.int .i64 b.rampDown,.int .i64 b.startRamp,.int .i64 b.stopRamp,.int .i64 b.upTime,.int .i64 b.downTime,.int .i64 b.startTime,.int .i64 b.hotCost,.int .i64 b.coldCost,.int .i64 b.hotHours,.int .i64 b.reserve,.int .i64 b.reservePrice,b.away.av 1 V3,.int .i64 b.state,.int .i64 b.hours,.int .i64 b.output] w0 w (Cd c p 3 j) K=K w (Cd c (rQ b j p) 3 j):=fun p K=>a8 F
  simp only[UnitD.av,Alc,Ak7,Amv,Aly,Dh,Aw,Cy,C6,Bv,Xy,decide_true,Alm,cond_true,cond_false,Akw,Jx,Bf (show j<4611686018427387904 by have:=e.2;omega)]
  simp only[v hN (show j≤_ by omega) ⟨by have:=e.1;omega,by have:=e.2;omega⟩,Zp,D1,y,XM rfl u,An (show(12:Int)≠0 by decide),An (show(16:Int)≠0 by decide),An (show(3:Int)≠0 by decide)]
  unfold HW
  unfold D2
  by_cases A:b.state=0
  ·simp[A]
  ·by_cases s1:b.state=1
   ·simp[s1]
   ·by_cases s2:b.state=2
    ·simp[s2]
    ·have a0:(b.state==0)=false:=by simpa using A
     have a1:(b.state==1)=false:=by simpa using s1
     have a2:(b.state==2)=false:=by simpa using s2
     have a3:(decide (0≤b.state)&&decide (b.state≤2))=false:=by simp;omega
     have a4:(b.state != 1)=true:=by simpa using s1
     simp[a0,a1,a2,a3,a4]
theorem n7 {N:Nat} {c:CaseD} {p:Ca} {k i:Int} {w:Bool} (hs:Small c N):∃ b e:Int,∀ K:Bool→LA→O R,BT N w (Cd c p k i) K=K w (Cd c (A6 (HW c) c.units.l 0 p) b e):=by
 obtain⟨b,e,h⟩:=QL (R:=R) (w:=w) (w0:=w) (h0:=Cd c p k i) hs c.units.l.length 0 N p k i (by omega) hs.uni.1
 refine⟨b,e,fun K=>?_⟩
 rw[UW];unfold NA
 rw[XK]
 simpa using h K
def Ahl (c:CaseD) (n:Int):Bool:=decide (0≤n)&&decide (n<(c.lines.l.length:Int))
theorem Afm {u:OutD}:take 4 u.av=u.av:=rfl
theorem GB {N:Nat} {c:CaseD} {j:Nat} {x:OutD} {w w0:Bool} {l1 h0:LA} {m2:Nat} {a i12:Int} {K0:Int→Int→Bool→LA→O R} {K:Bool→LA→O R} (hs:D8 x.lines.l.length N) (b:D8 x.moves.l.length N):∀ (m q fuel:Nat) (p:Ca),q+m=x.lines.l.length→m<fuel →
  Kf N K0 K l1 m2 w0 a (Ah x.lines.l) x.lines.l.length x.av h0 fuel i12 (x.lines.l.length:Int) (q:Int) w (Cd c p 6 j) =
   K0 a (wrap .i64 (i12+1)) w (Cd c (RW c x j (nd (nd p ((x.lines.l.drop q).all (Ahl c)) (6,j,1) uq) (CP x.lines.l) (6,j,1) zP)) 6 j)
 | 0,q,fuel+1,p,k,_=>by
  rw[Kf];unfold Pj
  rw[G3 (by omega),cf,Bn (l:=x.lines.l) (j:=q) (by omega),Al3,E4,XC,Qe rfl hs,An (by decide),Afm,n6 b];rfl
 | m+1,q,fuel+1,p,k,u=>by
  rw[Kf];unfold Pj
  have h:q<x.lines.l.length:=by omega
  have s:=hs.2
  rw[F7 h,ct,Ac h,ct,Qc h,XJ,An (by decide),An (by decide),Bf (by omega),GB hs b m (q+1) fuel _ (by omega) (by omega),GB hs b m (q+1) fuel _ (by omega) (by omega),Bb h,Ale,Mx,Mx]
  unfold Ahl
  generalize (drop (q+1) x.lines.l).all _=r
  by_cases e:0≤x.lines.l[q]
  ·have e1:decide (x.lines.l[q]≥0)=true:=by simpa using e
   rw[e1];rfl
  ·have e1:decide (x.lines.l[q]≥0)=false:=by simpa using e
   rw[e1];rfl
theorem ID {N:Nat} {c:CaseD} {w w0:Bool} {h0:LA} (hs:Small c N):∀ (m j fuel:Nat) (p:Ca) (k i:Int),j+m=c.outs.l.length→m<fuel →
  ∃ I L:Int,∀ K:Bool→LA→O R,Dn N K (c.outs.l.flatMap OutD.av) c.outs.l.length w0 h0 fuel (c.outs.l.length:Int) (j:Int) w (Cd c p k i)=K w (Cd c (A6 (RX c) (c.outs.l.drop j) j p) I L)
 | 0,j,fuel+1,p,k,i,M,_=>by
  refine⟨k,i,fun K=>?_⟩
  rw[Dn];unfold Lf
  rw[G3 (by omega),cf,Bn (by omega),A6]
 | m+1,j,fuel+1,p,k,i,M,V=>by
  have h:j<c.outs.l.length:=by omega
  have hN:=hs.n64
  have e:=hs.out
  have D:c.outs.l[j] ∈ c.outs.l:=Ak3 h
  have F:=hs.oli _ D
  have z:=hs.omo _ D
  obtain⟨S,i1,T⟩:=ID (w:=w) (w0:=w0) (h0:=h0) hs m (j+1) fuel (RX c j c.outs.l[j] p) 6 j (by omega) (by omega)
  cases q:nd (H6 ((c.outs.l.map (·.name)).take j) 6 j c.outs.l[j].name p) ((c.outs.l[j].lines.l.length:Int)==1||(c.outs.l[j].lines.l.length:Int)==2) (6,(j:Int),1) e4 with
  | none =>
   refine⟨S,i1,fun K=>?_⟩
   rw[Dn];unfold Lf Nf Pk
   rw[F7 h,ct,Ac h,ct,Aku,Ar Cb _ _ h,Bb h,A6,←T K]
   have u:=@IC R N c
   generalize c.outs.l[j]=b at *
   have A:ble 4 (List.length (b.av++List.flatMap OutD.av (drop (j+1) c.outs.l)))=true:=by rw[Bv,Akx,Cb];simp
   have C:take 4 (b.av++List.flatMap OutD.av (drop (j+1) c.outs.l))=b.av:=Ald (Cb b)
   rw[A,ct,C,Cb]
   have s:∀ f:Lu→O R,O' b.av f=f b.name:=fun f=>by simp[OutD.av,Dh]
   simp only[Xy,decide_true,Alm,Anb,cond_true,Jx,s,XC,u hN (show j≤_ by omega) ⟨by have:=e.1;omega,by have:=e.2;omega⟩,An (show(4:Int)≠0 by decide),In]
   have l2:=fun p=>GB (R:=R) (N:=N) (c:=c) (j:=j) (x:=b) (w:=w) (w0:=w0) (l1:=c.outs.l.flatMap OutD.av) (h0:=h0) (m2:=c.outs.l.length) (a:=c.outs.l.length) (i12:=j) (K0:=Dn N K (c.outs.l.flatMap OutD.av) c.outs.l.length w0 h0 fuel) (K:=K) F z b.lines.l.length 0 N p (by omega) F.1
   simp only[Ak7,Alw] at l2
   simp only[l2,Bf (show j<4611686018427387904 by have:=e.2;omega)]
   unfold RX
   cases v:((b.lines.l.length:Int)==1) with
   | true =>
    rw[v] at q
    simp only[Amo] at q
    simp only[show(true==false)=false from rfl,cond_false,Amo,q,A8,bne_self_eq_false];rfl
   | false =>
    rw[v] at q
    simp only[Am1] at q
    simp only[beq_self_eq_true,cond_true,cond_false,Am1,q,A8,bne_self_eq_false];rfl
  | some y =>
   have G:(y.2.1 != 0)=true:=by simpa using y.2.2
   have U:RX c j c.outs.l[j] p=some y:=by unfold RX;simp only;rw[q];rfl
   refine⟨6,j,fun K=>?_⟩
   rw[Dn];unfold Lf Nf Pk
   rw[F7 h,ct,Ac h,ct,Aku,Ar Cb _ _ h,Bb h,A6,U,A4 (fun _ _=>Kg)]
   have u:=@IC R N c
   generalize c.outs.l[j]=b at *
   have A:ble 4 (List.length (b.av++List.flatMap OutD.av (drop (j+1) c.outs.l)))=true:=by rw[Bv,Akx,Cb];simp
   have C:take 4 (b.av++List.flatMap OutD.av (drop (j+1) c.outs.l))=b.av:=Ald (Cb b)
   rw[A,ct,C,Cb]
   have s:∀ f:Lu→O R,O' b.av f=f b.name:=fun f=>by simp[OutD.av,Dh]
   simp only[Xy,decide_true,Alm,Anb,cond_true,Jx,s,XC,u hN (show j≤_ by omega) ⟨by have:=e.1;omega,by have:=e.2;omega⟩,An (show(4:Int)≠0 by decide),In]
   cases v:((b.lines.l.length:Int)==1) with
   | true =>
    rw[v] at q
    simp only[Amo] at q
    simp only[show(true==false)=false from rfl,cond_false,q,A8,G,cond_true]
   | false =>
    rw[v] at q
    simp only[Am1] at q
    simp only[beq_self_eq_true,cond_true,cond_false,q,A8,G]
theorem gA {N:Nat} {c:CaseD} {p:Ca} {k i:Int} {w:Bool} (hs:Small c N):∃ b e:Int,∀ K:Bool→LA→O R,Ra N w (Cd c p k i) K=K w (Cd c (A6 (RX c) c.outs.l 0 p) b e):=by
 obtain⟨b,e,h⟩:=ID (R:=R) (w:=w) (w0:=w) (h0:=Cd c p k i) hs c.outs.l.length 0 N p k i (by omega) hs.out.1
 refine⟨b,e,fun K=>?_⟩
 rw[KM];unfold Yu
 rw[gM]
 simpa using h K
end
end Gx.Cf
namespace Gx.Cf
theorem Conn.add {es:List (Nat×Nat)} {u v a b:Nat} (h:Conn (es++[(u,v)]) a b):Conn es a b∨(Conn es a u∧Conn es v b)∨(Conn es a v∧Conn es u b):=by
 induction h with
 | refl=>exact .inl (.refl _)
 | fwd e _ k =>
  rename_i x y s _
  rcases Ak2.1 e with e | e
  ·rcases k with k | ⟨q,j⟩ | ⟨q,j⟩
   ·exact .inl (.fwd e k)
   ·exact .inr (.inl ⟨.fwd e q,j⟩)
   ·exact .inr (.inr ⟨.fwd e q,j⟩)
  ·simp at e;obtain⟨rfl,rfl⟩:=e
   rcases k with k | ⟨q,j⟩ | ⟨q,j⟩
   ·exact .inr (.inl ⟨.refl _,k⟩)
   ·exact .inr (.inl ⟨.refl _,j⟩)
   ·exact .inl j
 | bwd e _ k =>
  rename_i x y s _
  rcases Ak2.1 e with e | e
  ·rcases k with k | ⟨q,j⟩ | ⟨q,j⟩
   ·exact .inl (.bwd e k)
   ·exact .inr (.inl ⟨.bwd e q,j⟩)
   ·exact .inr (.inr ⟨.bwd e q,j⟩)
  ·simp at e;obtain⟨rfl,rfl⟩:=e
   rcases k with k | ⟨q,j⟩ | ⟨q,j⟩
   ·exact .inr (.inr ⟨.refl _,k⟩)
   ·exact .inl j
   ·exact .inr (.inr ⟨.refl _,j⟩)
theorem Conn.new {es:List (Nat×Nat)} {u v:Nat}:Conn (es++[(u,v)]) u v:=.fwd (Ak2.2 (.inr (by simp))) (.refl _)
theorem Conn.old {es:List (Nat×Nat)} {e:Nat×Nat} {a b:Nat} (h:Conn es a b):Conn (es++[e]) a b:=h.mono fun _ j=>Ak2.2 (.inl j)
theorem lF (es:List (Nat×Nat)):∀ u:Nat,∃ r,r≤u∧Conn es r u∧Nq es r:=by
 intro u
 induction u using Nat.strongRecOn with
 | ind u j =>
  by_cases h:Nq es u
  ·exact⟨u,Akw _,.refl _,h⟩
  ·unfold Nq at h
   have:∃ a,a<u∧Conn es a u:=by
    apply Classical.byContradiction
    intro hn
    exact h fun a b e=>hn ⟨a,b,e⟩
   obtain⟨a,b,e⟩:=this
   obtain⟨r,s,k,q⟩:=j a b
   exact⟨r,by omega,k.trans e,q⟩
theorem CZ {es:List (Nat×Nat)} {r a:Nat} (h:Nq es r) (b:Conn es a r):r≤a:=Amh fun e=>h a e b
theorem lG {p q:Nat→Bool} {m:Nat}:∀ {l:List Nat},l.Nodup→m ∈ l→p m=true→(∀ b ∈ l,q b=(p b&&decide (b≠m)))→(l.filter p).length=(l.filter q).length+1
 | [],_,s,_,_=>by simp at s
 | a::r,u,s,z,hq=>by
  rw[Alp] at u
  by_cases v:a=m
  ·subst v
   have e:(r.filter p)=(r.filter q):=Aoh fun b k=>by
    rw[hq b (Amc _ k)]
    have:b≠a:=fun e=>by subst e;exact u.1 k
    simp[this]
   have j:=hq a (by simp)
   simp at j
   simp[Amg,z,j,e]
  ·have y:m ∈ r:=by
    rcases Alb.1 s with h | h
    ·exact absurd h.symm v
    ·exact h
   have A:=lG (p:=p) (q:=q) u.2 y z (fun b k=>hq b (Amc _ k))
   have j:=hq a (by simp)
   simp[v] at j
   rw[Amg,Amg,j]
   cases p a<;>simp[A]
theorem xF {n:Nat} {es:List (Nat×Nat)} {u v:Nat} (h:Conn es u v):Gy n (es++[(u,v)])=Gy n es:=by
 unfold Gy
 congr 1
 apply Aoh
 intro b _
 have:Nq (es++[(u,v)]) b↔Nq es b:=by
  constructor
  ·intro e a j q;exact e a j q.old
  ·intro e a j q
   rcases q.add with k | ⟨k,s⟩ | ⟨k,s⟩
   ·exact e a j k
   ·exact e a j (k.trans (h.trans s))
   ·exact e a j (k.trans (h.symm.trans s))
 simp[this]
open Classical in
theorem xG {n:Nat} {es:List (Nat×Nat)} {u v:Nat} (hu:u<n) (hv:v<n) (h:¬ Conn es u v):Gy n es=Gy n (es++[(u,v)])+1:=by
 obtain⟨ru,u1,u2,u3⟩:=lF es u
 obtain⟨rv,v1,v2,v3⟩:=lF es v
 have hne:ru≠rv:=fun e=>by subst e;exact h (u2.symm.trans v2)
 unfold Gy
 refine lG (m:=max ru rv) List.nodup_range (by rw[List.mem_range];omega) ?_ ?_
 ·have:Nq es (max ru rv):=by rcases Nat.le_total ru rv with h1 | h1<;>simp[h1,Nat.max_eq_right,Nat.max_eq_left,u3,v3]
  simp[this]
 ·intro b _
  have:Nq (es++[(u,v)]) b↔Nq es b∧b≠max ru rv:=by
   constructor
   ·intro hm
    refine⟨fun a ha hc=>hm a ha hc.old,fun e=>?_⟩
    rcases Nat.lt_or_gt_of_ne hne with h1 | h1
    ·rw[Nat.max_eq_right (by omega)] at e;subst e
     exact hm ru h1 (u2.old.trans (Conn.new.trans v2.old.symm))
    ·rw[Nat.max_eq_left (by omega)] at e;subst e
     exact hm rv h1 (v2.old.trans (Conn.new.symm.trans u2.old.symm))
   ·rintro⟨hm,hne2⟩ a ha hc
    rcases hc.add with h1 | ⟨h1,h2⟩ | ⟨h1,h2⟩
    ·exact hm a ha h1
    ·
     have e1:b≤rv:=CZ hm (v2.trans h2)
     have e2:rv≤b:=CZ v3 (h2.symm.trans v2.symm)
     have e3:ru≤a:=CZ u3 (h1.trans u2.symm)
     omega
    ·have e1:b≤ru:=CZ hm (u2.trans h2)
     have e2:ru≤b:=CZ u3 (h2.symm.trans u2.symm)
     have e3:rv≤a:=CZ v3 (h1.trans v2.symm)
     omega
  have hd:decide (Nq (es++[(u,v)]) b)=decide (Nq es b∧b≠max ru rv):=by simp only[this]
  rw[hd]
  by_cases x:Nq es b<;>by_cases y:b=max ru rv<;>simp[x,y]
theorem zU (n:Nat):Gy n []=n:=by
 have h0:∀ a b,Conn [] a b→a=b:=by
  intro a b h
  induction h with
  | refl=>rfl
  | fwd e=>simp at e
  | bwd e=>simp at e
 unfold Gy
 rw[Anp.2]
 ·simp
 ·intro b _
  have:Nq [] b:=fun a k j=>by have:=h0 a b j;omega
  simp[this]
def XV (L:List Int) (tx fr:Int):List Int:=L.map fun x=>cond (x==tx) fr x
def Xt (st:List Int×Int) (e:Nat×Nat):List Int×Int :=
 cond (st.1.getD e.1 0==st.1.getD e.2 0) st (XV st.1 (st.1.getD e.2 0) (st.1.getD e.1 0),st.2 - 1)
theorem uO {f:Int→Int} {L:List Int} {a:Nat} (h:a<L.length):(L.map f).getD a 0=f (L.getD a 0):=by
 rw[Ak5,Ak5,Am3,Aky h];rfl
theorem zV {n:Nat} {es:List (Nat×Nat)} {st:List Int×Int} {e:Nat×Nat} (h:UfOk n es st) (D:e.1<n) (F:e.2<n):UfOk n (es++[e]) (Xt st e):=by
 obtain⟨u,v⟩:=e
 unfold Xt
 by_cases G:st.1.getD u 0=st.1.getD v 0
 ·have j:(st.1.getD u 0==st.1.getD v 0)=true:=by simpa using G
  simp only[j,cond_true]
  have k:=(h.iff u v D F).1 G
  refine⟨h.len,fun a b A C=>?_,by rw[xF k];exact h.cnt⟩
  rw[h.iff a b A C]
  constructor
  ·exact Conn.old
  ·intro s
   rcases s.add with j | ⟨j,q⟩ | ⟨j,q⟩
   ·exact j
   ·exact j.trans (k.trans q)
   ·exact j.trans (k.symm.trans q)
 ·have j:(st.1.getD u 0==st.1.getD v 0)=false:=by simpa using G
  simp only[j,cond_false]
  have k:¬ Conn es u v:=fun x=>G ((h.iff u v D F).2 x)
  refine⟨by simp[XV,h.len],fun a b A C=>?_,by
   have e:=xG (n:=n) (es:=es) (u:=u) (v:=v) D F k
   show st.2 - 1=_
   rw[h.cnt,e];omega⟩
  have I:a<st.1.length:=by rw[h.len];exact A
  have K:b<st.1.length:=by rw[h.len];exact C
  unfold XV
  rw[uO I,uO K]
  have iff':=h.iff a b A C
  have av:=h.iff a v A F
  have bv:=h.iff b v C F
  have au:=h.iff a u A D
  have bu:=h.iff b u C D
  by_cases x:st.1.getD a 0=st.1.getD v 0<;>by_cases y:st.1.getD b 0=st.1.getD v 0
  ·have L:Conn es a b:=iff'.1 (x.trans y.symm)
   have x':(st.1.getD a 0==st.1.getD v 0)=true:=by simpa using x
   have z:(st.1.getD b 0==st.1.getD v 0)=true:=by simpa using y
   simp only[x',z,cond_true,true_iff]
   exact L.old
  ·have x':(st.1.getD a 0==st.1.getD v 0)=true:=by simpa using x
   have z:(st.1.getD b 0==st.1.getD v 0)=false:=by simpa using y
   simp only[x',z,cond_true,cond_false]
   constructor
   ·intro e;exact((av.1 x).old.trans Conn.new.symm).trans (bu.1 e.symm).symm.old
   ·intro s
    rcases s.add with j | ⟨j,q⟩ | ⟨j,q⟩
    ·exact absurd (bv.2 (j.symm.trans (av.1 x))) y
    ·exact absurd (j.symm.trans (av.1 x)) k
    ·exact(bu.2 q.symm).symm
  ·have x':(st.1.getD a 0==st.1.getD v 0)=false:=by simpa using x
   have z:(st.1.getD b 0==st.1.getD v 0)=true:=by simpa using y
   simp only[x',z,cond_true,cond_false]
   constructor
   ·intro e;exact(au.1 e).old.trans (Conn.new.trans (bv.1 y).symm.old)
   ·intro s
    rcases s.add with j | ⟨j,q⟩ | ⟨j,q⟩
    ·exact absurd (av.2 (j.trans (bv.1 y))) x
    ·exact au.2 j
    ·exact absurd (q.trans (bv.1 y)) k
  ·have x':(st.1.getD a 0==st.1.getD v 0)=false:=by simpa using x
   have z:(st.1.getD b 0==st.1.getD v 0)=false:=by simpa using y
   simp only[x',z,cond_false]
   rw[iff']
   constructor
   ·exact Conn.old
   ·intro s
    rcases s.add with j | ⟨j,q⟩ | ⟨j,q⟩
    ·exact j
    ·exact absurd (bv.2 q.symm) y
    ·exact absurd (av.2 j) x
theorem Ado (n:Nat):UfOk n [] (D7 n,(n:Int)):=by
 refine⟨by simp[D7],fun a b k q=>?_,by rw[zU]⟩
 simp only[NT k,NT q]
 constructor
 ·intro e;have:a=b:=by omega
  subst this;exact .refl _
 ·intro h
  have h0:∀ a b,Conn [] a b→a=b:=by
   intro a b h
   induction h with
   | refl=>rfl
   | fwd j=>simp at j
   | bwd j=>simp at j
  rw[h0 a b h]
theorem yJ {n:Nat}:∀ (fs es:List (Nat×Nat)) (st:List Int×Int),UfOk n es st→(∀ e ∈ fs,e.1<n∧e.2<n)→UfOk n (es++fs) (fs.foldl Xt st)
 | [],es,st,h,_=>by simpa using h
 | e::r,es,st,h,b=>by
  rw[Amx]
  have:=yJ r (es++[e]) (Xt st e) (zV h (b e (by simp)).1 (b e (by simp)).2) (fun x j=>b x (Amc _ j))
  simpa using this
theorem uP {n:Nat} {es:List (Nat×Nat)} (b:∀ e ∈ es,e.1<n∧e.2<n):(es.foldl Xt (D7 n,(n:Int))).2=(Gy n es:Int):=by
 have:=(yJ es [] _ (Ado n) b).cnt
 simpa using this
end Gx.Cf
namespace Gx.Cf
open Go Go.Proofs
section
variable {R:Type}
theorem uQ {f:Int→Int} {L:List Int} {j:Nat} (h:j<L.length):((L.take j).map f++L.drop j).set j (f L[j])=(L.take (j+1)).map f++L.drop (j+1):=by
 have b:j - ((L.take j).map f).length=0:=by simp;omega
 rw[Anz _ _ (by simp;omega),b,Ala h,Al6,Bb h,Aoc,Ami];rfl
theorem uR {f:Int→Int} {L:List Int} {j:Nat} (h:j<L.length):((L.take j).map f++L.drop j).getD j 0=L[j]:=by
 have b:j - ((L.take j).map f).length=0:=by simp;omega
 rw[Ak5,Aoa (by simp;omega),b,Bb h];rfl
theorem oz {f:Int→Int} {L:List Int} {j:Nat} (h:j<L.length) (b:f L[j]=L[j]):(L.take j).map f++L.drop j=(L.take (j+1)).map f++L.drop (j+1):=by
 rw[Ala h,Al6,Bb h];simp[b]
theorem QM {N:Nat} {c:CaseD} {L:List Int} {x7 x11 i32 i33 cnt:Int} {ls:List Int} {t1 o1 o0:Bool} {K1:Int→Int→Int→LA→O R} {K:Int→O R} (hs:L.length<4611686018427387904):∀ (m j fuel:Nat),j+m=L.length→m<fuel →
  Oq N K1 K L.length x7 x11 (Ah ls) ls.length t1 o1 i32 i33 o0 c.av fuel cnt (L.length:Int) (j:Int) (Ah ((L.take j).map (fun x=>cond (x==x11) x7 x)++L.drop j))=K1 cnt i32 (wrap .i64 (i33+1)) (Ah (XV L x11 x7))
 | 0,j,fuel+1,s,_=>by
  rw[Oq];unfold Vl
  rw[G3 (by omega),cf,Bn (by omega),Alf,Akt (by omega)];rfl
 | m+1,j,fuel+1,s,b=>by
  rw[Oq];unfold Vl
  have h:j<L.length:=by omega
  have e:((L.take j).map (fun x=>cond (x==x11) x7 x)++L.drop j).length=L.length:=by simp;omega
  have k:=QM (N:=N) (c:=c) (L:=L) (x7:=x7) (x11:=x11) (i32:=i32) (i33:=i33) (cnt:=cnt) (ls:=ls) (t1:=t1) (o1:=o1) (o0:=o0) (K1:=K1) (K:=K) hs m (j+1) fuel (by omega) (by omega)
  rw[F7 h,ct,Ac h,ct,ku (by rw[e];simpa using h),Aku,uR h,ct,F_ (by rw[e];exact h),ct,Akz,Ak6,T3,Bf (by omega)]
  cases q:L[j]==x11 with
  | true =>
   have b:=uQ (f:=fun x=>cond (x==x11) x7 x) h
   simp only[q,cond_true] at b
   rw[b,ct,k]
  | false =>
   rw[cf,oz h (by simp[q]),k]
theorem AK {N:Nat} {c:CaseD} {ls:List Int} {t1 o1 o0:Bool} {K:Int→O R} (hN:8≤N) (k:D8 c.buses.l.length N) (v:ls.length≤1000000) (q:∀ l ∈ ls,∃ x,LnV c l x):∀ (m j fuel:Nat) (st:List Int×Int),j+m=ls.length→m<fuel→st.1.length=c.buses.l.length→(-1000000+(m:Int)≤st.2∧st.2≤1000000) →
  It N K c.buses.l.length (Ah ls) ls.length t1 o1 o0 c.av fuel st.2 (ls.length:Int) (j:Int) (Ah st.1)=K ((ls.drop j).map (D0 c) |>.foldl Xt st).2
 | 0,j,fuel+1,st,z,_,_,_=>by
  rw[It];unfold Vm
  rw[G3 (by omega),cf,Bn (l:=ls) (by omega)];rfl
 | m+1,j,fuel+1,st,z,A,b,C=>by
  rw[It];unfold Vm Yv ET
  have h:j<ls.length:=by omega
  obtain⟨x,e⟩:=q ls[j] (Ak3 h)
  have s:=AK (N:=N) (c:=c) (ls:=ls) (t1:=t1) (o1:=o1) (o0:=o0) (K:=K) hN k v q m (j+1) fuel st (by omega) (by omega) b (by omega)
  have u:=AK (N:=N) (c:=c) (ls:=ls) (t1:=t1) (o1:=o1) (o0:=o0) (K:=K) hN k v q m (j+1) fuel (XV st.1 (st.1.getD x.tl.toNat 0) (st.1.getD x.fr.toNat 0),st.2 - 1) (by omega) (by omega) (by simp[XV,b]) (by simp only;omega)
  rw[F7 h,ct,Ac h,ct,Qc h]
  simp only[Il,Abz e,Ab0 e]
  rw[O4 e.l0 e.lt,ct,O4 e.f0 e.f1,ct,ku (by rw[b];exact e.f1),ct,O4 e.t0 e.t1,ct,ku (by rw[b];exact e.t1),rU hN,Bf (by omega),Np (st.2 - 1) (by omega),Bb h]
  have y:=QM (R:=R) (N:=N) (c:=c) (L:=st.1) (x7:=st.1.getD x.fr.toNat 0) (x11:=st.1.getD x.tl.toNat 0) (i32:=(ls.length:Int)) (i33:=(j:Int)) (cnt:=st.2 - 1) (ls:=ls) (t1:=t1) (o1:=o1) (o0:=o0) (K1:=It N K c.buses.l.length (Ah ls) ls.length t1 o1 o0 c.av fuel) (K:=K) (by rw[b];exact k.2) st.1.length 0 N (by omega) (by rw[b];exact k.1)
  simp only[Aly,Anh,Al1,Ak7,Alw,b,Bf (show j<4611686018427387904 by omega)] at y
  rw[y]
  rw[Ak9,Amx,NU e,Xt]
  cases hq:st.1.getD x.fr.toNat 0==st.1.getD x.tl.toNat 0 with
  | true=>simp only[show(true==false)=false from rfl,cond_false,cond_true];exact s
  | false=>simp only[beq_self_eq_true,cond_false,cond_true];exact u
theorem QN {N:Nat} {c:CaseD} {ls:List Int} {t1 o1 o0:Bool} {K:Int→O R} (hN:8≤N) (b:D8 c.buses.l.length N) (s:c.buses.l.length≤1000000) (k:ls.length≤1000000) (hlN:ls.length<N) (q:∀ l ∈ ls,∃ x,LnV c l x) (L:List Int) (hL:L.length=c.buses.l.length):∀ (m j fuel:Nat),j+m=c.buses.l.length→m<fuel →
  Lh N K (Ah ls) ls.length t1 o1 c.buses.l.length o0 c.av fuel (c.buses.l.length:Int) (j:Int) (Ah ((D7 c.buses.l.length).take j++L.drop j))=K ((ls).map (D0 c) |>.foldl Xt (D7 c.buses.l.length,(c.buses.l.length:Int))).2
 | 0,j,fuel+1,u,_=>by
  rw[Lh];unfold Vn
  have:=AK (R:=R) (N:=N) (c:=c) (ls:=ls) (t1:=t1) (o1:=o1) (o0:=o0) (K:=K) hN b k q ls.length 0 N (D7 c.buses.l.length,(c.buses.l.length:Int)) (by omega) hlN (by simp[D7]) (by simp only;omega)
  rw[G3 (by omega),cf,Bn (by omega),Alf,Akt (by simp[D7];omega)]
  simpa using this
 | m+1,j,fuel+1,u,v=>by
  rw[Lh];unfold Vn
  have h:j<c.buses.l.length:=by omega
  have e:((D7 c.buses.l.length).take j++L.drop j).length=c.buses.l.length:=by simp[D7];omega
  rw[F7 h,ct,Ac h,ct,F_ (by rw[e];simpa using h),ct,Aku,Akz,Ak6,T3,RY hL h,Bf (by omega),QN hN b s k hlN q L hL m (j+1) fuel (by omega) (by omega)]
theorem SB {N:Nat} {c:CaseD} {ls:List Int} {n:Nat} {t1 o1 o0:Bool} {K:Int→O R} (hn:n=ls.length) (hN:8≤N) (b:D8 c.buses.l.length N) (u:c.buses.l.length≤1000000) (v:ls.length≤1000000) (hlN:ls.length<N) (q:∀ l ∈ ls,∃ x,LnV c l x) :
  KN N c.av o0 (Ah ls) n t1 o1 K=K (Gy c.buses.l.length ((ls).map (D0 c)):Int):=by
 subst hn
 rw[VE];unfold ND
 have:=QN (R:=R) (N:=N) (c:=c) (ls:=ls) (t1:=t1) (o1:=o1) (o0:=o0) (K:=K) hN b u v hlN q (replicate c.buses.l.length 0) (by simp) c.buses.l.length 0 N (by omega) b.1
 rw[uP (by
  intro e s
  simp only[Als] at s
  obtain⟨l,j,rfl⟩:=s
  obtain⟨x,k⟩:=q l j
  rw[NU k];exact⟨k.f1,k.t1⟩)] at this
 have ok:(decide ((0:Int)≤(c.buses.l.length:Int))&&(decide ((c.buses.l.length:Int)≤(c.buses.l.length:Int))&&(decide ((c.buses.l.length:Int)≤(140737488355328:Int))&&decide (((c.buses.l.length:Int)*((8:Nat):Int))≤(140737488355328:Int)))))=true:=by simp;omega
 rw[Ly,ok,ct]
 have e:replicate c.buses.l.length (AV.int .i64 (0:Int))=Ah (replicate c.buses.l.length 0):=by simp[Ah]
 rw[e]
 simpa using this
theorem C_ {N:Nat} {c:CaseD} {L:List Int} {x7 x11 i32 i33 cnt:Int} {ls:List Int} {t1 o1 o0:Bool} {gone:List Int} {t2 o2:Bool} {K1:Int→Int→Int→LA→O R} {K:Int→O R} (hs:L.length<4611686018427387904):∀ (m j fuel:Nat),j+m=L.length→m<fuel →
  If N K1 K (Ah gone) gone.length t2 o2 L.length x7 x11 (Ah ls) ls.length t1 o1 i32 i33 o0 c.av fuel cnt (L.length:Int) (j:Int) (Ah ((L.take j).map (fun x=>cond (x==x11) x7 x)++L.drop j))=K1 cnt i32 (wrap .i64 (i33+1)) (Ah (XV L x11 x7))
 | 0,j,fuel+1,s,_=>by
  rw[If];unfold Nw
  rw[G3 (by omega),cf,Bn (by omega),Alf,Akt (by omega)];rfl
 | m+1,j,fuel+1,s,b=>by
  rw[If];unfold Nw
  have h:j<L.length:=by omega
  have e:((L.take j).map (fun x=>cond (x==x11) x7 x)++L.drop j).length=L.length:=by simp;omega
  have k:=C_ (N:=N) (c:=c) (L:=L) (x7:=x7) (x11:=x11) (i32:=i32) (i33:=i33) (cnt:=cnt) (ls:=ls) (t1:=t1) (o1:=o1) (o0:=o0) (gone:=gone) (t2:=t2) (o2:=o2) (K1:=K1) (K:=K) hs m (j+1) fuel (by omega) (by omega)
  rw[F7 h,ct,Ac h,ct,ku (by rw[e];simpa using h),Aku,uR h,ct,F_ (by rw[e];exact h),ct,Akz,Ak6,T3,Bf (by omega)]
  cases q:L[j]==x11 with
  | true =>
   have b:=uQ (f:=fun x=>cond (x==x11) x7 x) h
   simp only[q,cond_true] at b
   rw[b,ct,k]
  | false =>
   rw[cf,oz h (by simp[q]),k]
theorem Rt {N:Nat} {c:CaseD} {ls:List Int} {t1 o1 o0:Bool} {gone:List Int} {t2 o2:Bool} {K:Int→O R} (hN:8≤N) (k:D8 c.buses.l.length N) (y:ls.length≤1000000) (s:∀ l ∈ ls,∃ x,LnV c l x) (u:D8 gone.length N):∀ (m j fuel:Nat) (st:List Int×Int),j+m=ls.length→m<fuel→st.1.length=c.buses.l.length→(-1000000+(m:Int)≤st.2∧st.2≤1000000) →
  E9 N K (Ah gone) gone.length t2 o2 c.buses.l.length (Ah ls) ls.length t1 o1 o0 c.av fuel st.2 (ls.length:Int) (j:Int) (Ah st.1)=K ((((ls.drop j).filter fun l=>!gone.contains l)).map (D0 c) |>.foldl Xt st).2
 | 0,j,fuel+1,st,A,_,_,_=>by
  rw[E9];unfold Nx
  rw[G3 (by omega),cf,Bn (l:=ls) (by omega)];rfl
 | m+1,j,fuel+1,st,A,D,b,F=>by
  rw[E9];unfold Nx Pl Ua
  have h:j<ls.length:=by omega
  obtain⟨x,e⟩:=s ls[j] (Ak3 h)
  have q:=Rt (N:=N) (c:=c) (ls:=ls) (t1:=t1) (o1:=o1) (o0:=o0) (gone:=gone) (t2:=t2) (o2:=o2) (K:=K) hN k y s u m (j+1) fuel st (by omega) (by omega) b (by omega)
  have v:=Rt (N:=N) (c:=c) (ls:=ls) (t1:=t1) (o1:=o1) (o0:=o0) (gone:=gone) (t2:=t2) (o2:=o2) (K:=K) hN k y s u m (j+1) fuel (XV st.1 (st.1.getD x.tl.toNat 0) (st.1.getD x.fr.toNat 0),st.2 - 1) (by omega) (by omega) (by simp[XV,b]) (by simp only;omega)
  rw[F7 h,ct,Ac h,ct,Qc h]
  simp only[Il,Abz e,Ab0 e]
  rw[O4 e.l0 e.lt,ct,O4 e.f0 e.f1,ct,ku (by rw[b];exact e.f1),ct,O4 e.t0 e.t1,ct,ku (by rw[b];exact e.t1),QH rfl u,Bf (by omega),Np (st.2 - 1) (by omega),Bb h]
  have z:=C_ (R:=R) (N:=N) (c:=c) (L:=st.1) (x7:=st.1.getD x.fr.toNat 0) (x11:=st.1.getD x.tl.toNat 0) (i32:=(ls.length:Int)) (i33:=(j:Int)) (cnt:=st.2 - 1) (ls:=ls) (t1:=t1) (o1:=o1) (o0:=o0) (gone:=gone) (t2:=t2) (o2:=o2) (K1:=E9 N K (Ah gone) gone.length t2 o2 c.buses.l.length (Ah ls) ls.length t1 o1 o0 c.av fuel) (K:=K) (by rw[b];exact k.2) st.1.length 0 N (by omega) (by rw[b];exact k.1)
  simp only[Aly,Anh,Al1,Ak7,Alw,b,Bf (show j<4611686018427387904 by omega)] at z
  rw[z]
  rw[Amg]
  cases C:gone.contains ls[j] with
  | true =>
   simp only[Am7,cond_true,cond_false,Amr,if_false]
   cases st.1.getD x.fr.toNat 0==st.1.getD x.tl.toNat 0<;>exact q
  | false =>
   simp only[Alq,if_true]
   rw[Ak9,Amx,NU e,Xt]
   cases hq:st.1.getD x.fr.toNat 0==st.1.getD x.tl.toNat 0 with
   | true=>simp only[show(true==false)=false from rfl,cond_false,cond_true];exact q
   | false=>simp only[beq_self_eq_true,cond_false,cond_true];exact v
theorem DA {N:Nat} {c:CaseD} {ls:List Int} {t1 o1 o0:Bool} {gone:List Int} {t2 o2:Bool} {K:Int→O R} (hN:8≤N) (b:D8 c.buses.l.length N) (u:c.buses.l.length≤1000000) (k:ls.length≤1000000) (hlN:ls.length<N) (q:∀ l ∈ ls,∃ x,LnV c l x) (s:D8 gone.length N) (L:List Int) (hL:L.length=c.buses.l.length):∀ (m j fuel:Nat),j+m=c.buses.l.length→m<fuel →
  Gg N K (Ah ls) ls.length t1 o1 (Ah gone) gone.length t2 o2 c.buses.l.length o0 c.av fuel (c.buses.l.length:Int) (j:Int) (Ah ((D7 c.buses.l.length).take j++L.drop j))=K (((ls.filter fun l=>!gone.contains l)).map (D0 c) |>.foldl Xt (D7 c.buses.l.length,(c.buses.l.length:Int))).2
 | 0,j,fuel+1,v,_=>by
  rw[Gg];unfold Ny
  have:=Rt (R:=R) (N:=N) (c:=c) (ls:=ls) (t1:=t1) (o1:=o1) (o0:=o0) (gone:=gone) (t2:=t2) (o2:=o2) (K:=K) hN b k q s ls.length 0 N (D7 c.buses.l.length,(c.buses.l.length:Int)) (by omega) hlN (by simp[D7]) (by simp only;omega)
  rw[G3 (by omega),cf,Bn (by omega),Alf,Akt (by simp[D7];omega)]
  simpa using this
 | m+1,j,fuel+1,v,y=>by
  rw[Gg];unfold Ny
  have h:j<c.buses.l.length:=by omega
  have e:((D7 c.buses.l.length).take j++L.drop j).length=c.buses.l.length:=by simp[D7];omega
  rw[F7 h,ct,Ac h,ct,F_ (by rw[e];simpa using h),ct,Aku,Akz,Ak6,T3,RY hL h,Bf (by omega),DA hN b u k hlN q s L hL m (j+1) fuel (by omega) (by omega)]
theorem n8 {N:Nat} {c:CaseD} {ls:List Int} {n:Nat} {t1 o1 o0:Bool} {gone:List Int} {t2 o2:Bool} {n2:Nat} {K:Int→O R} (hn:n=ls.length) (j:n2=gone.length) (hN:8≤N) (b:D8 c.buses.l.length N) (v:c.buses.l.length≤1000000) (y:ls.length≤1000000) (hlN:ls.length<N) (s:∀ l ∈ ls,∃ x,LnV c l x) (z:D8 gone.length N) :
  Tj N c.av o0 (Ah ls) n t1 o1 (Ah gone) n2 t2 o2 K=K (Gy c.buses.l.length (((ls.filter fun l=>!gone.contains l)).map (D0 c)):Int):=by
 subst hn j
 rw[HD];unfold Vo
 have:=DA (R:=R) (N:=N) (c:=c) (ls:=ls) (t1:=t1) (o1:=o1) (o0:=o0) (gone:=gone) (t2:=t2) (o2:=o2) (K:=K) hN b v y hlN s z (replicate c.buses.l.length 0) (by simp) c.buses.l.length 0 N (by omega) b.1
 rw[uP (by
  intro e u
  simp only[Als,Amy] at u
  obtain⟨l,k,rfl⟩:=u
  obtain⟨x,q⟩:=s l k.1
  rw[NU q];exact⟨q.f1,q.t1⟩)] at this
 have ok:(decide ((0:Int)≤(c.buses.l.length:Int))&&(decide ((c.buses.l.length:Int)≤(c.buses.l.length:Int))&&(decide ((c.buses.l.length:Int)≤(140737488355328:Int))&&decide (((c.buses.l.length:Int)*((8:Nat):Int))≤(140737488355328:Int)))))=true:=by simp;omega
 rw[Ly,ok,ct]
 have e:replicate c.buses.l.length (AV.int .i64 (0:Int))=Ah (replicate c.buses.l.length 0):=by simp[Ah]
 rw[e]
 simpa using this
theorem MC {N:Nat} {c:CaseD} {h:Int} {o:Bool} {K:Nat→LA→O R} (hs:Small c N):∀ (m j fuel:Nat) (A:List Int),j+m=c.lines.l.length→m<fuel→A.length≤j →
  I6 N K h (c.lines.l.flatMap LineD.av) c.lines.l.length o fuel A.length (c.lines.l.length:Int) (j:Int) (Ah A)=K (A++LY h (c.lines.l.drop j) j).length (Ah (A++LY h (c.lines.l.drop j) j))
 | 0,j,fuel+1,A,u,_,_=>by
  rw[I6];unfold Sf
  rw[G3 (by omega),cf,Bn (by omega),LY,Alf]
 | m+1,j,fuel+1,A,u,I,hA=>by
  rw[I6];unfold Sf
  have e:j<c.lines.l.length:=by omega
  have s:=hs.top.2.1
  have v:c.lines.l[j] ∈ c.lines.l:=Ak3 e
  have y:=hs.law _ v
  rw[F7 e,ct,Ac e,ct,Aku,Ar B7 _ _ e,Bb e,LY]
  have k:=MC (N:=N) (c:=c) (h:=h) (o:=o) (K:=K) hs m (j+1) fuel (A++[(j:Int)]) (by omega) (by omega) (by simp;omega)
  have q:=MC (N:=N) (c:=c) (h:=h) (o:=o) (K:=K) hs m (j+1) fuel A (by omega) (by omega) (by omega)
  generalize c.lines.l[j]=b at *
  have z:ble 12 (List.length (b.av++List.flatMap LineD.av (drop (j+1) c.lines.l)))=true:=by rw[Bv,Akx,B7];simp
  have C:take 12 (b.av++List.flatMap LineD.av (drop (j+1) c.lines.l))=b.av:=Ald (B7 b)
  have D:(ble (A.length+1) 140737488355328&&ble ((A.length+1)*8) 140737488355328)=true:=by rw[Bv,Bv];simp;omega
  have F:∀ f:LA→Nat→O R,Ba 1 (drop 11 b.av) f=f (Ah b.away.l) b.away.l.length:=fun f=>by simp[LineD.av,Cy,C6]
  have G:take (A.length*1) (Ah A)++[.int .i64 (j:Int)]=Ah (A++[(j:Int)]):=gL (B:=[(j:Int)]) rfl
  rw[z,ct,C,B7,show((beq 0 0)&&((beq 12 12)&&(beq 12 12)))=true from rfl,ct,F,QH rfl y,D,ct,G,Bf (by omega)]
  cases b.away.l.contains h with
  | true=>simp only[Am7,cond_false,cond_true];exact q
  | false =>
   simp only[Alq,cond_true,cond_false]
   rw[Akx] at k
   simpa using k
theorem uS {N:Nat} {c:CaseD} {h:Int} {o:Bool} {K:Nat→LA→O R} (hs:Small c N):BV N c.av o h K=K (Aq c h).length (Ah (Aq c h)):=by
 rw[PS];unfold ES
 have:=MC (R:=R) (N:=N) (c:=c) (h:=h) (o:=o) (K:=K) hs c.lines.l.length 0 N [] (by omega) hs.lin.1 (by simp)
 rw[Il]
 simpa[Aq,Ah] using this
theorem uT {c:CaseD} {p:Ca} {k i:Int}:take 8 (Cd c p k i)=c.av:=rfl
theorem Ab4 {p:Ca} {k i:Int}:(CN p k i).length=4:=by rcases p with _ | ⟨⟨a,b,f⟩,e⟩<;>rfl
theorem yK {c:CaseD} {p:Ca} {k i:Int}:ble 8 (List.length (Cd c p k i))=true:=by
 rw[Bv,Cd,Akx,Ab4];simp[CaseD.av]
theorem XW {N:Nat} {c:CaseD} {w w0 o31:Bool} {h0:LA} {x1:Int} {hr:Int} (hs:Small c N) (v:PreV c):∀ (m j fuel:Nat) (p:Ca) (k i:Int),j+m=c.outs.l.length→m<fuel →
  ∃ s u:Int,∀ (K0:Int→Bool→LA→O R) (K:Bool→LA→O R),Hu N K0 K (Aq c hr).length (Gy c.buses.l.length ((Aq c hr).map (D0 c)):Int) x1 (c.outs.l.flatMap OutD.av) c.outs.l.length (Ah (Aq c hr)) w0 h0 fuel hr hr o31 (c.outs.l.length:Int) (j:Int) w (Cd c p k i) =
   K0 (wrap .i64 (hr+1)) w (Cd c (A6 (uI c hr) (c.outs.l.drop j) j p) s u)
 | 0,j,fuel+1,p,k,i,y,_=>by
  refine⟨k,i,fun K0 K=>?_⟩
  rw[Hu];unfold Pn
  rw[G3 (by omega),cf,Bn (by omega),A6]
 | m+1,j,fuel+1,p,k,i,y,M=>by
  have h:j<c.outs.l.length:=by omega
  have hN:=hs.n64
  have z:c.outs.l[j] ∈ c.outs.l:=Ak3 h
  have A:=hs.oli _ z
  have e:=hs.top
  have C:=T4 hr c.lines.l 0
  have q:=hs.lin.1
  obtain⟨D,i1,F⟩:=XW (w:=w) (w0:=w0) (o31:=o31) (h0:=h0) (x1:=x1) (hr:=hr) hs v m (j+1) fuel (uI c hr j c.outs.l[j] p) 6 j (by omega) (by omega)
  refine⟨D,i1,fun K0 K=>?_⟩
  rw[Hu];unfold Pn
  rw[F7 h,ct,Ac h,ct,Aku,Ar Cb _ _ h,Bb h,A6,←F K0 K]
  generalize c.outs.l[j]=b at *
  have G:ble 4 (List.length (b.av++List.flatMap OutD.av (drop (j+1) c.outs.l)))=true:=by rw[Bv,Akx,Cb];simp
  have I:take 4 (b.av++List.flatMap OutD.av (drop (j+1) c.outs.l))=b.av:=Ald (Cb b)
  rw[G,ct,I,Cb,show((beq 0 0)&&((beq 4 4)&&(beq 4 4)))=true from rfl,ct,Jx,yK,ct,XC,uT,Ak6,Akt (by rw[Cz];exact Akw _),
   n8 rfl rfl (by omega) hs.bus e.1 (by unfold Aq;omega) (by unfold Aq;omega) (fun l L=>v.lnV L) A,An (by decide),Bf (by omega)]
  rfl
theorem XX {N H:Nat} {c:CaseD} {w w0:Bool} {h0:LA} (hs:Small c N) (v:PreV c) (hH:H≤24):∀ (m j fuel:Nat) (p:Ca) (k i:Int),j+m=H→m<fuel →
  ∃ s u:Int,∀ K:Bool→LA→O R,F0 N K (H:Int) w0 h0 fuel (j:Int) w (Cd c p k i)=K w (Cd c (Jw c m j p) s u)
 | 0,j,fuel+1,p,k,i,y,_=>by
  refine⟨k,i,fun K=>?_⟩
  rw[F0];unfold Po
  rw[G3 (by omega),cf,Jw]
 | m+1,j,fuel+1,p,k,i,y,G=>by
  have hN:=hs.n64
  have b:=hs.top
  have z:=T4 (j:Int) c.lines.l 0
  have e:=hs.lin.1
  obtain⟨A,i1,q⟩:=XW (R:=R) (w:=w) (w0:=w0) (o31:=w) (h0:=h0) (x1:=(H:Int)) (hr:=(j:Int)) hs v c.outs.l.length 0 N p k i (by omega) hs.out.1
  obtain⟨C,i2,D⟩:=XX (w:=w) (w0:=w0) (h0:=h0) hs v hH m (j+1) fuel (A6 (uI c j) c.outs.l 0 p) A i1 (by omega) (by omega)
  refine⟨C,i2,fun K=>?_⟩
  rw[F0];unfold Po
  simp only[Ak7,Alw] at q
  rw[F7 (by omega),ct,yK,ct,uT,uS hs,ct,Ak6,Akt (by rw[Cz];exact Akw _),
   SB rfl (by omega) hs.bus b.1 (by unfold Aq;omega) (by unfold Aq;omega) (fun l F=>v.lnV F),gM]
  dsimp only
  rw[q,Bf (by omega),D,Jw]
theorem gB {N:Nat} {c:CaseD} {p:Ca} {k i:Int} {w:Bool} (hs:Small c N) (v:PreV c):∃ b e:Int,∀ K:Bool→LA→O R,Rd N w (Cd c p k i) K=K w (Cd c (Jw c c.hours.toNat 0 p) b e):=by
 have j:=v.hours
 have hN:=hs.n64
 obtain⟨b,e,h⟩:=XX (R:=R) (w:=w) (w0:=w) (h0:=Cd c p k i) hs v (H:=c.hours.toNat) (by omega) c.hours.toNat 0 N p k i (by omega) (by omega)
 refine⟨b,e,fun K=>?_⟩
 rw[KP];unfold Yx
 rw[XH]
 have:=h K
 rw[An4 (by omega)] at this
 simpa using this
theorem Adp {c:CaseD} {p:Ca} {k i:Int} {w:Bool} {K:LA→Int→O R} {X:O R} :
  (Ao .i64 (drop 11 (Cd c p k i)) fun x3=>cond (x3 != (0:Int)) (cond (ble 3 (List.length (drop 8 (Cd c p k i)))) (cond ((!w)||(Ax (take 3 (drop 8 (Cd c p k i))))) (Ao .i64 (drop 11 (Cd c p k i)) fun x4=>cond ((beq (List.length (take 3 (drop 8 (Cd c p k i)))) 3)&&((ble 3 3)&&(!false))) (cond (ble 3 (List.length (setCells [(.int .i64 (0:Int)),(.int .i64 (0:Int)),(.int .i64 (0:Int))] 0 (take 3 (drop 8 (Cd c p k i)))))) (K (take 3 (setCells [(.int .i64 (0:Int)),(.int .i64 (0:Int)),(.int .i64 (0:Int))] 0 (take 3 (drop 8 (Cd c p k i))))) x4) none) none) none) none) X) =
  match p with | none=>X | some y=>K (w3 (some y)) y.2.1:=by
 rw[In]
 rcases p with _ | ⟨⟨a,b,f⟩,e,j⟩
 ·simp[A8]
 ·have q:(e != 0)=true:=by simpa using j
  rw[In]
  simp[A8,q,Cd,CaseD.av,CN,w3,Ax,Bv,Xy,setCells,Dd]
def QO (K:LA→Int→O R) (X:Bool→LA→O R) (y1:Bool) (y2:LA):O R :=
   (Ao .i64 (drop 11 y2) fun x3=>cond (x3 != (0:Int)) (cond (ble 3 (List.length (drop 8 y2))) (cond ((!y1)||(Ax (take 3 (drop 8 y2)))) (Ao .i64 (drop 11 y2) fun x4=>cond ((beq (List.length (take 3 (drop 8 y2))) 3)&&((ble 3 3)&&(!false))) (cond (ble 3 (List.length (setCells [(.int .i64 (0:Int)),(.int .i64 (0:Int)),(.int .i64 (0:Int))] 0 (take 3 (drop 8 y2))))) (K (take 3 (setCells [(.int .i64 (0:Int)),(.int .i64 (0:Int)),(.int .i64 (0:Int))] 0 (take 3 (drop 8 y2)))) x4) none) none) none) none) (X y1 y2))
theorem T5 {c:CaseD} {p:Ca} {k i:Int} {w:Bool} {K:LA→Int→O R} {X:Bool→LA→O R}:QO K X w (Cd c p k i)=match p with | none=>X w (Cd c p k i) | some y=>K (w3 (some y)) y.2.1:=by
 unfold QO;exact Adp
theorem Ahm {N fuel:Nat} {w:Bool} {h:LA} {K:LA→Int→O R}:Av N K (fuel+1) 0 w h=BM N w h (QO K (Av N K fuel 1)):=by
 rw[Av];unfold Du
 rw[show decide ((0:Int)<8)=true from rfl,ct,show Af (0:Int) 8=true from rfl,ct]
 rfl
theorem Ahn {N fuel:Nat} {w:Bool} {h:LA} {K:LA→Int→O R}:Av N K (fuel+1) 1 w h=BO N w h (QO K (Av N K fuel 2)):=by
 rw[Av];unfold Du
 rw[show decide ((1:Int)<8)=true from rfl,ct,show Af (1:Int) 8=true from rfl,ct]
 rfl
theorem Aho {N fuel:Nat} {w:Bool} {h:LA} {K:LA→Int→O R}:Av N K (fuel+1) 2 w h=BR N w h (QO K (Av N K fuel 3)):=by
 rw[Av];unfold Du
 rw[show decide ((2:Int)<8)=true from rfl,ct,show Af (2:Int) 8=true from rfl,ct]
 rfl
theorem Ahp {N fuel:Nat} {w:Bool} {h:LA} {K:LA→Int→O R}:Av N K (fuel+1) 3 w h=BT N w h (QO K (Av N K fuel 4)):=by
 rw[Av];unfold Du
 rw[show decide ((3:Int)<8)=true from rfl,ct,show Af (3:Int) 8=true from rfl,ct]
 rfl
theorem Ahq {N fuel:Nat} {w:Bool} {h:LA} {K:LA→Int→O R}:Av N K (fuel+1) 4 w h=Wa N w h (QO K (Av N K fuel 5)):=by
 rw[Av];unfold Du
 rw[show decide ((4:Int)<8)=true from rfl,ct,show Af (4:Int) 8=true from rfl,ct]
 rfl
theorem Ahr {N fuel:Nat} {w:Bool} {h:LA} {K:LA→Int→O R}:Av N K (fuel+1) 5 w h=NB N w h (QO K (Av N K fuel 6)):=by
 rw[Av];unfold Du
 rw[show decide ((5:Int)<8)=true from rfl,ct,show Af (5:Int) 8=true from rfl,ct]
 rfl
theorem Ahs {N fuel:Nat} {w:Bool} {h:LA} {K:LA→Int→O R}:Av N K (fuel+1) 6 w h=Ra N w h (QO K (Av N K fuel 7)):=by
 rw[Av];unfold Du
 rw[show decide ((6:Int)<8)=true from rfl,ct,show Af (6:Int) 8=true from rfl,ct]
 rfl
theorem Aht {N fuel:Nat} {w:Bool} {h:LA} {K:LA→Int→O R}:Av N K (fuel+1) 7 w h=Rd N w h (QO K (Av N K fuel 8)):=by
 rw[Av];unfold Du
 rw[show decide ((7:Int)<8)=true from rfl,ct,show Af (7:Int) 8=true from rfl,ct]
 rfl
theorem n9 {N:Nat} {c:CaseD} {o:Bool} {K:LA→Int→O R} (hs:Small c N):KQ N c.av o K=K (w3 (D9 c)) (A8 (D9 c)):=by
 have hN:=hs.n64
 have D:setCells [(.int .i64 (0:Int)),.nsl,.nsl,.nsl,.nsl,.nsl,.nsl,.nsl,(.int .i64 (0:Int)),(.int .i64 (0:Int)),(.int .i64 (0:Int)),(.int .i64 (0:Int))] 0 c.av=Cd c none 0 0:=rfl
 rw[VK];unfold NE
 rw[Be,Cc,ct,D,show((beq (List.length c.av) 8)&&(ble 8 12))=true from rfl,ct]
 obtain⟨n,hn⟩:∃ n,N=n+9:=⟨N - 9,by omega⟩
 have fin:∀ (y:(Int×Int×Int)×{ e:Int // e≠0 }),CW c=some y→K (w3 (some y)) y.2.1=K (w3 (D9 c)) (A8 (D9 c)):=by
  intro y F
  unfold D9;rw[F];rfl
 have st:Av N K N 0 (o||false) (Cd c none 0 0)=Av N K (n+9) 0 (o||false) (Cd c none 0 0):=by rw[←hn]
 try dsimp only
 rw[st,Ahm,nX hs,T5]
 cases b:LV c none with
 | some y =>
  refine fin y ?_
  unfold CW;simp only;rw[b,A4 (fun _ _=>NW _ _ _),A4 (fun _ _=>Xp _ _ _),A4 (fun _ _=>Rr _ _ _),A4 (fun _ _=>L1 _ _ _),A4 (fun _ _=>O5 _ _ _),A4 (fun _ _=>Kg)]
 | none =>
  try dsimp only
  rw[Ahn]
  obtain⟨G,i1,I⟩:=nY (R:=R) (p:=none) (k:=0) (i:=0) (w:=(o||false)) hs
  rw[I,T5]
  cases j:A6 (nU c) c.buses.l 0 none with
  | some y =>
   refine fin y ?_
   unfold CW;simp only;rw[b,j,A4 (fun _ _=>Xp _ _ _),A4 (fun _ _=>Rr _ _ _),A4 (fun _ _=>L1 _ _ _),A4 (fun _ _=>O5 _ _ _),A4 (fun _ _=>Kg)]
  | none =>
   try dsimp only
   rw[Aho]
   obtain⟨L,i2,M⟩:=nZ (R:=R) (p:=none) (k:=G) (i:=i1) (w:=(o||false)) hs
   rw[M,T5]
   cases q:A6 (CQ c) c.lines.l 0 none with
   | some y =>
    refine fin y ?_
    unfold CW;simp only;rw[b,j,q,A4 (fun _ _=>Rr _ _ _),A4 (fun _ _=>L1 _ _ _),A4 (fun _ _=>O5 _ _ _),A4 (fun _ _=>Kg)]
   | none =>
    try dsimp only
    rw[Ahp]
    obtain⟨S,i3,T⟩:=n7 (R:=R) (p:=none) (k:=L) (i:=i2) (w:=(o||false)) hs
    rw[T,T5]
    cases s:A6 (HW c) c.units.l 0 none with
    | some y =>
     refine fin y ?_
     unfold CW;simp only;rw[b,j,q,s,A4 (fun _ _=>L1 _ _ _),A4 (fun _ _=>O5 _ _ _),A4 (fun _ _=>Kg)]
    | none =>
     try dsimp only
     rw[Ahq]
     obtain⟨U,i4,V⟩:=lE (R:=R) (p:=none) (k:=S) (i:=i3) (w:=(o||false)) hs
     rw[V,T5]
     cases u:A6 (Ud c) c.stores.l 0 none with
     | some y =>
      refine fin y ?_
      unfold CW;simp only;rw[b,j,q,s,u,A4 (fun _ _=>O5 _ _ _),A4 (fun _ _=>Kg)]
     | none =>
      try dsimp only
      rw[Ahr]
      obtain⟨X,i5,Y⟩:=rX (R:=R) (p:=none) (k:=U) (i:=i4) (w:=(o||false)) hs
      rw[Y,T5]
      cases A:A6 (nV c) c.ties.l 0 none with
      | some y =>
       refine fin y ?_
       unfold CW;simp only;rw[b,j,q,s,u,A,A4 (fun _ _=>Kg)]
      | none =>
       try dsimp only
       rw[Ahs]
       obtain⟨k6,i6,g6⟩:=gA (R:=R) (p:=none) (k:=X) (i:=i5) (w:=(o||false)) hs
       rw[g6,T5]
       cases C:A6 (RX c) c.outs.l 0 none with
       | some y =>
        refine fin y ?_
        unfold CW;simp only;rw[b,j,q,s,u,A,C]
       | none =>
        have z:CW c=none:=by unfold CW;simp only;rw[b,j,q,s,u,A,C]
        have v:=oh z
        try dsimp only
        rw[Aht]
        obtain⟨k7,i7,g7⟩:=gB (R:=R) (p:=none) (k:=k6) (i:=i6) (w:=(o||false)) hs v
        rw[g7,T5]
        have hc:D9 c=Jw c c.hours.toNat 0 none:=by unfold D9;rw[z]
        rw[hc]
        cases hq:Jw c c.hours.toNat 0 none with
        | some y=>rfl
        | none =>
         try dsimp only
         rw[Av];unfold Du
         rfl
end
end Gx.Cf
namespace Gx
def val:List Nat→Nat
 | []=>0
 | x::r=>x+4294967296*val r
def Bi (l:List Nat):Prop:=∀ x ∈ l,x<4294967296
def uU:Nat→Nat→List Nat
 | 0,_=>[]
 | f+1,n=>if n=0 then [] else n%4294967296::uU f (n/4294967296)
def Bg (n:Nat):List Nat:=uU n n
theorem yL:∀ (f n:Nat),n≤f→∀ g,n≤g→uU f n=uU g n
 | 0,n,h,g,_=>by
  have:n=0:=by omega
  subst this;cases g<;>simp[uU]
 | f+1,n,h,g,b=>by
  by_cases h0:n=0
  ·subst h0;cases g<;>simp[uU]
  ·cases g with
   | zero=>omega
   | succ g=>simp only[uU,h0,if_false];rw[yL f _ (by omega) g (by omega)]
theorem Gn:Bg 0=[]:=rfl
theorem GC {n:Nat} (h:n≠0):Bg n=n%4294967296::Bg (n/4294967296):=by
 unfold Bg
 cases n with
 | zero=>omega
 | succ n=>simp only[uU,h,if_false];rw[yL n _ (by omega) ((n+1)/4294967296) (by omega)]
theorem Bo:∀ n,val (Bg n)=n:=by
 intro n
 induction n using Nat.strongRecOn with
 | _ n b =>
  by_cases h:n=0
  ·subst h;rfl
  ·rw[GC h,val,b _ (by omega)];omega
theorem Az:∀ n,Bi (Bg n):=by
 intro n
 induction n using Nat.strongRecOn with
 | _ n e =>
  by_cases h:n=0
  ·subst h;intro x b;simp[Gn] at b
  ·rw[GC h];intro x b
   simp at b
   rcases b with rfl | b
   ·omega
   ·exact e _ (by omega) x b
theorem pA:Bi []:=by intro x b;simp at b
theorem L6 {x:Nat} {r:List Nat}:Bi (x::r)↔x<4294967296∧Bi r:=by simp[Bi]
theorem Ru {a:List Nat} (h:Bi a) (n:Nat):Bi (a.take n):=fun x b=>h x (Ank b)
theorem DB {a:List Nat} (h:Bi a) {i:Nat} (hi:i<a.length):a[i]<4294967296:=h _ (Ak3 hi)
theorem a_ {a:List Nat} (h:Bi a) {v:Nat} (j:v<4294967296) (i:Nat):Bi (a.set i v):=fun x e=>by
 rcases Aoe e with b | b
 ·exact h x b
 ·omega
theorem Ue (n:Nat):Bi (replicate n 0):=fun x b=>by simp at b;omega
theorem SC:∀ (a b:List Nat),val (a++b)=val a+4294967296 ^ a.length*val b
 | [],b=>by simp[val]
 | x::r,b=>by
  simp only[Alh,val,Ak8,SC r b,Alu]
  rw[Am2,←Alv,←And];congr 2;rw[Amq]
theorem S7:∀ n,val (replicate n 0)=0
 | 0=>rfl
 | n+1=>by rw[An5,val,S7 n]
theorem Og:∀ {a:List Nat},Bi a→val a<4294967296 ^ a.length
 | [],_=>by simp[val]
 | x::r,h=>by
  have b:=L6.1 h
  have e:=Og b.2
  rw[val,Ak8,Alu]
  omega
theorem xH (a:List Nat) (x:Nat):val (a++[x])=val a+4294967296 ^ a.length*x:=by rw[SC];simp[val]
theorem SD {n:Nat} (h:n≠0):Bg n≠[]:=by rw[GC h];simp
theorem lH {n:Nat}:Bg n=[]↔n=0:=by
 constructor
 ·intro h;by_cases h0:n=0;exact h0;exact absurd h (SD h0)
 ·intro h;rw[h];rfl
theorem Fm {n:Nat}:(Bg n).length=0↔n=0:=by rw[Aoo,lH]
theorem Gw:∀ {l:List Nat},Bi l→l=Bg (val l)++replicate (l.length - (Bg (val l)).length) 0∧(Bg (val l)).length≤l.length
 | [],_=>by simp[val,Gn]
 | x::r,h=>by
  have e:=L6.1 h
  obtain⟨b,j⟩:=Gw e.2
  rw[val]
  by_cases h0:x+4294967296*val r=0
  ·have k:x=0:=by omega
   have hr:val r=0:=by omega
   rw[h0,Gn]
   rw[hr,Gn] at b
   simp at b
   subst k
   refine⟨?_,by simp⟩
   rw[Al1,Alz,Nat.sub_zero,Ak8,An5,←b]
  ·rw[GC h0,show(x+4294967296*val r)%4294967296=x by omega,show(x+4294967296*val r)/4294967296=val r by omega]
   refine⟨?_,by simp;exact j⟩
   rw[Alh,Ak8,Ak8,Nat.add_sub_add_right,←b]
theorem Ab5:∀ (n:Nat) (h:Bg n≠[]),(Bg n).getLast h≠0:=by
 intro n
 induction n using Nat.strongRecOn with
 | _ n k =>
  intro h
  have h0:n≠0:=fun e=>h (by rw[e];rfl)
  have e:=GC h0
  by_cases j:n/4294967296=0
  ·rw[j,Gn] at e
   have:n<4294967296:=by omega
   simp[e];omega
  ·have b:=SD j
   have:=k _ (by omega) b
   have q:(Bg n).getLast h=(Bg (n/4294967296)).getLast b:=by
    simp only[e];rw[List.getLast_cons b]
   rw[q];exact this
theorem Afn:∀ {l:List Nat},Bi l→(∀ h:l≠[],l.getLast h≠0)→Bg (val l)=l:=by
 intro l h u
 obtain⟨b,v⟩:=Gw h
 by_cases q:l.length - (Bg (val l)).length=0
 ·rw[q] at b;simpa using b.symm
 ·exfalso
  obtain⟨k,q⟩:=Nat.exists_eq_succ_of_ne_zero q
  rw[q,List.replicate_succ',←Ami] at b
  have j:l≠[]:=by intro e;rw[e] at b;simp at b
  apply u j
  have s:l.getLast?=some 0:=by rw[b,List.getLast?_append];rfl
  rw[List.getLast?_eq_some_getLast j] at s
  simpa using s
theorem MD {n k:Nat} (h:n<4294967296 ^ k):(Bg n).length≤k:=by
  induction k generalizing n with
  | zero => have : n = 0 := by simpa using h
            subst this;simp[Gn]
  | succ k b =>
    by_cases h0:n=0
    · subst h0;simp[Gn]
    · rw[GC h0,Ak8]
      have:n/4294967296<4294967296 ^ k:=by
        rw[Alu] at h
        exact Nat.div_lt_of_lt_mul (by rw[Amq];exact h)
      have:=b this
      omega
theorem Do {a b:Nat} (h:a≤b):(Bg a).length≤(Bg b).length:=by
 apply MD
 have:=Og (Az b)
 rw[Bo] at this
 omega
end Gx
namespace Gx
open Go
section
variable {R:Type}
def Ay (l:List Nat):LA:=l.map fun n:Nat=>.int .u32 (n:Int)
theorem pB (x:Nat) (l:List Nat):Ay (x::l)=.int .u32 (x:Int)::Ay l:=rfl
theorem C0 (l:List Nat):(Ay l).length=l.length:=by simp[Ay]
theorem zW (l:List Nat) (n:Nat):(Ay l).drop n=Ay (l.drop n):=by simp[Ay,List.map_drop]
theorem NX (l:List Nat) (n:Nat):(Ay l).take n=Ay (l.take n):=by simp[Ay,List.map_take]
theorem Ab6 (l:List Nat) (j:Nat) (v:Nat):List.set (Ay l) j (.int .u32 (v:Int))=Ay (l.set j v):=by simp[Ay,List.map_set]
theorem Xu (n:Nat):replicate n (AV.int .u32 0)=Ay (replicate n 0):=by simp[Ay]
theorem Ab7 {l:List Nat} {i:Nat} (h:i<l.length) {f:Int→O R}:Ao .u32 (drop i (Ay l)) f=f (l[i]:Nat):=by
 rw[zW,Aln h,pB,Aw]
theorem ME:∀ l:List Nat,Ax (Ay l)=true
 | []=>rfl
 | x::r=>by rw[pB,Ax];exact ME r
theorem Afo (a b:Nat):(a:Int)+(b:Int)=((a+b:Nat):Int):=by omega
theorem Ajl (a b:Nat):(a:Int)*(b:Int)=((a*b:Nat):Int):=by simp
theorem xI {a:Nat} (h:a<18446744073709551616):wrap .u64 (a:Int)=(a:Int):=wrap_u64 a h
theorem Ah9 {a:Nat} (h:a<4294967296):wrap .u32 (a:Int)=(a:Int):=wrap_u32 a h
theorem Afp (a:Nat):wrap .u32 (a:Int)=((a%4294967296:Nat):Int):=zO a
theorem Adq (a:Int):wrap .u64 a=a%18446744073709551616:=IntKind.wrap_u64 a
theorem Ab8 {a b:Nat} (e:a<18446744073709551616) (j:b≤a):wrap .u64 ((a:Int) - (b:Int))=((a - b:Nat):Int):=by rw[Adq];omega
theorem Afq (a:Nat):Int.fdiv (a:Int) (2 ^ 32)=((a/4294967296:Nat):Int):=kg a 32
theorem i64 {a:Int} (h:-9223372036854775808≤a∧a≤9223372036854775807):wrap .i64 a=a:=Np a h
theorem Ajm {a b:Nat} (e:a<18446744073709551616) (j:b<18446744073709551616):iM .u64 (a:Int) (b:Int)=((a ||| b:Nat):Int):=oe rfl e j
theorem Ab9 {a b k:Nat} (h:b<2 ^ k):a*2 ^ k ||| b=a*2 ^ k+b:=by
 rw[←Nat.shiftLeft_eq,Nat.shiftLeft_add_eq_or_of_lt h]
end
end Gx
namespace Gx
open Go Go.Proofs
section
variable {R:Type}
def fit (k N:Nat):Prop:=100*k+1000≤N∧k≤1000000000
theorem fit.le {j k N:Nat} (h:fit k N) (b:j≤k):fit j N:=⟨by have:=h.1;omega,by have:=h.2;omega⟩
theorem ct (x y:O R):cond true x y=x:=rfl
theorem cf (x y:O R):cond false x y=y:=rfl
theorem Af2 (x y:Bool):cond true x y=x:=rfl
theorem Ahu (c:Nat):((decide (((c+1:Nat):Int)>(0:Int)))==true)=true:=by simp
theorem F7 {j n:Nat} (h:j<n):decide ((j:Int)<(n:Int))=true:=by simp;omega
theorem G3 {j n:Nat} (h:n≤j):decide ((j:Int)<(n:Int))=false:=by simp;omega
theorem wS {j:Nat} (h:j≤1000000000000):wrap .i64 ((j:Int)+1)=((j+1:Nat):Int):=by rw[i64 (by omega)];omega
theorem wP {j:Nat} (h:j≤1000000000000):wrap .i64 (((j+1:Nat):Int) - 1)=(j:Int):=by rw[i64 (by omega)];omega
theorem Aet {l:List Nat} {j:Nat} (h:j<l.length) {f:Int→O R}:Ao .u32 (drop ((Int.toNat (j:Int))*1) (Ay l)) f=f (l[j]:Nat):=by
 rw[Aku,Ak6,Ab7 h]
theorem lI {l:List Nat} {j:Nat} (h:j<l.length) {f:Int→O R}:Ao .u32 (drop (0+((Int.toNat (j:Int))*1)) (Ay l)) f=f (l[j]:Nat):=by
 rw[Akz,Aet h]
theorem Aia {c a:Nat} (h:c≤a):((decide ((0:Int)≤(0:Int)))&&((decide ((0:Int)≤(c:Int)))&&((decide ((c:Int)≤(a:Int)))&&(decide ((a:Int)≤(a:Int))))))=true:=by
 simp;omega
theorem Ajn {n:Nat} (h:n≤1000000000000):((decide ((0:Int)≤(n:Int)))&&((decide ((n:Int)≤(n:Int)))&&((decide ((n:Int)≤(140737488355328:Int)))&&(decide (((n:Int)*((4:Nat):Int))≤(140737488355328:Int))))))=true:=by
 simp;omega
theorem Ad7 {x:Nat} {m:List Nat} (h:x<m.length):((beq 1 1)&&((ble ((0+((Int.toNat (x:Int))*1))+1) (List.length (Ay m)))&&(!false)))=true:=by
 rw[C0,Aku];simp;omega
theorem Aca {x v:Nat} {m:List Nat}:List.set (Ay m) (0+((Int.toNat (x:Int))*1)) (.int .u32 (v:Int))=Ay (m.set x v):=by
 rw[Aku,Ak6,Akz,Ab6]
theorem Acb {l:List Nat} (h:Bi l):l.take (Bg (val l)).length=Bg (val l):=by
 obtain⟨b,e⟩:=Gw h
 rw[congrArg (take (Bg (val l)).length) b,List.take_left]
theorem zX {l:List Nat} (h:Bi l):take ((Bg (val l)).length*1) (Ay l)=Ay (Bg (val l)):=by rw[Ak6,NX,Acb h]
theorem H3 {l:List Nat} {c:Nat} (h:c<l.length):val (l.take (c+1))=val (l.take c)+4294967296 ^ c*l[c]:=by
 rw[Ala h,xH,Al0,Al2 (by omega)]
theorem yM {l:List Nat} {c:Nat} (b:Bi l) (h:c<l.length) (h0:l[c]≠0):Bg (val (l.take (c+1)))=l.take (c+1):=by
 apply Afn (Ru b _)
 intro e
 rw[Aon]
 simp only[Al0,Al2 (show c+1≤l.length by omega),Apj,List.getElem_take]
 exact h0
theorem pC {N:Nat} {l:List Nat} {t o:Bool} {K:LA→Nat→O R} (b:Bi l) (hs:l.length≤1000000000000):∀ (c fuel:Nat),c≤l.length→c<fuel →
  Iy N K (Ay l) l.length t o fuel (c:Int)=K (Ay (Bg (val (l.take c)))) (Bg (val (l.take c))).length
 | 0,fuel+1,e,_=>by
  rw[Iy];unfold R7
  rw[show decide (((0:Nat):Int)>0)=false by simp]
  rw[show((false:Bool)==true)=false by rfl,cf,Aia (by omega),ct,Aku];rfl
 | c+1,fuel+1,e,j=>by
  rw[Iy];unfold R7
  rw[Ahu,ct,wP (by omega),Ac (by omega),ct,Aet (by omega),Af2,Aia (by omega),ct,pC b hs c fuel (by omega) (by omega),Aku,Ak6,NX]
  by_cases h0:l[c]=0
  ·rw[H3 (by omega),h0];simp
  ·rw[yM b (by omega) h0,Al0,Al2 e]
   rw[show(((l[c]:Nat):Int)==0)=false by simp;exact h0,cf]
theorem zY {N:Nat} {l:List Nat} {n:Nat} {t o:Bool} {K:LA→Nat→O R} (hn:n=l.length) (e:Bi l) (b:fit l.length N):BC N (Ay l) n t o K=K (Ay (Bg (val l))) (Bg (val l)).length:=by
 subst hn
 have j:=b.1;have k:=b.2
 rw[PA];unfold D_
 rw[pC e (by omega) l.length N (Akw _) (by omega),Amt]
theorem zZ {N:Nat} {K:LA→O R} (hN:1≤N):BD N K=K []:=by
 rw[PC];unfold EA
 cases N with
 | zero=>omega
 | succ N=>rw[Pd];rfl
def GD (x y:Nat):Int:=if x<y then -1 else if y<x then 1 else 0
theorem NY (x:Nat):GD x x=0:=by unfold GD;simp
theorem lJ {a b:Nat} (h:(Bg a).length<(Bg b).length):a<b:=Nat.lt_of_not_le fun e=>by
 have:=Do e;omega
theorem yN {u w p q P:Nat} (b:u<P) (e:w<P) (h:p<q):u+P*p<w+P*q:=by
 have:P*(p+1)≤P*q:=Amw _ h
 rw[Am2] at this
 omega
theorem lK {N:Nat} {a:List Nat} {n:Nat} {t o:Bool} {K:Int→O R} (hn:n=a.length) (e:Bi a) (b:fit a.length N):Q4 N (Ay a) n t o K=K (GD (val a) 0):=by
 subst hn
 have j:=b.1;have k:=b.2
 rw[JI];unfold X6
 dsimp only
 rw[zY rfl e b,zZ (by omega)]
 by_cases h0:val a=0
 ·rw[h0,Gn,NY]
  cases N with
  | zero=>omega
  | succ N =>
   rw[M9];unfold Wt
   rw[i64 (by simp)];simp
 ·have q:(Bg (val a)).length≠0:=fun h=>h0 (Fm.1 h)
  rw[show((((Bg (val a)).length:Nat):Int) != (0:Int))=true by simp;exact fun h=>h0 (lH.1 h),ct]
  rw[show decide ((((Bg (val a)).length:Nat):Int)<(0:Int))=false by simp,cf]
  unfold GD;rw[if_neg (by omega),if_pos (by omega)]
theorem rY:∀ {S:List Nat} {d v:Nat} (h:d<S.length),val (S.set d v)+4294967296 ^ d*S[d]=val S+4294967296 ^ d*v
 | x::r,0,v,_=>by simp[val];omega
 | x::r,d+1,v,h=>by
  have b:=rY (S:=r) (d:=d) (v:=v) (by simpa using h)
  simp only[Api,val,Aot,Alu]
  have e1:∀ y,4294967296 ^ d*4294967296*y=4294967296*(4294967296 ^ d*y):=fun y=>by rw[Amq (4294967296 ^ d),And]
  rw[e1,e1]
  omega
theorem bA (b:List Nat) (d:Nat):val (b.take (d+1))=val (b.take d)+4294967296 ^ d*b.getD d 0:=by
 by_cases h:d<b.length
 ·rw[H3 h,Ak5,Aky h];rfl
 ·rw[Akt (by omega),Akt (by omega),Ak5,Aml (by omega)];simp
theorem uV (P s:Nat):P*(s%4294967296)+P*4294967296*(s/4294967296)=P*s:=by
 rw[And,←Am2,Aou,Am5]
def Af3 (S:List Nat) (d:Nat):Prop:=∀ j (h:j<S.length),d≤j→S[j]=0
theorem yO {S:List Nat} {d v:Nat} (h:Af3 S d):Af3 (S.set d v) (d+1):=fun j b e=>by
 rw[List.getElem_set]
 rw[if_neg (by omega)]
 exact h j (by simpa using b) (by omega)
theorem QP (n:Nat):Af3 (replicate n 0) 0:=fun j b _=>by simp
theorem yP {S:List Nat} {d v:Nat} (h:Af3 S d) (b:d<S.length):val (S.set d v)=val S+4294967296 ^ d*v:=by
 have:=rY (v:=v) b
 rw[h d b (Akw _)] at this;simpa using this
theorem Ahv {n:Nat} (h:n≠0):((n:Int)==(0:Int))=false:=by rw[beq_eq_false_iff_ne];omega
theorem Adr {v:Nat} (h:(Bg v).length≤2):v<18446744073709551616:=by
 have:=Og (Az v)
 rw[Bo] at this
 have b:4294967296 ^ (Bg v).length≤4294967296 ^ 2:=Anm (by omega) h
 omega
theorem XY {v:Nat} (h:v<18446744073709551616):(Bg v).length≤2:=MD (by simpa using h)
theorem pD {X:List Nat} {n:Nat} (h:X.length=n+1):val X=val (X.take n)+4294967296 ^ n*X[n]:=by
 have:=H3 (l:=X) (c:=n) (by omega)
 rwa [Akt (by omega)] at this
theorem Acc (a b:Nat):Int.tdiv (a:Int) (b:Int)=((a/b:Nat):Int):=rfl
theorem Acd (a b:Nat):Int.tmod (a:Int) (b:Int)=((a%b:Nat):Int):=rfl
theorem Ajo {a b:Nat} (e:a<4294967296) (j:b<4294967296):iM .u64 (wrap .u64 ((a:Int)*2 ^ 32)) (b:Int)=((a*4294967296+b:Nat):Int):=by
 rw[show(2:Int) ^ 32=((2 ^ 32:Nat):Int) by rfl,Ajl,xI (by omega),Ajm (by omega) (by omega),Ab9 (by omega)]
theorem Ace {l:List Nat} {d:Nat} (h:d<l.length):val (l.drop d)=l[d]+4294967296*val (l.drop (d+1)):=by
 rw[Aln h,val]
theorem xJ {S:List Nat} {n:Nat} (hS:Bi S) (h:S.length=n+1):val S<(S[n]+1)*4294967296 ^ n:=by
 have e:=pD h
 have b:=Og (Ru hS n)
 rw[Al0,Al2 (by omega)] at b
 rw[Amz,Amq S[n]];omega
theorem Acf {x y:Nat} (e:1≤y) (h:y≤x):2*(y*(x%y))≤x*y:=by
 have j:=Am5 x y
 have k:=Anl x (show 0<y by omega)
 have hq:1≤x/y:=by rw[Nat.le_div_iff_mul_le (by omega)];omega
 have q:y*1≤y*(x/y):=Amw _ hq
 have b:2*(x%y)≤x:=by omega
 have:=Amw y b
 rw[Amq x y,Aoj];exact this
theorem bB {a:List Nat} (b:Bi a) (i:Nat):a.getD i 0<4294967296:=by
 by_cases h:i<a.length
 ·rw[Ak5,Aky h];exact DB b h
 ·rw[Ak5,Aml (by omega)];simp
theorem Acg (n m:Nat):4294967296 ^ n*4294967296 ^ m=2 ^ (32*(n+m)):=by
 rw[←An1,show(4294967296:Nat)=2 ^ 32 by rfl,←Apy]
theorem Ahw {c:Nat} (h:c≤1000000000000):((ble (0+c) 140737488355328)&&(ble ((0+c)*4) 140737488355328))=true:=by simp;omega
theorem SE {N:Nat} {l:List Nat} {t o:Bool} {K:Nat→LA→O R} (b:Bi l) (hs:l.length≤1000000000000):∀ (c fuel:Nat),c≤l.length→c<fuel →
  K6 N K (Ay l) l.length t o fuel (c:Int)=K (Bg (val (l.take c))).length (Ay (Bg (val (l.take c))))
 | 0,fuel+1,e,_=>by
  rw[K6];unfold U0
  rw[show decide (((0:Nat):Int)>0)=false by simp]
  rw[show((false:Bool)==true)=false by rfl,cf,Aia (by omega),ct,Aku,Ak6,NX,ME,Ama,ct,Ahw (by omega),ct];rfl
 | c+1,fuel+1,e,j=>by
  rw[K6];unfold U0
  rw[Ahu,ct,wP (by omega),Ac (by omega),ct,Aet (by omega),Af2,Aia (by omega),ct,SE b hs c fuel (by omega) (by omega),Aku,Ak6,NX,ME,Ama,ct,Ahw (by omega),ct,Akz]
  by_cases h0:l[c]=0
  ·rw[H3 (by omega),h0];simp
  ·rw[yM b (by omega) h0,Al0,Al2 e]
   rw[Ahv h0,cf]
theorem Df {N:Nat} {l:List Nat} {n:Nat} {t o:Bool} {K:Nat→LA→O R} (hn:n=l.length) (e:Bi l) (b:fit l.length N):Ds N (Ay l) n t o K=K (Bg (val l)).length (Ay (Bg (val l))):=by
 subst hn
 have j:=b.1;have k:=b.2
 rw[EC];unfold BE
 rw[SE e (by omega) l.length N (Akw _) (by omega),Amt]
theorem uW {N:Nat} {a b:List Nat} {t o t' o':Bool} {K:Bool→O R} (hs:a.length≤1000000000000) (q:a.length=b.length):∀ (m j fuel:Nat),j+m=a.length→m<fuel →
  I0 N K (Ay a) a.length t o (Ay b) b.length t' o' fuel (j:Int)=K (decide (a.drop j=b.drop j))
 | 0,j,fuel+1,s,_=>by
  rw[I0];unfold R8
  rw[G3 (by omega),cf,Amf (by omega),Amf (by omega)];simp
 | m+1,j,fuel+1,s,u=>by
  have e:j<a.length:=by omega
  have k:j<b.length:=by omega
  rw[I0];unfold R8
  rw[F7 e,ct,Ac e,ct,Aet e,Ac k,ct,Aet k,wS (by omega),uW hs q m (j+1) fuel (by omega) (by omega),Aln e,Aln k]
  by_cases h:a[j]=b[j]
  ·rw[show((((a[j]:Nat):Int) != ((b[j]:Nat):Int)))=false by simp[h],cf];congr 1;rw[decide_eq_decide,List.cons.injEq];exact⟨fun hh=>⟨h,hh⟩,fun hh=>hh.2⟩
  ·rw[show((((a[j]:Nat):Int) != ((b[j]:Nat):Int)))=true by rw[bne_iff_ne];omega,ct];congr 1;symm;rw[decide_eq_false_iff_not,List.cons.injEq];exact fun hh=>h hh.1
theorem Ach {N:Nat} {a b:List Nat} {n m:Nat} {t o t' o':Bool} {K:Bool→O R} (hn:n=a.length) (k:m=b.length) (j:fit a.length N):BH N (Ay a) n t o (Ay b) m t' o' K=K (decide (a=b)):=by
 subst hn k
 have q:=j.1;have s:=j.2
 rw[PE];unfold ED
 by_cases e:a.length=b.length
 ·rw[show((a.length:Int) != (b.length:Int))=false by simp[e],cf]
  have:=uW (R:=R) (N:=N) (t:=t) (o:=o) (t':=t') (o':=o') (K:=K) (by omega) e a.length 0 N (by omega) (by omega)
  simpa using this
 ·rw[show((a.length:Int) != (b.length:Int))=true by rw[bne_iff_ne];omega,ct]
  congr 1;symm;rw[decide_eq_false_iff_not];intro h;exact e (by rw[h])
theorem Zq {N:Nat} {v:Nat} {K:Nat→LA→O R} (j:v<18446744073709551616) (hN:4≤N):Gc N (v:Int) K=K (Bg v).length (Ay (Bg v)):=by
 have e:Bi [v%4294967296,v/4294967296]:=L6.2 ⟨by omega,L6.2 ⟨by omega,pA⟩⟩
 have b:val [v%4294967296,v/4294967296]=v:=by simp[val];omega
 rw[Wu];unfold T8
 rw[Afp,Afq,Ah9 (show v/4294967296<4294967296 by omega)]
 have:=SE (R:=R) (N:=N) (l:=[v%4294967296,v/4294967296]) (t:=false) (o:=true) (K:=K) e (by simp) 2 N (by simp) (by omega)
 rw[show [v%4294967296,v/4294967296].take 2=[v%4294967296,v/4294967296] by rfl,b] at this
 rw[EC];unfold BE
 exact this
theorem GE {N:Nat} {l:List Nat} {n:Nat} {t o:Bool} {K:Int→Bool→O R} (hn:n=l.length) (v:Bi l) (s:fit l.length N):Q5 N (Ay l) n t o K=if val l<18446744073709551616 then K (val l:Int) true else K 0 false:=by
 have C:=s.1
 rw[JJ];unfold X7
 rw[Df hn v s]
 by_cases h:val l<18446744073709551616
 ·have z:=XY h
  rw[if_pos h,show decide ((((Bg (val l)).length:Nat):Int)>2)=false by simp;omega,cf]
  have e:=Bo (val l)
  have k:=Az (val l)
  obtain⟨M,hM⟩:∃ M,N=M+4:=⟨N - 4,by omega⟩
  rw[hM]
  generalize Bg (val l)=d at *
  match d,z,e,k with
  | [],_,e,_ =>
   dsimp only
   rw[Dm];unfold E5
   rw[←e,i64 (by simp)];rfl
  | [x],_,e,k =>
   have q:=(L6.1 k).1
   have j:val l=x:=by rw[←e];simp[val]
   dsimp only
   rw[Dm];unfold E5
   rw[i64 (by simp),show((([x]:List Nat).length:Nat):Int) - 1=((0:Nat):Int) by rfl,show decide (((0:Nat):Int)≥0)=true by rfl,ct,Ac (by simp),ct,lI (by simp)]
   rw[Dm];unfold E5
   rw[i64 (by simp),show decide ((((0:Nat):Int) - 1)≥0)=false by rfl,cf]
   have:=Ajo (a:=0) (b:=x) (by omega) q
   simp only[Anv]
   rw[xI (show x<18446744073709551616 by omega),show(0:Int)=((0:Nat):Int) by rfl,this,j];simp
  | [x,y],_,e,k =>
   have q:=(L6.1 k).1
   have u:=(L6.1 (L6.1 k).2).1
   have j:val l=y*4294967296+x:=by rw[←e];simp[val];omega
   dsimp only
   rw[Dm];unfold E5
   rw[i64 (by simp),show((([x,y]:List Nat).length:Nat):Int) - 1=((1:Nat):Int) by rfl,show decide (((1:Nat):Int)≥0)=true by rfl,ct,Ac (by simp),ct,lI (by simp)]
   rw[Dm];unfold E5
   rw[i64 (by simp),show(((1:Nat):Int) - 1)=((0:Nat):Int) by rfl,show decide (((0:Nat):Int)≥0)=true by rfl,ct,Ac (by simp),ct,lI (by simp)]
   rw[Dm];unfold E5
   rw[i64 (by simp),show decide ((((0:Nat):Int) - 1)≥0)=false by rfl,cf]
   have o1:=Ajo (a:=0) (b:=y) (by omega) u
   have o2:=Ajo (a:=y) (b:=x) u q
   simp only[Anv,Aot]
   rw[xI (show y<18446744073709551616 by omega),xI (show x<18446744073709551616 by omega),show(0:Int)=((0:Nat):Int) by rfl,o1,Nat.zero_mul,Akz,o2,j]
 ·have:¬ (Bg (val l)).length≤2:=fun A=>h (Adr A)
  rw[if_neg h,show decide ((((Bg (val l)).length:Nat):Int)>2)=true by simp;omega,ct]
theorem pE {N:Nat} {x y:List Nat} {K:Int→O R} (j:Bi x) (k:Bi y) (hs:x.length≤1000000000000) (q:x.length=y.length):∀ (i fuel:Nat),i≤x.length→i<fuel →
  Gd N K x.length y.length (Ay x) (Ay y) fuel ((i:Int) - 1)=K (GD (val (x.take i)) (val (y.take i)))
 | 0,fuel+1,_,_=>by
  rw[Gd];unfold Nt
  rw[show decide ((((0:Nat):Int) - 1)≥0)=false by simp,cf]
  simp[NY]
 | i+1,fuel+1,hi,s=>by
  rw[Gd];unfold Nt
  rw[show(((i+1:Nat):Int) - 1)=(i:Int) by omega,show decide ((i:Int)≥0)=true by simp,ct,Ac (by omega),ct,lI (by omega),Ac (by omega),ct,lI (by omega),ct,lI (by omega),ct,lI (by omega),i64 (by omega),
   pE j k hs q i fuel (by omega) (by omega),H3 (by omega),H3 (by omega)]
  have b:=Og (Ru j i)
  have e:=Og (Ru k i)
  rw[Al0,Al2 (by omega)] at b e
  by_cases c1:x[i]<y[i]
  ·have:=yN b e c1
   rw[show decide (((x[i]:Nat):Int)<((y[i]:Nat):Int))=true by simp;exact c1,ct]
   unfold GD;rw[if_pos this]
  ·by_cases c2:y[i]<x[i]
   ·have:=yN e b c2
    rw[show decide (((x[i]:Nat):Int)<((y[i]:Nat):Int))=false by simp;omega,cf,show decide (((x[i]:Nat):Int)>((y[i]:Nat):Int))=true by simp;exact c2,ct]
    unfold GD;rw[if_neg (by omega),if_pos this]
   ·have:x[i]=y[i]:=by omega
    rw[show decide (((x[i]:Nat):Int)<((y[i]:Nat):Int))=false by simp;omega,cf,show decide (((x[i]:Nat):Int)>((y[i]:Nat):Int))=false by simp;omega,cf,this]
    unfold GD
    congr 1
    by_cases a1:val (x.take i)<val (y.take i)
    ·rw[if_pos a1,if_pos (by omega)]
    ·by_cases a2:val (y.take i)<val (x.take i)
     ·rw[if_neg a1,if_pos a2,if_neg (by omega),if_pos (by omega)]
     ·rw[if_neg a1,if_neg a2,if_neg (by omega),if_neg (by omega)]
theorem z6 {N:Nat} {a b:List Nat} {n m:Nat} {t o t' o':Bool} {K:Int→O R} (hn:n=a.length) (u:m=b.length) (j:Bi a) (k:Bi b) (e:fit (a.length+b.length) N) :
  Tb N (Ay a) n t o (Ay b) m t' o' K=K (GD (val a) (val b)):=by
 subst hn u
 have v:=e.1;have y:=e.2
 rw[GW];unfold U3
 dsimp only
 rw[Df rfl j (e.le (by omega)),Df rfl k (e.le (by omega))]
 have la:=(Gw j).2
 have lb:=(Gw k).2
 by_cases q:(Bg (val a)).length=(Bg (val b)).length
 ·rw[show((((Bg (val a)).length:Nat):Int) != (((Bg (val b)).length:Nat):Int))=false by simp;omega,cf,i64 (by omega),pE (Az _) (Az _) (by omega) q _ N (Akw _) (by omega),Amt,q,Amt,Bo,Bo]
 ·rw[show((((Bg (val a)).length:Nat):Int) != (((Bg (val b)).length:Nat):Int))=true by simp;omega,ct]
  by_cases s:(Bg (val a)).length<(Bg (val b)).length
  ·have:=lJ s
   rw[F7 s,ct]
   unfold GD;rw[if_pos this]
  ·have:=lJ (show(Bg (val b)).length<(Bg (val a)).length by omega)
   rw[G3 (by omega),cf]
   unfold GD;rw[if_neg (by omega),if_pos this]
theorem Ahx (a b:Nat):QU (a:Int) (b:Int)=((max a b:Nat):Int):=by
 unfold QU
 by_cases h:(b:Int)>(a:Int)
 ·rw[decide_eq_true h];show(b:Int)=_;omega
 ·rw[decide_eq_false h];show(a:Int)=_;omega
theorem pF {N:Nat} {a b:List Nat} {t o t' o':Bool} {n:Nat} (y:Bi a) (z:Bi b) (A:a.length<n) (C:b.length<n) (hn:n≤max a.length b.length+1) (u:fit n N):∀ (m d fuel:Nat) (S:List Nat) (c:Nat),d+m=n→m<fuel→Bi S→S.length=n→Af3 S d→c≤1 →
  val S+4294967296 ^ d*c=val (a.take d)+val (b.take d) →
  ∀ K:Nat→LA→O R,Hr N K (Ay a) a.length t o (Ay b) b.length t' o' fuel n (c:Int) (d:Int) (Ay S)=K (Bg (val a+val b)).length (Ay (Bg (val a+val b)))
 | 0,d,fuel+1,S,c,U,_,hS,v,D,V,F=>by
  intro K
  have G:d=n:=by omega
  subst G
  rw[Akt (by omega),Akt (by omega)] at F
  have I:c=0:=by
   rcases Amd c with h | h
   ·exact h
   ·exfalso
    have L:c=1:=by omega
    subst L
    obtain⟨e,rfl⟩:∃ e,d=e+1:=⟨d - 1,by omega⟩
    have x1:=Og y
    have x2:=Og z
    have y1:4294967296 ^ a.length≤4294967296 ^ e:=Anm (by omega) (by omega)
    have y2:4294967296 ^ b.length≤4294967296 ^ e:=Anm (by omega) (by omega)
    rw[Alu] at F
    omega
  subst I
  have M:val S=val a+val b:=by omega
  rw[Hr];unfold X8
  rw[G3 (Akw _),cf,Ak6,Akt (by rw[C0];omega),Df v.symm hS (by rw[v];exact u),M]
 | m+1,d,fuel+1,S,c,U,X,hS,v,D,V,F=>by
  intro K
  have Y:=u.1;have h2:=u.2
  have ga:=bB y d
  have gb:=bB z d
  have step:∀ s:Nat,s=c+a.getD d 0+b.getD d 0→val (S.set d (s%4294967296))+4294967296 ^ (d+1)*(s/4294967296)=val (a.take (d+1))+val (b.take (d+1)):=by
   intro s hs
   rw[yP D (by omega),bA a d,bA b d,Alu]
   have e:=uV (4294967296 ^ d) s
   have e2:4294967296 ^ d*s=4294967296 ^ d*c+4294967296 ^ d*a.getD d 0+4294967296 ^ d*b.getD d 0:=by rw[hs,Am2,Am2]
   omega
  have next:∀ s:Nat,s=c+a.getD d 0+b.getD d 0→Hr N K (Ay a) a.length t o (Ay b) b.length t' o' fuel n ((s/4294967296:Nat):Int) ((d+1:Nat):Int) (Ay (S.set d (s%4294967296)))=K (Bg (val a+val b)).length (Ay (Bg (val a+val b))):=by
   intro s hs
   exact pF y z A C hn u m (d+1) fuel (S.set d (s%4294967296)) (s/4294967296) (by omega) (by omega) (a_ hS (by omega) d) (by simpa using v) (yO D) (by omega) (step s hs) K
  have second:∀ w:Nat,w=c+a.getD d 0→Wv N (Hr N K (Ay a) a.length t o (Ay b) b.length t' o' fuel) K (Ay a) a.length t o (Ay b) b.length t' o' n (Ay S) (w:Int) (d:Int)=K (Bg (val a+val b)).length (Ay (Bg (val a+val b))):=by
   intro w T
   unfold Wv
   by_cases j:d<b.length
   ·have q:b.getD d 0=b[d]:=by rw[Ak5,Aky j];rfl
    rw[F7 j,ct,Ac j,ct,Aet j,Ac (by omega),ct,Ad7 (by omega),ct,xI (show b[d]<18446744073709551616 by omega),Afo,xI (show w+b[d]<18446744073709551616 by omega),Afq,Afp,Aca,wS (by omega)]
    exact next _ (by rw[T,q])
   ·have q:b.getD d 0=0:=by rw[Ak5,Aml (by omega)];rfl
    rw[G3 (by omega),cf,Ac (by omega),ct,Ad7 (by omega),ct,Afq,Afp,Aca,wS (by omega)]
    exact next _ (by rw[T,q];rfl)
  rw[Hr];unfold X8
  rw[F7 (by omega),ct]
  by_cases k:d<a.length
  ·have q:a.getD d 0=a[d]:=by rw[Ak5,Aky k];rfl
   rw[F7 k,ct,Ac k,ct,Aet k,xI (show a[d]<18446744073709551616 by omega),Afo,xI (show c+a[d]<18446744073709551616 by omega)]
   exact second _ (by rw[q])
  ·have q:a.getD d 0=0:=by rw[Ak5,Aml (by omega)];rfl
   rw[G3 (by omega),cf]
   exact second _ (by rw[q];rfl)
theorem pG {N:Nat} {a b:List Nat} {n m:Nat} {t o t' o':Bool} {K:Nat→LA→O R} (hn:n=a.length) (j:m=b.length) (k:Bi a) (q:Bi b) (e:fit (a.length+b.length+1) N) :
  EF N (Ay a) n t o (Ay b) m t' o' K=K (Bg (val a+val b)).length (Ay (Bg (val a+val b))):=by
 subst hn j
 have s:=e.1;have u:=e.2
 rw[cQ];unfold TR
 rw[Ahx,wS (by omega),Ajn (by omega),ct,Aku,Xu]
 exact pF k q (n:=max a.length b.length+1) (by omega) (by omega) (Akw _) (e.le (by omega)) (max a.length b.length+1) 0 N (replicate (max a.length b.length+1) 0) 0 (by omega) (by omega) (Ue _) (by simp) (QP _) (by omega) (by rw[S7];simp[val]) K
theorem pH {N:Nat} {a b:List Nat} (T:Bi a) (U:Bi b) (C:fit a.length N) (z:b.length≤a.length) (D:val b≤val a):∀ (m d fuel:Nat) (S:List Nat) (c:Nat),d+m=a.length→m<fuel→Bi S→S.length=a.length→Af3 S d→c≤1 →
  val S+val (b.take d)=val (a.take d)+4294967296 ^ d*c →
  ∀ K:Nat→Bool→LA→O R,Hs N K a.length b.length (Ay a) (Ay b) fuel (c:Int) (d:Int) (Ay S)=K (Bg (val a - val b)).length true (Ay (Bg (val a - val b)))
 | 0,d,fuel+1,S,c,X,_,hS,A,F,Y,V=>by
  intro K
  have G:d=a.length:=by omega
  subst G
  rw[Amt,Akt z] at V
  have s:=Og hS
  rw[A] at s
  have I:c=0:=by
   rcases An7 0 c with h | h
   ·exfalso
    have:c=1:=by omega
    subst this
    omega
   ·omega
  subst I
  have L:val S=val a - val b:=by omega
  rw[Hs];unfold X9
  rw[G3 (Akw _),cf,Ak6,Akt (by rw[C0];omega),Df A.symm hS (by rw[A];exact C),L]
 | m+1,d,fuel+1,S,c,X,hfu,hS,A,F,Y,V=>by
  intro K
  have h1:=C.1;have h2:=C.2
  have j:d<a.length:=by omega
  have ad:=DB T j
  have gb:=bB U d
  have step:∀ y g k:Nat,y=c+b.getD d 0→a[d]+4294967296*k=g+y→val (S.set d g)+val (b.take (d+1))=val (a.take (d+1))+4294967296 ^ (d+1)*k:=by
   intro y g k v u
   rw[yP F (by omega),H3 j,bA b d,Alu,And]
   have e:4294967296 ^ d*(a[d]+4294967296*k)=4294967296 ^ d*(g+(c+b.getD d 0)):=by rw[u,v]
   rw[Am2,Am2,Am2] at e
   omega
  have next:∀ y g k:Nat,g<4294967296→k≤1→y=c+b.getD d 0→a[d]+4294967296*k=g+y→Hs N K a.length b.length (Ay a) (Ay b) fuel (k:Int) ((d+1:Nat):Int) (Ay (S.set d g))=K (Bg (val a - val b)).length true (Ay (Bg (val a - val b))):=by
   intro y g k u M v he
   exact pH T U C z D m (d+1) fuel (S.set d g) k (by omega) (by omega) (a_ hS u d) (by simpa using A) (yO F) M (step y g k v he) K
  have second:∀ y:Nat,y=c+b.getD d 0→Ww N (Hs N K a.length b.length (Ay a) (Ay b) fuel) K a.length b.length (Ay a) (Ay b) (Ay S) (d:Int) (y:Int)=K (Bg (val a - val b)).length true (Ay (Bg (val a - val b))):=by
   intro y v
   unfold Ww
   rw[Ac j,ct,lI j,xI (show a[d]<18446744073709551616 by omega)]
   by_cases s:a[d]<y
   ·rw[F7 s,ct,ct,Ad7 (by omega),ct,show((a[d]:Nat):Int)+4294967296=((a[d]+4294967296:Nat):Int) by omega,xI (show a[d]+4294967296<18446744073709551616 by omega),Ab8 (by omega) (by omega),Ah9 (by omega),Aca,wS (by omega)]
    exact next y (a[d]+4294967296 - y) 1 (by omega) (by omega) v (by omega)
   ·rw[G3 (by omega),cf,ct,Ad7 (by omega),ct,Ab8 (by omega) (by omega),Ah9 (by omega),Aca,wS (by omega)]
    exact next y (a[d] - y) 0 (by omega) (by omega) v (by omega)
  rw[Hs];unfold X9
  rw[F7 j,ct]
  by_cases q:d<b.length
  ·have u:b.getD d 0=b[d]:=by rw[Ak5,Aky q];rfl
   rw[F7 q,ct,Ac q,ct,lI q,xI (show b[d]<18446744073709551616 by omega),Afo,xI (show c+b[d]<18446744073709551616 by omega)]
   exact second _ (by rw[u])
  ·have u:b.getD d 0=0:=by rw[Ak5,Aml (by omega)];rfl
   rw[G3 (by omega),cf]
   exact second _ (by rw[u];rfl)
theorem z7 {N:Nat} {a b:List Nat} {n m:Nat} {t o t' o':Bool} {K:Nat→Bool→LA→O R} (hn:n=a.length) (u:m=b.length) (k:Bi a) (q:Bi b) (j:fit (a.length+b.length) N) :
  EG N (Ay a) n t o (Ay b) m t' o' K=if val b≤val a then K (Bg (val a - val b)).length true (Ay (Bg (val a - val b))) else K 0 false []:=by
 subst hn u
 have v:=j.1;have y:=j.2
 have la:=(Gw k).2
 have lb:=(Gw q).2
 rw[cS];unfold TT
 dsimp only
 rw[z6 rfl rfl k q j]
 by_cases e:val b≤val a
 ·have s:=Do e
  rw[if_pos e,show decide (GD (val a) (val b)<0)=false by (unfold GD;rw[if_neg (by omega)];split<;>rfl),cf,Df rfl k (j.le (by omega)),Df rfl q (j.le (by omega)),Ajn (by omega),ct,Xu]
  have:=pH (R:=R) (N:=N) (a:=Bg (val a)) (b:=Bg (val b)) (Az _) (Az _) (j.le (by omega)) s (by rw[Bo,Bo];exact e) (Bg (val a)).length 0 N (replicate (Bg (val a)).length 0) 0 (by omega) (by omega) (Ue _) (by simp) (QP _) (by omega) (by rw[S7];simp[val]) K
  rw[Bo,Bo] at this
  exact this
 ·rw[if_neg e,show decide (GD (val a) (val b)<0)=true by (unfold GD;rw[if_pos (by omega)];rfl),ct]
theorem lL {N:Nat}:∀ (k fuel n v:Nat),v<2 ^ k→k<fuel→n+k≤1000000000000→∃ b:Nat,b≤k∧v<2 ^ b∧(v≠0→2 ^ b≤2*v)∧(v=0→b=0)∧∀ K:Int→O R,Iq N K fuel (n:Int) (v:Int)=K ((n+b:Nat):Int)
 | 0,fuel+1,n,v,e,_,_=>by
  have h0:v=0:=by simpa using e
  subst h0
  refine⟨0,by omega,by simp,fun h=>absurd rfl h,fun _=>rfl,fun K=>?_⟩
  rw[Iq];unfold Pe
  rw[show decide (((0:Nat):Int)>0)=false by rfl,cf];rfl
 | k+1,fuel+1,n,v,e,y,hn=>by
  by_cases h0:v=0
  ·subst h0
   refine⟨0,by omega,by simp,fun h=>absurd rfl h,fun _=>rfl,fun K=>?_⟩
   rw[Iq];unfold Pe
   rw[show decide (((0:Nat):Int)>0)=false by rfl,cf];rfl
  ·obtain⟨b,z,A,q,s,u⟩:=lL (N:=N) k fuel (n+1) (v/2) (by rw[Alu] at e;omega) (by omega) (by omega)
   refine⟨b+1,by omega,by rw[Alu];omega,fun _=>?_,fun h=>absurd h h0,fun K=>?_⟩
   ·by_cases j:v/2=0
    ·rw[s j];simp;omega
    ·have:=q j;rw[Alu];omega
   ·rw[Iq];unfold Pe
    rw[show decide ((v:Int)>0)=true by rw[decide_eq_true_eq];omega,ct,wS (by omega),kg v 1,show v/2 ^ 1=v/2 by rfl,u]
    congr 2;omega
theorem xK {N:Nat} {a:List Nat} {n:Nat} {t o:Bool} (hn:n=a.length) (q:Bi a) (j:fit a.length N):∃ nb:Nat,nb≤32*a.length∧val a<2 ^ nb∧(val a≠0→2 ^ nb≤2*val a)∧(val a=0→nb=0)∧∀ K:Int→O R,JK N (Ay a) n t o K=K (nb:Int):=by
 have F:=j.1;have G:=j.2
 have la:=(Gw q).2
 by_cases h0:val a=0
 ·refine⟨0,by omega,by rw[h0];simp,fun h=>absurd h0 h,fun _=>rfl,fun K=>?_⟩
  rw[EE];unfold BJ
  rw[Df hn q j,h0,Gn];rfl
 ·have v:(Bg (val a)).length≠0:=fun h=>h0 (Fm.1 h)
  obtain⟨k,s⟩:∃ k,(Bg (val a)).length=k+1:=⟨(Bg (val a)).length - 1,by omega⟩
  have top:=DB (Az (val a)) (show k<(Bg (val a)).length by omega)
  have e:(Bg (val a))[k]'(by omega)≠0:=by
   have:=Ab5 (val a) (SD h0)
   rw[Aon] at this
   simp only[s,Apj] at this
   exact this
  have tf:=pD s
  have tl:=xJ (Az (val a)) s
  rw[Bo] at tf tl
  obtain⟨b,I,y,z,L,A⟩:=lL (R:=R) (N:=N) 32 N (32*k) ((Bg (val a))[k]'(by omega)) (by exact top) (by omega) (by omega)
  have u:(2:Nat) ^ (32*k+b)=4294967296 ^ k*2 ^ b:=by rw[An1,Apy]
  refine⟨32*k+b,by omega,?_,fun _=>?_,fun h=>absurd h h0,fun K=>?_⟩
  ·rw[u]
   have:((Bg (val a))[k]'(by omega)+1)*4294967296 ^ k≤2 ^ b*4294967296 ^ k:=Alg _ y
   rw[Amq (2 ^ b)] at this;omega
  ·rw[u]
   have:=Amw (4294967296 ^ k) (z e)
   rw[Aoj] at this
   omega
  ·rw[EE];unfold BJ
   have C:wrap .i64 ((((Bg (val a)).length:Nat):Int) - 1)=(k:Int):=by rw[i64 (by omega)];omega
   have D:wrap .i64 ((32:Int)*(k:Int))=((32*k:Nat):Int):=by rw[i64 (by omega)];omega
   rw[Df hn q j,Ahv v,cf,C,Ac (by omega),ct,lI (by omega),D]
   exact A K
theorem uX {a:List Nat} {j:Nat} (h:j<a.length):val a=val (a.take j)+4294967296 ^ j*(a[j]+4294967296*val (a.drop (j+1))):=by
 have:=SC (a.take j) (a.drop j)
 rw[Ao1,Al0,Al2 (by omega),Ace h] at this
 exact this
theorem bC (j k:Nat):(2:Nat) ^ (32*j+k)=4294967296 ^ j*2 ^ k:=by rw[An1,Apy]
theorem Ads {a:List Nat} {j k:Nat} (b:Bi a) (h:j<a.length) (u:k<32):val a/2 ^ (32*j+k)%2=a[j]/2 ^ k%2:=by
 have tl:=Og (Ru b j)
 rw[Al0,Al2 (by omega)] at tl
 have hP:0<4294967296 ^ j:=Ao9 (by omega)
 have q:0<2 ^ k:=Ao9 (by omega)
 rw[bC,←Aow,uX h,Ao8 _ _ hP,Ann tl,Akz]
 have e:4294967296=2 ^ k*(2*2 ^ (31 - k)):=by rw[←Nat.pow_succ',←An1,show k+(31 - k+1)=32 by omega]
 have s:4294967296*val (a.drop (j+1))=2 ^ k*(2*(2 ^ (31 - k)*val (a.drop (j+1)))):=by
  rw[←And 2,←And,←e]
 rw[s,Ao8 _ _ q,Nat.add_mul_mod_self_left]
theorem z8 {N:Nat} {a:List Nat} {n:Nat} {t o:Bool} {i:Nat} {K:Int→O R} (hn:n=a.length) (s:Bi a) (hi:i<32*a.length) (hs:a.length≤1000000000):gG N (Ay a) n t o (i:Int) K=K ((val a/2 ^ i%2:Nat):Int):=by
 subst hn
 have j:i/32<a.length:=by omega
 have aj:=DB s j
 rw[cR];unfold iY
 have u:wrap .i64 (Int.tdiv (i:Int) 32)=((i/32:Nat):Int):=by rw[show(32:Int)=((32:Nat):Int) by rfl,Acc,i64 (by omega)]
 have v:wrap .u64 (Int.tmod (i:Int) 32)=((i%32:Nat):Int):=by rw[show(32:Int)=((32:Nat):Int) by rfl,Acd,xI (by omega)]
 rw[u,v,show decide (((i/32:Nat):Int)≥(a.length:Int))=false by rw[decide_eq_false_iff_not];omega,cf,Ac j,ct,Aet j,show decide (((i%32:Nat):Int)<0)=false by rw[decide_eq_false_iff_not];omega,cf,Aku,Al2 (by omega),kg]
 have q:a[i/32]/2 ^ (i%32)<4294967296:=Anu (Anr _ _) aj
 have e:=ww (k:=.u32) rfl (a:=a[i/32]/2 ^ (i%32)) (b:=1) q (by decide)
 rw[show(1:Int)=((1:Nat):Int) by rfl,e,Nat.and_one_is_mod]
 have:=Ads s j (k:=i%32) (by omega)
 rw[Am5] at this
 rw[this]
theorem Aci {Q:List Nat} {j k:Nat} (hQ:Bi Q) (h:j<Q.length) (e:k<32) (b:2 ^ (32*j+k+1)∣val Q):2 ^ (k+1)∣Q[j]:=by
 have tl:=Og (Ru hQ j)
 rw[Al0,Al2 (by omega)] at tl
 have hP:0<4294967296 ^ j:=Ao9 (by omega)
 rw[Alv,bC,uX h] at b
 have h0:val (Q.take j)=0:=by
  have x1:4294967296 ^ j∣val (Q.take j):=(Nat.dvd_add_left (Aoi _ _)).1 (Nat.dvd_trans (Aoi _ _) b)
  exact Nat.eq_zero_of_dvd_of_lt x1 tl
 rw[h0,Akz] at b
 have x2:=Nat.dvd_of_mul_dvd_mul_left hP b
 have x3:2 ^ (k+1)∣4294967296*val (Q.drop (j+1)):=Nat.dvd_trans ⟨2 ^ (31 - k),by rw[←An1,show k+1+(31 - k)=32 by omega]⟩ (Aoi _ _)
 exact(Nat.dvd_add_left x3).1 x2
theorem bD {N:Nat} {a b:List Nat} {t o:Bool} {B:Nat} (T:Bi a) (u:b=Bg B) (hB:0<B) (s:fit (a.length+2*b.length+4) N):∀ (i fuel:Nat) (Q:List Nat) (r:Nat),i<fuel→i≤32*a.length→Bi Q→Q.length=a.length→r=val a/2 ^ i%B→val Q=val a/2 ^ i/B*2 ^ i →
  ∀ K:Nat→Nat→Bool→LA→LA→O R,Ev N K (Ay a) a.length t o b.length (Ay b) fuel (Bg r).length ((i:Int) - 1) (Ay Q) (Ay (Bg r))=K (Bg (val a/B)).length (Bg (val a%B)).length true (Ay (Bg (val a/B))) (Ay (Bg (val a%B)))
 | 0,fuel+1,Q,r,_,_,hQ,D,hr,y=>by
  intro K
  rw[Nat.pow_zero,Nat.div_one] at hr y
  rw[Ak6] at y
  have lr:(Bg r).length≤b.length:=by
   rw[u];apply Do;rw[hr];exact An6 (Anl _ hB)
  rw[Ev];unfold Pf
  rw[show decide ((((0:Nat):Int) - 1)≥0)=false by rfl,cf,Ak6,Akt (by rw[C0];omega),Df D.symm hQ (by rw[D];exact s.le (by omega)),Ak6,Akt (by rw[C0];omega),Df rfl (Az _) (s.le (by omega)),Bo,y,hr]
 | i+1,fuel+1,Q,r,hfu,hi,hQ,D,hr,y=>by
  intro K
  have h1:=s.1;have h2:=s.2
  have hrB:r<B:=by rw[hr];exact Anl _ hB
  have lr:(Bg r).length≤b.length:=by rw[u];exact Do (An6 hrB)
  have q:val a/2 ^ i=2*(val a/2 ^ (i+1))+val a/2 ^ i%2:=by
   have:=Am5 (val a/2 ^ i) 2
   rw[Aow,←Alu] at this
   exact this.symm
  have U:=Am5 (val a/2 ^ (i+1)) B
  have hb2:val a/2 ^ i%2<2:=Anl _ (by omega)
  generalize hH:val a/2 ^ (i+1)=H at *
  generalize F:val a/2 ^ i%2=bt at *
  have j:val a/2 ^ i=B*(2*(H/B))+(2*r+bt):=by
   rw[q,hr,Aoj];omega
  clear hr U q
  have G:i/32<Q.length:=by omega
  have qj:=DB hQ G
  have I:2 ^ (32*(i/32)+i%32+1)∣val Q:=by rw[Am5,y];exact Nat.dvd_mul_left _ _
  have z:=Aci hQ G (Anl _ (by omega)) I
  have V:2 ^ i=4294967296 ^ (i/32)*2 ^ (i%32):=by rw[←bC,Am5]
  have L:2 ^ (i%32+1)≤4294967296:=(Anm (by omega) (show i%32+1≤32 by omega):2 ^ (i%32+1)≤2 ^ 32)
  have M:iM .u32 ((Q[i/32]:Nat):Int) (wrap .u32 ((1:Int)*2 ^ (min (Int.toNat ((i%32:Nat):Int)) 32)))=((Q[i/32]+2 ^ (i%32):Nat):Int)∧Q[i/32]+2 ^ (i%32)<4294967296:=by
   obtain⟨c,X⟩:=z
   have hpos:0<2 ^ (i%32):=Ao9 (by omega)
   have Y:Q[i/32]+2 ^ (i%32)<4294967296:=by
    obtain⟨w,hw⟩:∃ w,4294967296=2 ^ (i%32+1)*w:=⟨2 ^ (31 - i%32),by rw[←An1,show i%32+1+(31 - i%32)=32 by omega]⟩
    have x1:c<w:=by rw[X,hw] at qj;exact Nat.lt_of_mul_lt_mul_left qj
    have x2:=Amw (2 ^ (i%32+1)) (show c+1≤w from x1)
    rw[Am2,←hw,←X,Ak6,Alu] at x2
    omega
   refine⟨?_,Y⟩
   rw[Aku,Al2 (by omega),Int.one_mul,show(2:Int) ^ (i%32)=((2 ^ (i%32):Nat):Int) by simp,Ah9 (by rw[Alu] at L;omega),oe (k:=.u32) rfl qj (by show 2 ^ (i%32)<4294967296;rw[Alu] at L;omega)]
   congr 1
   have e:Q[i/32]=c*2 ^ (i%32+1):=by rw[X,Amq]
   rw[e];exact Ab9 (by rw[Alu];omega)
  have w1:wrap .i64 (Int.tdiv (i:Int) 32)=((i/32:Nat):Int):=by rw[show(32:Int)=((32:Nat):Int) by rfl,Acc,i64 (by omega)]
  have w2:wrap .u64 (Int.tmod (i:Int) 32)=((i%32:Nat):Int):=by rw[show(32:Int)=((32:Nat):Int) by rfl,Acd,xI (by omega)]
  have l2:(Bg (2*r+bt)).length≤b.length+1:=by
   apply MD
   have x1:=Og (Az B)
   rw[Bo,←u] at x1
   rw[Alu];omega
  have second:Ke N (Ev N K (Ay a) a.length t o b.length (Ay b) fuel) K (Ay a) a.length t o b.length (i:Int) (Ay b) (Ay Q) (Bg (2*r+bt)).length (Ay (Bg (2*r+bt)))=K (Bg (val a/B)).length (Bg (val a%B)).length true (Ay (Bg (val a/B))) (Ay (Bg (val a%B))):=by
   unfold Ke
   have lb:Bi b:=by rw[u];exact Az _
   have vb:val b=B:=by rw[u,Bo]
   rw[Ak6,Ak6,Akt (by rw[C0];omega),Akt (by rw[C0];omega),z7 rfl rfl (Az _) lb (s.le (by omega)),Bo,vb]
   by_cases S:B≤2*r+bt
   ·have A:val a/2 ^ i/B=2*(H/B)+1:=by
     rw[j,show B*(2*(H/B))+(2*r+bt)=B*(2*(H/B)+1)+(2*r+bt - B) by rw[Am2];omega,Nat.mul_add_div hB,Ann (show 2*r+bt - B<B by omega),Alt]
    have C:val a/2 ^ i%B=2*r+bt - B:=by
     rw[j,show B*(2*(H/B))+(2*r+bt)=B*(2*(H/B)+1)+(2*r+bt - B) by rw[Am2];omega,Nat.mul_add_mod,Al9 (by omega)]
    rw[if_pos S,ct,w1,w2,Ac (by omega),ct,lI G,show decide (((i%32:Nat):Int)<0)=false by rw[decide_eq_false_iff_not];omega,cf,ct,Ad7 G,ct,M.1,Aca,i64 (by omega)]
    refine bD T u hB s i fuel (Q.set (i/32) (Q[i/32]+2 ^ (i%32))) (2*r+bt - B) (by omega) (by omega) (a_ hQ M.2 _) (by simpa using D) C.symm ?_ K
    have x1:=rY (v:=Q[i/32]+2 ^ (i%32)) G
    rw[Am2,←V] at x1
    rw[A,Amz,Nat.one_mul,Amq 2,And,Amq 2,←Alu,←y]
    omega
   ·have A:val a/2 ^ i/B=2*(H/B):=by rw[j,Nat.mul_add_div hB,Ann (show 2*r+bt<B by omega),Alt]
    have C:val a/2 ^ i%B=2*r+bt:=by rw[j,Nat.mul_add_mod,Al9 (by omega)]
    rw[if_neg S,cf,i64 (by omega)]
    refine bD T u hB s i fuel Q (2*r+bt) (by omega) (by omega) hQ D C.symm ?_ K
    rw[A,Amq 2,And,Amq 2,←Alu,←y]
  rw[Ev];unfold Pf
  rw[show(((i+1:Nat):Int) - 1)=(i:Int) by omega,show decide ((i:Int)≥0)=true by rw[decide_eq_true_eq];omega,ct,Ak6,Akt (by rw[C0];omega),pG rfl rfl (Az _) (Az _) (s.le (by omega)),Bo,z8 rfl T (by omega) (by omega),F]
  have l3:(Bg (r+r)).length≤b.length+1:=by
   apply MD
   have x1:=Og (Az B)
   rw[Bo,←u] at x1
   rw[Alu];omega
  rcases(show bt=0∨bt=1 by omega) with rfl | rfl
  ·rw[show(((0:Nat):Int)==1)=false by rfl,cf]
   rw[show 2*r+0=r+r by omega] at second
   exact second
  ·rw[show(((1:Nat):Int)==1)=true by rfl,ct,Ak6,Akt (by rw[C0];omega)]
   have:=pG (R:=R) (N:=N) (a:=Bg (r+r)) (b:=[1]) (n:=(Bg (r+r)).length) (m:=1) (t:=false) (o:=true) (t':=false) (o':=true) (K:=fun af ag=>Ke N (Ev N K (Ay a) a.length t o b.length (Ay b) fuel) K (Ay a) a.length t o b.length (i:Int) (Ay b) (Ay Q) af ag) rfl rfl (Az _) (by intro x hx;simp at hx;omega) (s.le (by simp;omega))
   rw[Bo,show val [1]=1 by rfl,show r+r+1=2*r+1 by omega] at this
   exact this.trans second
theorem GF {N:Nat} {a b:List Nat} {n m:Nat} {t o t' o':Bool} {K:Nat→Nat→Bool→LA→LA→O R} (hn:n=a.length) (C:m=b.length) (u:Bi a) (z:Bi b) (q:val b≠0) (k:fit (a.length+2*b.length+4) N) :
  Q6 N (Ay a) n t o (Ay b) m t' o' K=K (Bg (val a/val b)).length (Bg (val a%val b)).length true (Ay (Bg (val a/val b))) (Ay (Bg (val a%val b))):=by
 have D:=k.1;have F:=k.2
 have lb:=(Gw z).2
 have v:(Bg (val b)).length≠0:=fun h=>q (Fm.1 h)
 rw[JM];unfold Ya
 dsimp only
 have long:Na N K (Ay a) n t o (Bg (val b)).length (Ay (Bg (val b)))=K (Bg (val a/val b)).length (Bg (val a%val b)).length true (Ay (Bg (val a/val b))) (Ay (Bg (val a%val b))):=by
  obtain⟨nb,n1,n2,n3,n4,n5⟩:=xK (R:=R) (N:=N) (a:=a) (n:=n) (t:=false) (o:=o) hn u (k.le (by omega))
  unfold Na Wy
  rw[n5,hn,Ajn (by omega),ct,Xu,i64 (by omega)]
  have A:val a/2 ^ nb=0:=Ann n2
  have:=bD (R:=R) (N:=N) (a:=a) (b:=Bg (val b)) (t:=t) (o:=o) (B:=val b) u rfl (by omega) (k.le (by omega)) nb N (replicate a.length 0) 0 (by omega) n1 (Ue _) (by simp) (by rw[A];simp) (by rw[A,S7];simp) K
  exact this
 rw[Df C z (k.le (by omega)),Ahv v,cf,GE hn u (k.le (by omega)),Ak6,Akt (by rw[C0];exact Akw _)]
 by_cases j:val a<18446744073709551616
 ·rw[if_pos j,GE rfl (Az _) (k.le (by omega)),Bo]
  by_cases e:val b<18446744073709551616
  ·have s:val a/val b<18446744073709551616:=Anu (Anr _ _) j
   have y:val a%val b<18446744073709551616:=Anu (Nat.mod_le _ _) j
   rw[if_pos e,show((true:Bool)==true)=true by rfl,ct,Af2,ct,Ahv q,cf,Acc,xI s,Zq s (by omega),cf,Acd,Zq y (by omega)]
  ·rw[if_neg e,show((true:Bool)==true)=true by rfl,ct,Af2,cf,long]
 ·rw[if_neg j,GE rfl (Az _) (k.le (by omega)),Bo]
  by_cases e:val b<18446744073709551616
  ·rw[if_pos e,show((false:Bool)==true)=false by rfl,cf,long]
  ·rw[if_neg e,show((false:Bool)==true)=false by rfl,cf,long]
theorem z_ {N:Nat}:∀ (k fuel A B:Nat),k<fuel→A*B<2 ^ k→B<A→fit (3*(Bg A).length+4) N→∀ K:Nat→LA→O R,Dt N K fuel (Bg A).length (Bg B).length (Ay (Bg A)) (Ay (Bg B))=K (Bg (Nat.gcd A B)).length (Ay (Bg (Nat.gcd A B))):=by
 have base:∀ (fuel A:Nat) (K:Nat→LA→O R),Dt N K (fuel+1) (Bg A).length (Bg 0).length (Ay (Bg A)) (Ay (Bg 0))=K (Bg (Nat.gcd A 0)).length (Ay (Bg (Nat.gcd A 0))):=by
  intro fuel A K
  rw[Dt];unfold Oj
  rw[Gn,show decide ((((([]:List Nat).length:Nat)):Int)>0)=false by decide,cf,Apk]
 intro k
 induction k with
 | zero =>
  intro fuel A B q b e j K
  obtain⟨fuel,rfl⟩:∃ F,fuel=F+1:=⟨fuel - 1,by omega⟩
  have s:B=0:=by
   rcases Amd B with h | h
   ·exact h
   ·have D:=Amw A (show 1≤B by omega)
    rw[Nat.pow_zero] at b;omega
  subst s
  exact base fuel A K
 | succ k u =>
  intro fuel A B q b e j K
  have G:=j.1;have I:=j.2
  obtain⟨fuel,rfl⟩:∃ F,fuel=F+1:=⟨fuel - 1,by omega⟩
  rcases Amd B with h | h
  ·subst h;exact base fuel A K
  have v:=Do (An6 e)
  have y:(Bg B).length≠0:=fun h0=>by have:=Fm.1 h0;omega
  have z:=Anl A h
  have hh:=Acf (show 1≤B by omega) (An6 e)
  have:=u fuel B (A%B) (by omega) (by rw[Alu] at b;omega) z (j.le (by omega)) K
  have C:Nat.gcd B (A%B)=Nat.gcd A B:=by rw[Ano,←Nat.gcd_rec,Ano]
  rw[C] at this
  rw[Dt];unfold Oj
  rw[show decide ((((Bg B).length:Nat):Int)>0)=true by rw[decide_eq_true_eq];omega,ct,Ak6,Ak6,Akt (by rw[C0];exact Akw _),Akt (by rw[C0];exact Akw _),GF rfl rfl (Az _) (Az _) (by rw[Bo];omega) (j.le (by omega)),Bo,Bo]
  exact this
theorem za {N:Nat} {a b:List Nat} {n m:Nat} {t o t' o':Bool} {K:Nat→LA→O R} (hn:n=a.length) (y:m=b.length) (q:Bi a) (s:Bi b) (k:fit (3*(a.length+b.length)+4) N) :
  TX N (Ay a) n t o (Ay b) m t' o' K=K (Bg (Nat.gcd (val a) (val b))).length (Ay (Bg (Nat.gcd (val a) (val b)))):=by
 have C:=k.1;have D:=k.2
 have la:=(Gw q).2
 have lb:=(Gw s).2
 have u:val a*val b<2 ^ (32*(a.length+b.length)):=by rw[←Acg];exact Nat.mul_lt_mul'' (Og q) (Og s)
 rw[cT];unfold TW
 rw[Df hn q (k.le (by omega)),Df y s (k.le (by omega))]
 obtain⟨F,hF⟩:∃ F,N=F+1:=⟨N - 1,by omega⟩
 rcases Amd (val b) with h | h
 ·rw[h,Gn,Apk,hF,Dt];unfold Oj
  rw[show decide ((((([]:List Nat).length:Nat)):Int)>0)=false by decide,cf]
 ·have v:=Anl (val a) h
  have z:(Bg (val b)).length≠0:=fun h0=>by have:=Fm.1 h0;omega
  have j:val b*(val a%val b)<2 ^ (32*(a.length+b.length)):=by
   have:val b*(val a%val b)≤val b*val a:=Amw _ (Nat.mod_le _ _)
   rw[Amq (val b) (val a)] at this;omega
  have:=z_ (R:=R) (N:=N) (32*(a.length+b.length)) F (val b) (val a%val b) (by omega) j v (k.le (by omega)) K
  have A:Nat.gcd (val b) (val a%val b)=Nat.gcd (val a) (val b):=by rw[Ano,←Nat.gcd_rec,Ano]
  rw[A] at this
  have e:Dt N K (F+1) (Bg (val a)).length (Bg (val b)).length (Ay (Bg (val a))) (Ay (Bg (val b)))=Dt N K F (Bg (val b)).length (Bg (val a%val b)).length (Ay (Bg (val b))) (Ay (Bg (val a%val b))):=by
   rw[Dt];unfold Oj
   rw[show decide ((((Bg (val b)).length:Nat):Int)>0)=true by rw[decide_eq_true_eq];omega,ct,Ak6,Ak6,Akt (by rw[C0];exact Akw _),Akt (by rw[C0];exact Akw _),GF rfl rfl (Az _) (Az _) (by rw[Bo];omega) (k.le (by omega)),Bo,Bo]
  conv=>lhs;rw[show(Dt N K N)=Dt N K (F+1) by rw[←hF]]
  rw[e];exact this
inductive LS where
 | nil
 | of (l:List Nat) (t o:Bool)
def LS.l:LS→List Nat
 | .nil=>[]
 | .of l _ _=>l
def LS.av:LS→AV
 | .nil=>.nsl
 | .of l t o=>.imm (Ay l) l.length 1 t o
theorem Acj {s:LS} {r:LA} {f:LA→Nat→O R}:Ba 1 (s.av::r) f=f (Ay s.l) s.l.length:=by
 cases s<;>simp[Ba,LS.av,LS.l,rj,Ay]
theorem Ahy {b:Bool} {r:LA} {f:Bool→O R}:SK (.bool b::r) f=f b:=by simp[SK,asBool]
def X0 (neg:Bool) (s:LS):LA:=[.bool neg,s.av]
def Et (neg:Bool) (s:LS):Int:=if neg then -(val s.l:Int) else (val s.l:Int)
theorem O7 (neg:Bool) (s:LS):(Et neg s).natAbs=val s.l:=by unfold Et;cases neg<;>simp
theorem uY {neg:Bool} {s:LS} {f:Bool→O R}:SK (X0 neg s) f=f neg:=Ahy
theorem uZ {neg:Bool} {s:LS} {f:LA→Nat→O R}:Ba 1 (drop 1 (X0 neg s)) f=f (Ay s.l) s.l.length:=by rw[X0,Alc,Ak7,Acj]
theorem zb {z:Int} {c:Bool} {m:Nat} (h:z=if c then -(m:Int) else (m:Int)):(c&&decide (0<(Bg m).length))=decide (z<0)∧z.natAbs=m:=by
 have e:z.natAbs=m:=by rw[h];cases c<;>simp
 refine⟨?_,e⟩
 by_cases h0:m=0
 ·subst h0;rw[h,Gn];cases c<;>simp
 ·have:0<(Bg m).length:=by
   rcases Amd (Bg m).length with b | b
   ·exact absurd (Fm.1 b) h0
   ·exact b
  rw[h];cases c<;>simp[this]<;>omega
theorem xL {N:Nat} {neg:Bool} {s:LS} {o:Bool} {K:Int→O R} (hs:Bi s.l) (b:fit s.l.length N):gE N (X0 neg s) o K=K (Et neg s).sign:=by
 rw[cN];unfold iO
 rw[uZ,lK rfl hs b]
 unfold Et
 by_cases h:val s.l=0
 ·rw[h,NY,show((0:Int)==0)=true by rfl,ct];cases neg<;>rfl
 ·have:GD (val s.l) 0=1:=by unfold GD;rw[if_neg (by omega),if_pos (by omega)]
  rw[this,show((1:Int)==0)=false by rfl,cf,uY]
  cases neg
  ·rw[cf];simp only[Amr,if_false]
   congr 1
   rw[Am6];omega
  ·rw[ct];simp only[if_true]
   congr 1
   rw[Am8];omega
theorem Ack (z:Int) (d:Nat) (j:d≠0):(mkRat z d).num.natAbs=z.natAbs/Nat.gcd z.natAbs d∧((mkRat z d).num<0↔z<0)∧(mkRat z d).den=d/Nat.gcd z.natAbs d:=by
 have q:0<Nat.gcd z.natAbs d:=Aol _ (by omega)
 rw[Ape,Apd,if_neg j,if_neg j,Ano d]
 have b:((Nat.gcd z.natAbs d:Nat):Int)∣z:=Int.dvd_natAbs.1 (Int.natCast_dvd_natCast.2 (Nat.gcd_dvd_left _ _))
 obtain⟨c,k⟩:=b
 have s:z.natAbs.gcd d=Nat.gcd z.natAbs d:=rfl
 generalize Nat.gcd z.natAbs d=g at *
 refine⟨?_,?_,rfl⟩
 ·rw[k,Anc _ (by omega),Int.natAbs_mul,An8,Aor _ q]
 ·rw[k,Anc _ (by omega)]
  constructor
  ·intro h;exact Int.mul_neg_of_pos_of_neg (by omega) h
  ·intro h;rcases Int.lt_or_le c 0 with e | e
   ·exact e
   ·have:=Int.mul_nonneg (show(0:Int)≤g by omega) e;omega
structure RatD where
 neg:Bool
 ns:LS
 ds:LS
def RatD.av (x:RatD):LA:=[.bool x.neg,x.ns.av,x.ds.av]
def RatD.ok (x:RatD):Prop:=Bi x.ns.l∧Bi x.ds.l
def RatD.m (x:RatD):Nat:=max x.ns.l.length x.ds.l.length
def RatD.q (x:RatD):Rat:=mkRat (Et x.neg x.ns) (val x.ds.l)
def RatD.can (x:RatD) (q:Rat):Prop:=x.neg=decide (q.num<0)∧x.ns.l=Bg q.num.natAbs∧x.ds.l=Bg q.den
def qm (q:Rat):Nat:=max (Bg q.num.natAbs).length (Bg q.den).length
theorem RatD.can.ok {x:RatD} {q:Rat} (h:x.can q):x.ok:=⟨by rw[h.2.1];exact Az _,by rw[h.2.2];exact Az _⟩
theorem RatD.can.m {x:RatD} {q:Rat} (h:x.can q):x.m=qm q:=by unfold RatD.m qm;rw[h.2.1,h.2.2]
theorem Adt {x:RatD} {f:LA→Nat→O R}:Ba 1 (drop 2 x.av) f=f (Ay x.ds.l) x.ds.l.length:=by rw[RatD.av,Alc,Alc,Ak7,Acj]
theorem Ahz (x:RatD):ble 3 (List.length x.av)=true:=rfl
theorem Aeu (x:RatD):take 3 x.av=x.av:=rfl
theorem Aev (x:RatD):take 2 x.av=X0 x.neg x.ns:=rfl
theorem Aew (n:Bool) (s:LS):((beq 0 0)&&((beq (List.length (X0 n s)) 2)&&(beq 2 2)))=true:=rfl
theorem xM (n:Bool) (s:LS):ble 2 (List.length (X0 n s))=true:=rfl
theorem Afr (n:Bool) (s:LS):take 2 (X0 n s)=X0 n s:=rfl
theorem Acl:([.int .u32 1]:LA)=Ay [1]:=rfl
theorem zc:Bi [1]:=by intro x b;simp at b;omega
theorem GG:Bg 1=[1]:=by rw[GC (by omega)];simp[Gn]
theorem Acm {v:Nat} {S:List Nat} (b:Bi S) (e:val S=v):take ((Bg v).length*1) (Ay S)=Ay (Bg v):=by rw[←e,zX b]
theorem Akr (neg:Bool) (l:List Nat) (t o:Bool):([.bool neg,.imm (Ay l) l.length 1 t o]:LA)=X0 neg (.of l t o):=rfl
theorem XZ {z:Int} {t o:Bool}:Et (decide (z<0)) (.of (Bg z.natAbs) t o)=z:=by
 unfold Et LS.l;rw[Bo]
 by_cases h:z<0
 ·rw[if_pos (by simpa using h)];omega
 ·rw[if_neg (by simpa using h)];omega
theorem SB {N:Nat} {x:RatD} {o:Bool} (e:x.ok) (k:fit x.m N):∃ (neg:Bool) (s:LS) (l:List Nat) (o1 o2:Bool),Bi s.l∧Bi l∧val l≠0∧s.l.length≤x.m∧l.length≤max x.m 1∧mkRat (Et neg s) (val l)=x.q∧∀ K:LA→Bool→LA→Nat→Bool→O R,TJ N x.av o K=K (X0 neg s) o1 (Ay l) l.length o2:=by
 have j:x.ns.l.length≤x.m:=An3 _ _
 have b:x.ds.l.length≤x.m:=Aoq _ _
 by_cases h0:val x.ds.l=0
 ·refine⟨false,.nil,[1],false,false,pA,zc,by decide,by simp[LS.l],by simp;omega,?_,fun K=>?_⟩
  ·unfold RatD.q;rw[h0];simp[Et,LS.l,val]
  ·rw[EB];unfold MW
   rw[Adt,lK rfl e.2 (k.le b),h0,NY];rfl
 ·refine⟨x.neg,x.ns,x.ds.l,o,o,e.1,e.2,h0,j,by omega,rfl,fun K=>?_⟩
  have:GD (val x.ds.l) 0=1:=by unfold GD;rw[if_neg (by omega),if_pos (by omega)]
  rw[EB];unfold MW
  rw[Adt,lK rfl e.2 (k.le b),this,show((1:Int)==0)=false by rfl,cf,show ble 2 (List.length x.av)=true by rfl,ct,Adt,Aev,Aew,ct,xM,ct,Afr]
theorem Ah0 (z:Int) (d:Nat) (b:d≠0):(mkRat z d).num.sign=z.sign:=by
 obtain⟨j,e,_⟩:=Ack z d b
 rcases Int.lt_trichotomy z 0 with h | h | h
 ·rw[Am8 h,Am8 (e.2 h)]
 ·subst h;simp
 ·have hn:¬ (mkRat z d).num<0:=fun hh=>by have:=e.1 hh;omega
  have h0:(mkRat z d).num≠0:=fun hh=>by
   have:mkRat z d=0:=Rat.num_eq_zero.1 hh
   rw[Rat.mkRat_eq_zero b] at this;omega
  rw[Am6 h,Am6 (by omega)]
theorem xN {N:Nat} {x:RatD} {o:Bool} {K:Int→O R} (e:x.ok) (b:fit x.m N):gF N x.av o K=K x.q.num.sign:=by
 obtain⟨neg,s,l,o1,o2,j,z,k,u,A,v,y⟩:=SB (R:=R) (o:=o) e b
 rw[cO];unfold iP
 rw[Ahz,ct,Aeu,y,Aew,ct,xM,ct,Afr,xL j (b.le u),←v,Ah0 _ _ k]
def Ky (z:Int):LA:=X0 (decide (z<0)) (.of (Bg z.natAbs) false false)
theorem yQ (z:Int) (K:LA→O R):(cond ((beq 0 0)&&((beq (List.length (Ky z)) 2)&&(beq 2 2))) (cond (ble 2 (List.length (Ky z))) (K (take 2 (Ky z))) none) none)=K (Ky z):=rfl
theorem Aks (z:Int):take 2 (Ky z)=Ky z:=rfl
theorem Ajp (z:Int):beq (List.length (Ky z)) 2=true:=rfl
theorem Af4 (v:Nat):take ((Bg v).length*1) (Ay (Bg v))=Ay (Bg v):=Acm (Az _) (Bo v)
theorem Rv {N:Nat} {neg:Bool} {l:List Nat} {n:Nat} {t o:Bool} {K:LA→O R} (hn:n=l.length) (b:Bi l) (e:fit l.length N):Hc N neg (Ay l) n t o K=K (Ky (if neg then -(val l:Int) else (val l:Int))):=by
 obtain⟨c1,c2⟩:=zb (z:=if neg then -(val l:Int) else (val l:Int)) (c:=neg) (m:=val l) rfl
 rw[TK];unfold ZH
 rw[Df hn b e,Af4]
 unfold Ky
 rw[←c1,c2]
 cases neg
 ·rfl
 ·rw[show((true:Bool)==true)=true by rfl,ct,Af2];simp[X0,LS.av]
theorem S8 {N:Nat} {v:Int} {K:LA→O R} (j:-9223372036854775808≤v∧v≤9223372036854775807) (hN:2000≤N):Hd N v K=K (Ky v):=by
 have b:v.natAbs<18446744073709551616:=by omega
 have k:=XY b
 rw[GX];unfold EH
 by_cases h:v<0
 ·have e:wrap .u64 (wrap .u64 (wrap .i64 ((0:Int) - wrap .i64 (v+1)))+1)=(v.natAbs:Int):=by
   rw[i64 (a:=v+1) (by omega),i64 (by omega),Adq,Adq];omega
  rw[decide_eq_true h,ct,e,Zq b (by omega),Af4,Rv rfl (Az _) ⟨by omega,by omega⟩,Bo]
  have:(if true=true then -(v.natAbs:Int) else (v.natAbs:Int))=v:=by rw[if_pos rfl];omega
  rw[this];exact yQ _ _
 ·have e:wrap .u64 v=(v.natAbs:Int):=by rw[Adq];omega
  rw[decide_eq_false h,cf,e,Zq b (by omega),Af4,Rv rfl (Az _) ⟨by omega,by omega⟩,Bo]
  have:(if false=true then -(v.natAbs:Int) else (v.natAbs:Int))=v:=by rw[if_neg (by decide)];omega
  rw[this];exact yQ _ _
theorem SF {N:Nat} {n:Bool} {s:LS} {o:Bool} {K:LA→O R} (hs:Bi s.l) (b:fit s.l.length N):BF N (X0 n s) o K=K (Ky (Et n s)):=by
 rw[TL];unfold ZI
 rw[uY,uZ,Rv rfl hs b];exact yQ _ _
theorem lM {N:Nat} {n:Bool} {s:LS} {o:Bool} {K:Int→O R} (hs:Bi s.l) (b:fit s.l.length N):BG N (X0 n s) o K=K (Et n s).sign:=by
 rw[TM];unfold ZJ
 rw[xM,ct,Afr,SF hs b,Ajp,show((true&&(true&&(!false))))=true by rfl,ct]
 have e:setCells (X0 n s) 0 (Ky (Et n s))=Ky (Et n s):=rfl
 rw[e]
 generalize Et n s=z
 unfold Ky
 rw[uY]
 rcases Int.lt_trichotomy z 0 with h | h | h
 ·rw[decide_eq_true h,ct,Am8 h]
 ·subst h;rfl
 ·rw[decide_eq_false (by omega),cf,uZ]
  have:(Bg z.natAbs).length≠0:=fun hh=>by have:=Fm.1 hh;omega
  simp only[LS.l]
  rw[Ahv this,cf,Am6 h]
theorem zd {N:Nat} {n1 n2:Bool} {s1 s2:LS} {o1 o2:Bool} {K:LA→O R} (b:Bi s1.l) (e:Bi s2.l) (j:fit (3*(s1.l.length+s2.l.length)+4) N):gH N (X0 n1 s1) o1 (X0 n2 s2) o2 K=K (Ky ((Nat.gcd (Et n1 s1).natAbs (Et n2 s2).natAbs:Nat):Int)):=by
 have k:(Bg (Nat.gcd (val s1.l) (val s2.l))).length≤s1.l.length+s2.l.length:=by
  rcases Amd (val s1.l) with h | h
  ·rw[h,Nat.gcd_zero_left];have:=(Gw e).2;omega
  ·have:=Do (Nat.gcd_le_left (val s2.l) h);have:=(Gw b).2;omega
 rw[cU];unfold ig
 rw[uZ,uZ,za rfl rfl b e j,Af4,Rv rfl (Az _) (j.le (by omega)),Bo,O7,O7];exact yQ _ _
theorem MF {N:Nat} {n1:Bool} {s1:LS} {g:Nat} {o1 o2:Bool} {K:LA→LA→Bool→O R} (j:Bi s1.l) (s:0<g) (k:g∣val s1.l) (e:fit (s1.l.length+2*(Bg g).length+4) N):Wz N (X0 n1 s1) o1 (Ky (g:Int)) o2 K=K (Ky (Et n1 s1/(g:Int))) (Ky 0) true:=by
 have b:Ky (g:Int)=X0 false (.of (Bg g) false false):=by
  unfold Ky;rw[decide_eq_false (by omega),An8]
 have hq:(Bg (val s1.l/g)).length≤s1.l.length:=Amp (Do (Anr _ _)) (Gw j).2
 rw[b,JO];unfold JN
 rw[uZ,uZ,show(LS.of (Bg g) false false).l=Bg g by rfl]
 rw[GF rfl rfl j (Az _) (by rw[Bo];omega) e,Bo,Nat.mod_eq_zero_of_dvd k,show(!true)=false by rfl,cf,uY,uY,Af4,Rv rfl (Az _) (e.le (by omega)),uY,Af4,Rv rfl (Az _) (e.le (by simp[Gn])),Bo,Bo]
 have u:(if n1=true then -((0:Nat):Int) else ((0:Nat):Int))=0:=by cases n1<;>rfl
 have e1:(if (!(n1==false))=true then -((val s1.l/g:Nat):Int) else ((val s1.l/g:Nat):Int))=Et n1 s1/(g:Int):=by
  obtain⟨c,b⟩:=k
  have v:val s1.l/g=c:=by rw[b,Aor _ s]
  rw[v];unfold Et;rw[b]
  cases n1
  ·simp;rw[Anc _ (by omega)]
  ·simp only[Bool.true_beq,Alq,if_true]
   rw[show -((g*c:Nat):Int)=(g:Int)*(-(c:Int)) by rw[Int.mul_neg];simp,Anc _ (by omega)]
 rw[u,e1]
 generalize Et n1 s1/(g:Int)=q
 have y:∀ (f:Bool→O R),SK (Ky 0) f=f false:=fun f=>uY
 rw[show((beq 0 0)&&((beq (List.length (Ky q)) 2)&&(beq 2 2)))=true by rfl,ct,show((beq 0 0)&&((beq (List.length (Ky 0)) 2)&&(beq 2 2)))=true by rfl,ct,y,cf]
 rfl
def Ac4 (q:Rat):RatD:=⟨decide (q.num<0),.of (Bg q.num.natAbs) false false,.of (Bg q.den) false false⟩
def cq (q:Rat):LA:=(Ac4 q).av
theorem yR (q:Rat):(Ac4 q).can q:=⟨rfl,rfl,rfl⟩
theorem Acn (q:Rat):(Ac4 q).ok:=(yR q).ok
theorem Aex (q:Rat):(Ac4 q).m=qm q:=(yR q).m
theorem yS (q:Rat) (K:LA→O R):(cond ((beq 0 0)&&((beq (List.length (cq q)) 3)&&(beq 3 3))) (cond (ble 3 (List.length (cq q))) (K (take 3 (cq q))) none) none)=K (cq q):=rfl
theorem Ah1 (q:Rat):ble 2 (List.length (cq q))=true:=rfl
theorem Afs (q:Rat):take 2 (cq q)=Ky q.num:=rfl
theorem Adu:cq 0=[(.bool false),(.imm [] 0 1 false false),(.imm [(.int .u32 1)] 1 1 false false)]:=by
 have e:cq 0=[.bool false,.imm (Ay (Bg 0)) (Bg 0).length 1 false false,.imm (Ay (Bg 1)) (Bg 1).length 1 false false]:=rfl
 rw[e,GG];rfl
theorem xO {N:Nat} {K:LA→O R}:TN N K=K (cq 0):=by
 rw[TO];unfold ZK
 rw[Adu]
theorem Ah2 {N:Nat} {z:Int} {o:Bool} {K:Int→O R} (b:fit (Bg z.natAbs).length N):BG N (Ky z) o K=K z.sign:=by
 have:=lM (R:=R) (N:=N) (n:=decide (z<0)) (s:=.of (Bg z.natAbs) false false) (o:=o) (K:=K) (Az _) b
 rw[XZ] at this;exact this
theorem Aco (z:Int):mkRat z 1=(z:Rat):=by
 apply Rat.ext
 ·rw[Ape,if_neg (by decide),Nat.gcd_one_left];simp
 ·rw[Apd,if_neg (by decide),Nat.gcd_one_left];simp
theorem Adv (z:Int) (w:Nat) (b:w≠0):(mkRat z w).num=z/((Nat.gcd z.natAbs w:Nat):Int)∧(mkRat z w).den=w/Nat.gcd z.natAbs w:=by
 refine⟨?_,?_⟩
 ·rw[Ape,if_neg b,Ano w]
 ·rw[Apd,if_neg b,Ano w]
theorem e9 {N:Nat} {n1 n2:Bool} {s1 s2:LS} {o1 o2:Bool} {K:LA→O R} (v:Bi s1.l) (q:Bi s2.l) (G:0≤Et n2 s2) (j:fit (4*(s1.l.length+s2.l.length)+10) N):Tc N (X0 n1 s1) o1 (X0 n2 s2) o2 K=K (cq (mkRat (Et n1 s1) (Et n2 s2).natAbs)):=by
 have k:=O7 n2 s2
 have s:=O7 n1 s1
 rw[T_];unfold MX
 rw[xM,ct,Afr,lM q (j.le (by omega))]
 by_cases h0:Et n2 s2=0
 ·rw[h0,show((0:Int).sign==0)=true by rfl,ct,xO]
  rw[show(0:Int).natAbs=0 by rfl,Rat.mkRat_zero];exact yS _ _
 ·have I:(Et n2 s2).natAbs≠0:=by omega
  have y:((Et n2 s2).sign==0)=false:=by rw[Am6 (by omega)];rfl
  rw[y,cf,ct,SF q (j.le (by omega)),show((beq 0 0)&&((beq (List.length (Ky (Et n2 s2))) 2)&&(beq 2 2)))=true by rfl,ct]
  have rb:∀ (z:Int) (f:Bool→O R),SK (Ky z) f=f (decide (z<0)):=fun z f=>uY
  have rl:∀ (z:Int) (f:LA→Nat→O R),Ba 1 (drop 1 (Ky z)) f=f (Ay (Bg z.natAbs)) (Bg z.natAbs).length:=fun z f=>uZ
  have l2:=(Gw q).2
  have l1:=(Gw v).2
  rw[rb,decide_eq_false (by omega),show((!false)==true)=true by rfl,ct,rl,Acl,Ach (a:=Bg (Et n2 s2).natAbs) (b:=[1]) (m:=1) rfl rfl (j.le (by rw[k];omega)),Af2]
  by_cases e:(Et n2 s2).natAbs=1
  ·rw[e,GG,show decide (([1]:List Nat)=[1])=true by decide,ct,xM,ct,Afr,SF v (j.le (by omega)),rl,e,GG]
   rw[Aco]
   have L:cq ((Et n1 s1:Int):Rat)=[.bool (decide (Et n1 s1<0)),.imm (Ay (Bg (Et n1 s1).natAbs)) (Bg (Et n1 s1).natAbs).length 1 false false,.imm (Ay [1]) 1 1 false false]:=by
    unfold cq Ac4 RatD.av LS.av
    rw[Rat.num_intCast,Rat.den_intCast,GG];rfl
   rw[L];rfl
  ·have A:decide (Bg (Et n2 s2).natAbs=[1])=false:=by
    rw[decide_eq_false_iff_not];intro hh
    have:=congrArg val hh
    rw[Bo] at this;simp[val] at this;omega
   rw[A,cf]
   unfold Yb
   have u:0<Nat.gcd (Et n1 s1).natAbs (Et n2 s2).natAbs:=Aol _ (by omega)
   have M:(Bg (Nat.gcd (Et n1 s1).natAbs (Et n2 s2).natAbs)).length≤s2.l.length:=Amp (Do (Nat.gcd_le_right _ (by omega))) (by rw[k];exact l2)
   have C:Nat.gcd (Et n1 s1).natAbs (Et n2 s2).natAbs∣val s1.l:=by rw[←s];exact Nat.gcd_dvd_left _ _
   have D:Nat.gcd (Et n1 s1).natAbs (Et n2 s2).natAbs∣val s2.l:=by rw[←k];exact Nat.gcd_dvd_right _ _
   obtain⟨S,T⟩:=Adv (Et n1 s1) (Et n2 s2).natAbs I
   rw[xM,ct,xM,ct,Afr,Afr,zd v q (j.le (by omega))]
   generalize U:Nat.gcd (Et n1 s1).natAbs (Et n2 s2).natAbs=g at *
   rw[show((beq 0 0)&&((beq (List.length (Ky (g:Int))) 2)&&(beq 2 2)))=true by rfl,ct,ct,show ble 2 (List.length (Ky (g:Int)))=true by rfl,ct,Aks,MF v u C (j.le (by omega))]
   rw[show ∀ z:Int,((beq 0 0)&&((beq (List.length (Ky z)) 2)&&(beq 2 2)))=true from fun z=>rfl,ct,show((beq 0 0)&&((beq (List.length (Ky 0)) 2)&&(beq 2 2)))=true by rfl,ct,ct,MF q u D (j.le (by omega))]
   have F:Et n2 s2/(g:Int)=(((Et n2 s2).natAbs/g:Nat):Int):=by
    rw[show Et n2 s2=(((Et n2 s2).natAbs:Nat):Int) by omega];rfl
   rw[show ∀ z:Int,((beq 0 0)&&((beq (List.length (Ky z)) 2)&&(beq 2 2)))=true from fun z=>rfl,ct,ct,rb,F,decide_eq_false (by omega),cf,show ∀ z:Int,ble 2 (List.length (Ky z))=true from fun z=>rfl,ct,rl,An8,←T]
   rw[←S];rfl
theorem Aey {N:Nat} {z w:Int} {o o':Bool} {K:LA→O R} (b:0≤w) (e:fit (4*((Bg z.natAbs).length+(Bg w.natAbs).length)+10) N):Tc N (Ky z) o (Ky w) o' K=K (cq (mkRat z w.natAbs)):=by
 have:=e9 (R:=R) (N:=N) (n1:=decide (z<0)) (s1:=.of (Bg z.natAbs) false false) (n2:=decide (w<0)) (s2:=.of (Bg w.natAbs) false false) (o1:=o) (o2:=o') (K:=K) (Az _) (Az _) (by rw[XZ];exact b) e
 rw[XZ,XZ] at this;exact this
theorem u5 {N:Nat} {x:RatD} {o:Bool} {K:LA→O R} (b:x.ok) (e:fit (8*x.m+10) N):T' N x.av o K=K (cq x.q):=by
 have m1:x.ns.l.length≤x.m:=An3 _ _
 have m2:x.ds.l.length≤x.m:=Aoq _ _
 rw[UA];unfold ZP
 rw[show ble 2 (List.length x.av)=true by rfl,ct,Adt,Aev,Akr,e9 (s2:=.of x.ds.l false o) b.1 b.2 (by unfold Et;simp) (e.le (show 4*(x.ns.l.length+x.ds.l.length)+10≤_ by omega))]
 have:mkRat (Et x.neg x.ns) (Et false (.of x.ds.l false o)).natAbs=x.q:=by rw[O7];rfl
 rw[this];exact yS _ _
theorem Aez (x:RatD) (b:x.ok):qm x.q≤x.m+1:=by
 have m1:x.ns.l.length≤x.m:=An3 _ _
 have m2:x.ds.l.length≤x.m:=Aoq _ _
 unfold qm
 by_cases h:val x.ds.l=0
 ·have:x.q=0:=by unfold RatD.q;rw[h,Rat.mkRat_zero]
  rw[this,Rat.zero_num,Rat.zero_den,GG];simp[Gn]
 ·obtain⟨a1,_,a3⟩:=Ack (Et x.neg x.ns) (val x.ds.l) h
  have e:x.q.num.natAbs≤val x.ns.l:=by show(mkRat _ _).num.natAbs≤_;rw[a1,O7];exact Anr _ _
  have j:x.q.den≤val x.ds.l:=by show(mkRat _ _).den≤_;rw[a3];exact Anr _ _
  have c1:=Amp (Do e) (Gw b.1).2
  have c2:=Amp (Do j) (Gw b.2).2
  omega
theorem u6 {N:Nat} {x:RatD} {o:Bool} {K:Int→O R} (b:x.ok) (e:fit (8*x.m+10) N):JP N x.av o K=K x.q.num.sign:=by
 have hq:=Aez x b
 have j:(Bg x.q.num.natAbs).length≤qm x.q:=An3 _ _
 rw[UB];unfold ZQ
 rw[Ahz,ct,Aeu,u5 b e,Ah1,ct,Afs,Ah2 (e.le (show(Bg x.q.num.natAbs).length≤_ by omega))]
theorem lN {N:Nat} {v:Int} {K:LA→O R} (b:-9223372036854775808≤v∧v≤9223372036854775807) (hN:4000≤N):Yc N v K=K (cq (v:Rat)):=by
 have e:=XY (show v.natAbs<18446744073709551616 by omega)
 rw[GY];unfold EI
 rw[S8 b (by omega),S8 (by omega) (by omega),Aey (by omega) ⟨show 100*(4*((Bg v.natAbs).length+(Bg (1:Int).natAbs).length)+10)+1000≤N by (rw[show(1:Int).natAbs=1 by rfl,GG];simp;omega),show 4*((Bg v.natAbs).length+(Bg (1:Int).natAbs).length)+10≤1000000000 by (rw[show(1:Int).natAbs=1 by rfl,GG];simp;omega)⟩]
 have:mkRat v (1:Int).natAbs=(v:Rat):=Aco v
 rw[this];exact yS _ _
theorem u7 {N:Nat} {v w:Int} {K:LA→O R} (b:-9223372036854775808≤v∧v≤9223372036854775807) (j:0≤w∧w≤9223372036854775807) (hN:4000≤N):ik N v w K=K (cq (mkRat v w.natAbs)):=by
 have k:=XY (show v.natAbs<18446744073709551616 by omega)
 have e:=XY (show w.natAbs<18446744073709551616 by omega)
 rw[io];unfold qU
 rw[S8 b (by omega),S8 (by omega) (by omega),Aey (by omega) ⟨show 100*(4*((Bg v.natAbs).length+(Bg w.natAbs).length)+10)+1000≤N by omega,show 4*((Bg v.natAbs).length+(Bg w.natAbs).length)+10≤1000000000 by omega⟩]
 exact yS _ _
end
end Gx
