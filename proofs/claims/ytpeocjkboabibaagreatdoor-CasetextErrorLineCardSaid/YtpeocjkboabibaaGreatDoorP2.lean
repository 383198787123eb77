/- A part of the proof; each theorem says what it holds. -/
import Derived.Shelf.Strings.Repeat
import Derived.Shelf.Strings.Split
import Derived.Shelf.Strings.Cut
import Derived.Shelf.Strconv.AtoiAll
import Derived.Shelf.Strconv.Itoa3
import Derived.Shelf.LaysM
import Derived.Shelf.LaysC
import Derived.Lib.RepeatB
import Derived.OwnWalk
import Derived.OneCell
import Derived.Laws.OwnMore
import Derived.Laws.AppendOwnNone
import Derived.Test.YtpeocjkboabibaaGreatDoorP1
set_option linter.unusedVariables false
set_option linter.defProp false
set_option linter.unusedSimpArgs false
open Nat (ble beq)
open List (take drop replicate)
open Go.IntKind (wrap)
namespace Gx.Cf
open Go Go.Proofs
section
variable{R:Type}
def FN(a:SegD):a.av.length=2:=rfl
def Rv(a:MoveD):a.av.length=3:=rfl
def ff(s:SegD):Bool:=F5 1 1048576 s.width&&F5 (-1048576) 1048576 s.price
def dG(a:Int):List SegD->Int
|[]=>a
|s::r=>dG (wrap .i64 (a+s.width)) r
def dH:List SegD->Bool
|a::b::r=>decide (b.price>=a.price)&&dH (b::r)
|_=>true
def OV(a b:SegD)(r:List SegD):dH (a::b::r)=(decide (b.price>=a.price)&&dH (b::r)):=by rw[dH]
def qL(a:SegD):dH [a]=true:=by rw[dH];intros;simp_all
def zI:dH []=true:=by rw[dH];intros;simp_all
def Ajr(u:UnitD)(j:Nat)(p:Lc):Lc :=
 let p:=nd p (decide ((u.segs.l.length:Int)<=8)) (3,j,4) e8
 let p:=nd p (u.segs.l.all ff) (3,j,4) e3
 let p:=nd p (dH u.segs.l) (3,j,4) Aoy
 nd p (dG 0 u.segs.l==wrap .i64 (u.max - u.min)) (3,j,4) e4
def jN{u:UnitD}{f:LA->Nat->O R}:By 2 (drop 4 u.av) f=f (u.segs.l.flatMap SegD.av) u.segs.l.length:=by simp[UnitD.av,Dw]
def Aob{u:UnitD}{f:Int->O R}:Bf .i64 (drop 3 u.av) f=f u.max:=by simp[UnitD.av,Cx]
def Aoc{u:UnitD}{f:Int->O R}:Bf .i64 (drop 2 u.av) f=f u.min:=by simp[UnitD.av,Cx]
def uC{l:List SegD}{j:Nat}(h:j<l.length){f:Int->O R}:Bf .i64 (drop 1 (drop ((Int.toNat (j:Int))*2) (l.flatMap SegD.av))) f=f l[j].price:=by rw[Auf,Bm FN _ _ h];simp[SegD.av,Cx]
def Ags{l:List SegD}{j:Nat}(h:j<l.length){f:Int->O R}:Bf .i64 (drop ((Int.toNat (j:Int))*2) (l.flatMap SegD.av)) f=f l[j].width:=by rw[Auf,Bm FN _ _ h];simp[SegD.av,Cx]
def zJ(c:CaseD)(j:Nat)(u:UnitD)(p:Lc):Lc :=
 let p:=fe ((c.units.l.map (·.name)).take j) 3 j u.name p
 let p:=nd p (kz c u.bus) (3,j,1) Agr
 let p:=nd p (F5 0 1048576 u.min) (3,j,2) e3
 let p:=nd p (F5 u.min 1048576 u.max) (3,j,3) e3
 let p:=Ajr u j p
 let p:=nd p (F5 0 1048576 u.noLoad) (3,j,5) e3
 let p:=nd p (F5 0 1048576 u.rampUp) (3,j,6) e3
 let p:=nd p (F5 0 1048576 u.rampDown) (3,j,7) e3
 let p:=nd p (F5 u.min u.max u.startRamp) (3,j,8) e3
 let p:=nd p (F5 u.min u.max u.stopRamp) (3,j,9) e3
 let p:=nd p (F5 0 24 u.upTime) (3,j,10) e3
 let p:=nd p (F5 0 24 u.downTime) (3,j,11) e3
 let p:=nd p (F5 0 24 u.startTime) (3,j,12) e3
 let p:=nd p (F5 0 1048576 u.hotCost) (3,j,13) e3
 let p:=nd p (F5 0 1048576 u.coldCost) (3,j,14) e3
 let p:=nd p (F5 0 24 u.hotHours) (3,j,15) e3
 let p:=nd p (F5 0 1048576 u.reserve) (3,j,16) e3
 let p:=nd p (F5 0 1048576 u.reservePrice) (3,j,17) e3
 let p:=p_ c.hours u.away.l (3,j,18) p
 let p:=nd p (F5 0 2 u.state) (3,j,19) Agr
 let p:=nd p (u.state != 1||u.startTime != 0) (3,j,19) Aq6
 let p:=nd p (F5 1 48 u.hours) (3,j,20) e3
 let p:=nd p (u.state != 1||decide (u.hours<=u.startTime)) (3,j,20) e3
 cond (u.state==2) (nd p (F5 u.min u.max u.output) (3,j,21) e3) (nd p (F5 0 0 u.output) (3,j,21) e3)
def Amr(c:CaseD)(m:MoveD):Bool:=decide (0<=m.unit)&&decide (m.unit<(c.units.l.length:Int))
def zK(m:MoveD):Bool:=F5 0 1048576 m.up&&F5 0 1048576 m.down
def Acf(c:CaseD)(o:OutD)(j:Nat)(p:Lc):Lc :=
 let p:=nd p ((o.moves.l.length:Int)==0||o.corr) (6,j,3) Aq6
 let p:=nd p (decide ((o.moves.l.length:Int)<=16)) (6,j,3) e8
 let p:=nd p (o.moves.l.all (Amr c)) (6,j,3) Agr
 let p:=nd p (ro (o.moves.l.map (·.unit))) (6,j,3) Aoy
 nd p (o.moves.l.all zK) (6,j,3) e3
def Aet{u:OutD}{f:LA->Nat->O R}:By 3 (drop 3 u.av) f=f (u.moves.l.flatMap MoveD.av) u.moves.l.length:=by simp[OutD.av,Dw]
def Aoz{u:OutD}{f:Bool->O R}:HF (drop 2 u.av) f=f u.corr:=by simp[OutD.av,Aje]
def Agt(c:CaseD)(j:Nat)(x:OutD)(p:Lc):Lc :=
 let p:=fe ((c.outs.l.map (·.name)).take j) 6 j x.name p
 let p:=nd p ((x.lines.l.length:Int)==1||(x.lines.l.length:Int)==2) (6,j,1) e4
 let p:=nd p (x.lines.l.all fun n=>decide (0<=n)&&decide (n<(c.lines.l.length:Int))) (6,j,1) Agr
 let p:=nd p (ro x.lines.l) (6,j,1) Aoy
 Acf c x j p
def jO{c:CaseD}{j:Nat}{x:OutD}{y:(Int×Int×Int)×{e:Int // e≠0}}:Agt c j x (some y)=some y:=rfl
def Ams{u:OutD}{f:LA->Nat->O R}:By 1 (drop 1 u.av) f=f (A0 u.lines.l) u.lines.l.length:=by simp[OutD.av,Dw,Co]
def A9(l:List Lu):LA:=l.map fun s=>.str s
def Ut(l:List Lu):(A9 l).length=l.length:=by simp[A9]
def Ke{l:List Lu}{i:Nat}(h:i<l.length){f:Lu->O R}:Mj (drop i (A9 l)) f=f l[i]:=by rw[A9,Au6 (by simpa using h)];simp[EP]
def Dn{c:CaseD}:take 8 c.av=c.av:=rfl
def Hr{c:CaseD}:ble 8 (List.length c.av)=true:=rfl
def L_{N:Nat}{c:CaseD}{o:Bool}{K:Nat->LA->O R}(n:c.buses.l.length<=1000000):∀(m j fuel:Nat),j+m=c.buses.l.length->m<fuel ->
  Gy N K o c.av fuel j (j:Int) (A9 ((c.buses.l.take j).map (·.name)))=K c.buses.l.length (A9 (c.buses.l.map (·.name)))
|0,j,fuel+1,q,_=>by
  rw[Gy];unfold Oz
  have d:j=c.buses.l.length:=by omega
  rw[Fa,Jr (by omega),cf,Aue (by omega),d]
| m+1,j,fuel+1,q,v=>by
  rw[Gy];unfold Oz
  have h:j<c.buses.l.length:=by omega
  have s:(ble (j+1) 140737488355328&&ble ((j+1)*16) 140737488355328)=true:=by rw[F4,F4];simp;omega
  have t:take (j*1) (A9 ((c.buses.l.take j).map (·.name)))++[.str c.buses.l[j].name]=A9 ((c.buses.l.take (j+1)).map (·.name)):=by
   rw[Aue (by simp[Ut];omega),Au4 h,Au9];simp[A9]
  have u:∀ f:Lu->O R,Mj (drop (j*3) (List.flatMap BusD.av c.buses.l)) f=f c.buses.l[j].name:=fun f=>by rw[Bm Qu _ _ h];simp[BusD.av,EP]
  rw[Fa,Ig h,ct,Fa,Ab h,ct,Auf,u,s,ct,t,F8 (by omega),L_ n m (j+1) fuel (by omega) (by omega)]
def ID{N:Nat}{c:CaseD}{o:Bool}{K:Nat->LA->O R}(hs:Small c N):Gf N c.av o 1 K=K (c.buses.l.map (·.name)).length (A9 (c.buses.l.map (·.name))):=by
 rw[Ic];unfold Ld
 have:=L_ (R:=R) (N:=N) (c:=c) (o:=o) (K:=K) hs.top.1 c.buses.l.length 0 N (by omega) hs.bus.1
 simpa[A9]using this
def MA{N:Nat}{c:CaseD}{o:Bool}{K:Nat->LA->O R}(n:c.lines.l.length<=1000000):∀(m j fuel:Nat),j+m=c.lines.l.length->m<fuel ->
  Gz N K o c.av fuel j (j:Int) (A9 ((c.lines.l.take j).map (·.name)))=K c.lines.l.length (A9 (c.lines.l.map (·.name)))
|0,j,fuel+1,q,_=>by
  rw[Gz];unfold O0
  have d:j=c.lines.l.length:=by omega
  rw[G9,Jr (by omega),cf,Aue (by omega),d]
| m+1,j,fuel+1,q,v=>by
  rw[Gz];unfold O0
  have h:j<c.lines.l.length:=by omega
  have s:(ble (j+1) 140737488355328&&ble ((j+1)*16) 140737488355328)=true:=by rw[F4,F4];simp;omega
  have t:take (j*1) (A9 ((c.lines.l.take j).map (·.name)))++[.str c.lines.l[j].name]=A9 ((c.lines.l.take (j+1)).map (·.name)):=by
   rw[Aue (by simp[Ut];omega),Au4 h,Au9];simp[A9]
  have u:∀ f:Lu->O R,Mj (drop (j*12) (List.flatMap LineD.av c.lines.l)) f=f c.lines.l[j].name:=fun f=>by rw[Bm Fy _ _ h];simp[LineD.av,EP]
  rw[G9,Ig h,ct,G9,Ab h,ct,Auf,u,s,ct,t,F8 (by omega),MA n m (j+1) fuel (by omega) (by omega)]
def Zw{N:Nat}{c:CaseD}{o:Bool}{K:Nat->LA->O R}(hs:Small c N):Gf N c.av o 2 K=K (c.lines.l.map (·.name)).length (A9 (c.lines.l.map (·.name))):=by
 rw[Ic];unfold Ld
 have:=MA (R:=R) (N:=N) (c:=c) (o:=o) (K:=K) hs.top.2.1 c.lines.l.length 0 N (by omega) hs.lin.1
 simpa[A9]using this
def MB{N:Nat}{c:CaseD}{o:Bool}{K:Nat->LA->O R}(n:c.units.l.length<=1000000):∀(m j fuel:Nat),j+m=c.units.l.length->m<fuel ->
  G0 N K o c.av fuel j (j:Int) (A9 ((c.units.l.take j).map (·.name)))=K c.units.l.length (A9 (c.units.l.map (·.name)))
|0,j,fuel+1,q,_=>by
  rw[G0];unfold O1
  have d:j=c.units.l.length:=by omega
  rw[Kb,Jr (by omega),cf,Aue (by omega),d]
| m+1,j,fuel+1,q,v=>by
  rw[G0];unfold O1
  have h:j<c.units.l.length:=by omega
  have s:(ble (j+1) 140737488355328&&ble ((j+1)*16) 140737488355328)=true:=by rw[F4,F4];simp;omega
  have t:take (j*1) (A9 ((c.units.l.take j).map (·.name)))++[.str c.units.l[j].name]=A9 ((c.units.l.take (j+1)).map (·.name)):=by
   rw[Aue (by simp[Ut];omega),Au4 h,Au9];simp[A9]
  have u:∀ f:Lu->O R,Mj (drop (j*22) (List.flatMap UnitD.av c.units.l)) f=f c.units.l[j].name:=fun f=>by rw[Bm Jy _ _ h];simp[UnitD.av,EP]
  rw[Kb,Ig h,ct,Kb,Ab h,ct,Auf,u,s,ct,t,F8 (by omega),MB n m (j+1) fuel (by omega) (by omega)]
def Zx{N:Nat}{c:CaseD}{o:Bool}{K:Nat->LA->O R}(hs:Small c N):Gf N c.av o 3 K=K (c.units.l.map (·.name)).length (A9 (c.units.l.map (·.name))):=by
 rw[Ic];unfold Ld
 have:=MB (R:=R) (N:=N) (c:=c) (o:=o) (K:=K) hs.top.2.2.1 c.units.l.length 0 N (by omega) hs.uni.1
 simpa[A9]using this
def IE{N:Nat}{c:CaseD}{o:Bool}{K:Nat->LA->O R}(n:c.stores.l.length<=1000000):∀(m j fuel:Nat),j+m=c.stores.l.length->m<fuel ->
  G1 N K o c.av fuel j (j:Int) (A9 ((c.stores.l.take j).map (·.name)))=K c.stores.l.length (A9 (c.stores.l.map (·.name)))
|0,j,fuel+1,q,_=>by
  rw[G1];unfold O2
  have d:j=c.stores.l.length:=by omega
  rw[Mq,Jr (by omega),cf,Aue (by omega),d]
| m+1,j,fuel+1,q,v=>by
  rw[G1];unfold O2
  have h:j<c.stores.l.length:=by omega
  have s:(ble (j+1) 140737488355328&&ble ((j+1)*16) 140737488355328)=true:=by rw[F4,F4];simp;omega
  have t:take (j*1) (A9 ((c.stores.l.take j).map (·.name)))++[.str c.stores.l[j].name]=A9 ((c.stores.l.take (j+1)).map (·.name)):=by
   rw[Aue (by simp[Ut];omega),Au4 h,Au9];simp[A9]
  have u:∀ f:Lu->O R,Mj (drop (j*9) (List.flatMap StoreD.av c.stores.l)) f=f c.stores.l[j].name:=fun f=>by rw[Bm Lk _ _ h];simp[StoreD.av,EP]
  rw[Mq,Ig h,ct,Mq,Ab h,ct,Auf,u,s,ct,t,F8 (by omega),IE n m (j+1) fuel (by omega) (by omega)]
def Vn{N:Nat}{c:CaseD}{o:Bool}{K:Nat->LA->O R}(hs:Small c N):Gf N c.av o 4 K=K (c.stores.l.map (·.name)).length (A9 (c.stores.l.map (·.name))):=by
 rw[Ic];unfold Ld
 have:=IE (R:=R) (N:=N) (c:=c) (o:=o) (K:=K) hs.top.2.2.2.1 c.stores.l.length 0 N (by omega) hs.sto.1
 simpa[A9]using this
def RO{N:Nat}{c:CaseD}{o:Bool}{K:Nat->LA->O R}(n:c.ties.l.length<=1000000):∀(m j fuel:Nat),j+m=c.ties.l.length->m<fuel ->
  G2 N K o c.av fuel j (j:Int) (A9 ((c.ties.l.take j).map (·.name)))=K c.ties.l.length (A9 (c.ties.l.map (·.name)))
|0,j,fuel+1,q,_=>by
  rw[G2];unfold O3
  have d:j=c.ties.l.length:=by omega
  rw[To,Jr (by omega),cf,Aue (by omega),d]
| m+1,j,fuel+1,q,v=>by
  rw[G2];unfold O3
  have h:j<c.ties.l.length:=by omega
  have s:(ble (j+1) 140737488355328&&ble ((j+1)*16) 140737488355328)=true:=by rw[F4,F4];simp;omega
  have t:take (j*1) (A9 ((c.ties.l.take j).map (·.name)))++[.str c.ties.l[j].name]=A9 ((c.ties.l.take (j+1)).map (·.name)):=by
   rw[Aue (by simp[Ut];omega),Au4 h,Au9];simp[A9]
  have u:∀ f:Lu->O R,Mj (drop (j*5) (List.flatMap TieD.av c.ties.l)) f=f c.ties.l[j].name:=fun f=>by rw[Bm Ol _ _ h];simp[TieD.av,EP]
  rw[To,Ig h,ct,To,Ab h,ct,Auf,u,s,ct,t,F8 (by omega),RO n m (j+1) fuel (by omega) (by omega)]
def FO{N:Nat}{c:CaseD}{o:Bool}{K:Nat->LA->O R}(hs:Small c N):Gf N c.av o 5 K=K (c.ties.l.map (·.name)).length (A9 (c.ties.l.map (·.name))):=by
 rw[Ic];unfold Ld
 have:=RO (R:=R) (N:=N) (c:=c) (o:=o) (K:=K) hs.top.2.2.2.2.1 c.ties.l.length 0 N (by omega) hs.tie.1
 simpa[A9]using this
def RP{N:Nat}{c:CaseD}{o:Bool}{K:Nat->LA->O R}(n:c.outs.l.length<=1000000):∀(m j fuel:Nat),j+m=c.outs.l.length->m<fuel ->
  G3 N K o c.av fuel j (j:Int) (A9 ((c.outs.l.take j).map (·.name)))=K c.outs.l.length (A9 (c.outs.l.map (·.name)))
|0,j,fuel+1,q,_=>by
  rw[G3];unfold O4
  have d:j=c.outs.l.length:=by omega
  rw[Ni,Jr (by omega),cf,Aue (by omega),d]
| m+1,j,fuel+1,q,v=>by
  rw[G3];unfold O4
  have h:j<c.outs.l.length:=by omega
  have s:(ble (j+1) 140737488355328&&ble ((j+1)*16) 140737488355328)=true:=by rw[F4,F4];simp;omega
  have t:take (j*1) (A9 ((c.outs.l.take j).map (·.name)))++[.str c.outs.l[j].name]=A9 ((c.outs.l.take (j+1)).map (·.name)):=by
   rw[Aue (by simp[Ut];omega),Au4 h,Au9];simp[A9]
  have u:∀ f:Lu->O R,Mj (drop (j*4) (List.flatMap OutD.av c.outs.l)) f=f c.outs.l[j].name:=fun f=>by rw[Bm Ms _ _ h];simp[OutD.av,EP]
  rw[Ni,Ig h,ct,Ni,Ab h,ct,Auf,u,s,ct,t,F8 (by omega),RP n m (j+1) fuel (by omega) (by omega)]
def FP{N:Nat}{c:CaseD}{o:Bool}{K:Nat->LA->O R}(hs:Small c N):Gf N c.av o 6 K=K (c.outs.l.map (·.name)).length (A9 (c.outs.l.map (·.name))):=by
 rw[Ic];unfold Ld
 have:=RP (R:=R) (N:=N) (c:=c) (o:=o) (K:=K) hs.top.2.2.2.2.2 c.outs.l.length 0 N (by omega) hs.out.1
 simpa[A9]using this
def Wr{N:Nat}{L:List Lu}{k:Int}{n:Nat}{K:LA->O R}(hn:n<L.length)(hs:n<4611686018427387904):∀(m j fuel:Nat)(p:Lc),j+m=n->m<fuel ->
  Eb N K k (n:Int) L.length (A9 L) fuel (j:Int) (Ds p)=K (Ds (nd p (((L.take n).drop j).all fun x=>!(x==L[n])) (k,n,0) ⟨10,by decide⟩))
|0,j,fuel+1,p,d,_=>by
  rw[Eb];unfold J9
  rw[Jr (by omega),cf,R9 (l:=L.take n) (by simp;omega),Awa,NP]
|m+1,j,fuel+1,p,d,q=>by
  rw[Eb];unfold J9
  have h:j<L.length:=by omega
  have f:j<(L.take n).length:=by simp;omega
  rw[Ig (by omega),ct,Ab h,ct,Auf,Aux,Auz,Ke h,Ab hn,ct,Auf,Aux,Auz,Ke hn,Ac (by decide),F8 (by omega),Wr hn hs m (j+1) fuel _ (by omega) (by omega),Mp f,Au5,ye]
  have e:(L.take n)[j]=L[j]:=by simp
  rw[e]
def Ei{N:Nat}{c:CaseD}{L:List Lu}{o:Bool}{p:Lc}{k:Int}{n:Nat}{K:LA->O R}(hN:64<=N)(hL:∀ K:Nat->LA->O R,Gf N c.av o k K=K L.length (A9 L))(hn:n<L.length)(hs:T9 n N):
  Dd N c.av o k (n:Int) (Ds p) K=K (Ds (fe (L.take n) k n L[n] p)):=by
 rw[Zo];unfold Pl
 rw[Dn,Hr,ct,hL,Ab hn,ct,Auf,Aux,Auz,Ke hn,aO hN,Ac (by decide)]
 have:=Wr (R:=R) (N:=N) (L:=L) (k:=k) (n:=n) (K:=K) hn hs.2 n 0 N (nd p (A7 L[n]) (k,n,0) ⟨9,by decide⟩) (by omega) hs.1
 simpa[fe]using this
def OW {N fuel:Nat} {c:CaseD} {o:Bool} {p:Lc} {K:LA->O R} (hs:Small c N):Bs N K o c.av (fuel+6) 2 (Ds p)=K (Ds
  (nd (nd (nd (nd (nd p (decide ((c.lines.l.length:Int)<=64)) (0,0,3) e8) (decide ((c.units.l.length:Int)<=16)) (0,0,4) e8) (decide ((c.stores.l.length:Int)<=8)) (0,0,5) e8) (decide ((c.ties.l.length:Int)<=8)) (0,0,6) e8) (decide ((c.outs.l.length:Int)<=64)) (0,0,7) e8)):=by
 have most:∀(k:Nat)(n:Int)(K:Int->O R),k<7->([0,32,64,16,8,8,64]:List Int)[k]?=some n->Qh N (k:Int) K=K n:=by
  intro k n K d f
  rw[NS];unfold XK
  rw[Ab d,ct]
  have e:[.int .i64 (0:Int),.int .i64 (32:Int),.int .i64 (64:Int),.int .i64 (16:Int),.int .i64 (8:Int),.int .i64 (8:Int),.int .i64 (64:Int)]=A0 [0,32,64,16,8,8,64]:=rfl
  rw[e,Auf,Aux,Auz,pF (by simpa using d)]
  rw[Aug (by simpa using d)]at f
  simp only[Awf]at f
  rw[f]
 have m2:∀ K:Int->O R,Qh N 2 K=K 64:=fun K=>most 2 64 K (by omega) rfl
 have m3:∀ K:Int->O R,Qh N 3 K=K 16:=fun K=>most 3 16 K (by omega) rfl
 have m4:∀ K:Int->O R,Qh N 4 K=K 8:=fun K=>most 4 8 K (by omega) rfl
 have m5:∀ K:Int->O R,Qh N 5 K=K 8:=fun K=>most 5 8 K (by omega) rfl
 have m6:∀ K:Int->O R,Qh N 6 K=K 64:=fun K=>most 6 64 K (by omega) rfl
 have w2:wrap .i64 (2+1)=3:=rfl
 have w3:wrap .i64 (3+1)=4:=rfl
 have q:wrap .i64 (4+1)=5:=rfl
 have s:wrap .i64 (5+1)=6:=rfl
 have t:wrap .i64 (6+1)=7:=rfl
 rw[Bs];unfold Cu
 rw[show decide ((2:Int)<=6)=true from rfl,ct,Hr,ct,Dn,Zw hs,m2,Ac (by decide),w2]
 rw[Bs];unfold Cu
 rw[show decide ((3:Int)<=6)=true from rfl,ct,Hr,ct,Dn,Zx hs,m3,Ac (by decide),w3]
 rw[Bs];unfold Cu
 rw[show decide ((4:Int)<=6)=true from rfl,ct,Hr,ct,Dn,Vn hs,m4,Ac (by decide),q]
 rw[Bs];unfold Cu
 rw[show decide ((5:Int)<=6)=true from rfl,ct,Hr,ct,Dn,FO hs,m5,Ac (by decide),s]
 rw[Bs];unfold Cu
 rw[show decide ((6:Int)<=6)=true from rfl,ct,Hr,ct,Dn,FP hs,m6,Ac (by decide),t]
 rw[Bs];unfold Cu
 rw[show decide ((7:Int)<=6)=false from rfl,cf]
 simp only[Auc]
def OX{N:Nat}{c:CaseD}{o:Bool}{p:Lc}{K:LA->O R}(hs:Small c N):J8 N c.av o (Ds p) K=K (Ds (Ace c p)):=by
 have hN:=hs.n64
 rw[Wm];unfold Nc
 have:=fun p=>OW (fuel:=N - 6) (o:=o) (p:=p) (K:=K) hs
 rw[show N - 6+6=N by omega]at this
 simp only[Ka,Ep (show 8<=N by omega),Ac (show(3:Int)≠0 by decide),Ac (show(8:Int)≠0 by decide),Hr,ct,Dn,cV,Fa,Fb rfl hs.res,this]
 rfl
end
end Gx.Cf
namespace Go.Proofs
open Go.Shelf Go.RowKit
open Go.RowKit
def Tryz.laysC172_ren : Go.Shelf.Ren := ⟨fun|172 => 166|244 => 198|245 => 199|247 => 220|279 => 221|280 => 222|281 => 223|282 => 224|287 => 238|316 => 239|171 => 129|205 => 240|321 => 250|322 => 251|243 => 141|246 => 158|283 => 186|284 => 187|285 => 188|286 => 189|129 => 214|317 => 213|318 => 215|319 => 216|320 => 217|337 => 236|338 => 237|n => n, fun|9 => 9|3 => 3|75 => 213|76 => 214|4 => 4|5 => 5|167 => 258|37 => 23|0 => 0|85 => 259|2 => 2|168 => 261|53 => 98|175 => 280|46 => 180|210 => 284|127 => 293|145 => 299|143 => 297|21 => 21|171 => 239|173 => 242|212 => 254|51 => 185|20 => 20|213 => 255|232 => 294|233 => 295|80 => 278|n => n, fun|15 => 2|16 => 3|17 => 1|18 => 4|19 => 5|n => n⟩
def Tryz.laysC172 : Go.Proofs.LaysC.n172 Tryz.prog Tryz.laysC172_ren := {
  mixed := by kernel_rfl
  f129 := Tryz.func214.trans (congrArg some (by kernel_rfl))
  f171 := Tryz.func129.trans (congrArg some (by kernel_rfl))
  f172 := Tryz.func166.trans (congrArg some (by kernel_rfl))
  f205 := Tryz.func240.trans (congrArg some (by kernel_rfl))
  f243 := Tryz.func141.trans (congrArg some (by kernel_rfl))
  f244 := Tryz.func198.trans (congrArg some (by kernel_rfl))
  f245 := Tryz.func199.trans (congrArg some (by kernel_rfl))
  f246 := Tryz.func158.trans (congrArg some (by kernel_rfl))
  f247 := Tryz.func220.trans (congrArg some (by kernel_rfl))
  f279 := Tryz.func221.trans (congrArg some (by kernel_rfl))
  f280 := Tryz.func222.trans (congrArg some (by kernel_rfl))
  f281 := Tryz.func223.trans (congrArg some (by kernel_rfl))
  f282 := Tryz.func224.trans (congrArg some (by kernel_rfl))
  f283 := Tryz.func186.trans (congrArg some (by kernel_rfl))
  f284 := Tryz.func187.trans (congrArg some (by kernel_rfl))
  f285 := Tryz.func188.trans (congrArg some (by kernel_rfl))
  f286 := Tryz.func189.trans (congrArg some (by kernel_rfl))
  f287 := Tryz.func238.trans (congrArg some (by kernel_rfl))
  f316 := Tryz.func239.trans (congrArg some (by kernel_rfl))
  f317 := Tryz.func213.trans (congrArg some (by kernel_rfl))
  f318 := Tryz.func215.trans (congrArg some (by kernel_rfl))
  f319 := Tryz.func216.trans (congrArg some (by kernel_rfl))
  f320 := Tryz.func217.trans (congrArg some (by kernel_rfl))
  f321 := Tryz.func250.trans (congrArg some (by kernel_rfl))
  f322 := Tryz.func251.trans (congrArg some (by kernel_rfl))
  f337 := Tryz.func236.trans (congrArg some (by kernel_rfl))
  f338 := Tryz.func237.trans (congrArg some (by kernel_rfl))
  t0 := Tryz.underlying0
  a0 := Tryz.isAgg0
  z0 := Tryz.sizeOf0
  v0 := Tryz.zeroValue0
  t2 := Tryz.underlying2
  a2 := Tryz.isAgg2
  z2 := Tryz.sizeOf2
  v2 := Tryz.zeroValue2
  t3 := Tryz.underlying3
  a3 := Tryz.isAgg3
  z3 := Tryz.sizeOf3
  v3 := Tryz.zeroValue3
  t4 := Tryz.underlying4
  a4 := Tryz.isAgg4
  z4 := Tryz.sizeOf4
  v4 := Tryz.zeroValue4
  t5 := Tryz.underlying5
  a5 := Tryz.isAgg5
  z5 := Tryz.sizeOf5
  v5 := Tryz.zeroValue5
  t9 := Tryz.underlying9
  a9 := Tryz.isAgg9
  z9 := Tryz.sizeOf9
  v9 := Tryz.zeroValue9
  t20 := Tryz.underlying20
  a20 := Tryz.isAgg20
  z20 := Tryz.sizeOf20
  v20 := Tryz.zeroValue20
  t21 := Tryz.underlying21
  a21 := Tryz.isAgg21
  z21 := Tryz.sizeOf21
  v21 := Tryz.zeroValue21
  t37 := Tryz.underlying23
  a37 := Tryz.isAgg23
  z37 := Tryz.sizeOf23
  v37 := Tryz.zeroValue23
  t46 := Tryz.underlying180
  a46 := Tryz.isAgg180
  z46 := Tryz.sizeOf180
  v46 := Tryz.zeroValue180
  t51 := Tryz.underlying185
  a51 := Tryz.isAgg185
  z51 := Tryz.sizeOf185
  v51 := Tryz.zeroValue185
  t53 := Tryz.underlying98
  a53 := Tryz.isAgg98
  z53 := Tryz.sizeOf98
  v53 := Tryz.zeroValue98
  t75 := Tryz.underlying213
  a75 := Tryz.isAgg213
  z75 := Tryz.sizeOf213
  v75 := Tryz.zeroValue213
  t76 := Tryz.underlying214
  a76 := Tryz.isAgg214
  z76 := Tryz.sizeOf214
  v76 := Tryz.zeroValue214
  t85 := Tryz.underlying259
  a85 := Tryz.isAgg259
  z85 := Tryz.sizeOf259
  v85 := Tryz.zeroValue259
  t127 := Tryz.underlying293
  a127 := Tryz.isAgg293
  z127 := Tryz.sizeOf293
  v127 := Tryz.zeroValue293
  t143 := Tryz.underlying297
  a143 := Tryz.isAgg297
  z143 := Tryz.sizeOf297
  v143 := Tryz.zeroValue297
  t145 := Tryz.underlying299
  a145 := Tryz.isAgg299
  z145 := Tryz.sizeOf299
  v145 := Tryz.zeroValue299
  t167 := Tryz.underlying258
  a167 := Tryz.isAgg258
  z167 := Tryz.sizeOf258
  v167 := Tryz.zeroValue258
  t168 := Tryz.underlying261
  a168 := Tryz.isAgg261
  z168 := Tryz.sizeOf261
  v168 := Tryz.zeroValue261
  t171 := Tryz.underlying239
  a171 := Tryz.isAgg239
  z171 := Tryz.sizeOf239
  v171 := Tryz.zeroValue239
  t173 := Tryz.underlying242
  a173 := Tryz.isAgg242
  z173 := Tryz.sizeOf242
  v173 := Tryz.zeroValue242
  t175 := Tryz.underlying280
  a175 := Tryz.isAgg280
  z175 := Tryz.sizeOf280
  v175 := Tryz.zeroValue280
  t210 := Tryz.underlying284
  a210 := Tryz.isAgg284
  z210 := Tryz.sizeOf284
  v210 := Tryz.zeroValue284
  t212 := Tryz.underlying254
  a212 := Tryz.isAgg254
  z212 := Tryz.sizeOf254
  v212 := Tryz.zeroValue254
  t213 := Tryz.underlying255
  a213 := Tryz.isAgg255
  z213 := Tryz.sizeOf255
  t232 := Tryz.underlying294
  a232 := Tryz.isAgg294
  z232 := Tryz.sizeOf294
  v232 := Tryz.zeroValue294
  t233 := Tryz.underlying295
  a233 := Tryz.isAgg295
  z233 := Tryz.sizeOf295
  v233 := Tryz.zeroValue295
  g15 := by kernel_rfl
  g16 := by kernel_rfl
  g17 := by kernel_rfl
  g18 := by kernel_rfl
  g19 := by kernel_rfl
  t80 := Tryz.underlying278
  a80 := Tryz.isAgg278
  z80 := Tryz.sizeOf278
  v80 := Tryz.zeroValue278
  i0 := by kernel_rfl
  i2 := by kernel_rfl
  i3 := by kernel_rfl
  i4 := by kernel_rfl
  i5 := by kernel_rfl
  i9 := by kernel_rfl
  i20 := by kernel_rfl
  i21 := by kernel_rfl
  i37 := by kernel_rfl
  i46 := by kernel_rfl
  i51 := by kernel_rfl
  i53 := by kernel_rfl
  i75 := by kernel_rfl
  i76 := by kernel_rfl
  i80 := by kernel_rfl
  i85 := by kernel_rfl
  i127 := by kernel_rfl
  i143 := by kernel_rfl
  i145 := by kernel_rfl
  i167 := by kernel_rfl
  i168 := by kernel_rfl
  i171 := by kernel_rfl
  i173 := by kernel_rfl
  i175 := by kernel_rfl
  i210 := by kernel_rfl
  i212 := by kernel_rfl
  i232 := by kernel_rfl
  i233 := by kernel_rfl
  m15 := by kernel_rfl
  m16 := by kernel_rfl
  m17 := by kernel_rfl
  m18 := by kernel_rfl
  m19 := by kernel_rfl
  c0 := by kernel_rfl
  c2 := by kernel_rfl
  c3 := by kernel_rfl
  c4 := by kernel_rfl
  c5 := by kernel_rfl
  c9 := by kernel_rfl
  c20 := by kernel_rfl
  c21 := by kernel_rfl
  c37 := by kernel_rfl
  c46 := by kernel_rfl
  c51 := by kernel_rfl
  c53 := by kernel_rfl
  c75 := by kernel_rfl
  c76 := by kernel_rfl
  c80 := by kernel_rfl
  c85 := by kernel_rfl
  c127 := by kernel_rfl
  c143 := by kernel_rfl
  c145 := by kernel_rfl
  c167 := by kernel_rfl
  c168 := by kernel_rfl
  c171 := by kernel_rfl
  c173 := by kernel_rfl
  c175 := by kernel_rfl
  c210 := by kernel_rfl
  c212 := by kernel_rfl
  c213 := by kernel_rfl
  c232 := by kernel_rfl
  c233 := by kernel_rfl }
def Tryz.lays145_ren : Go.Shelf.Ren := ⟨fun|145 => 21|220 => 52|219 => 104|217 => 105|225 => 132|224 => 133|267 => 134|266 => 135|314 => 146|n => n, fun|9 => 9|4 => 4|59 => 63|3 => 3|5 => 5|46 => 180|146 => 194|51 => 185|n => n, fun|1 => 0|n => n⟩
def Tryz.lays145 : Go.Proofs.Lays.n145 Tryz.prog Tryz.lays145_ren := {
  mixed := by kernel_rfl
  f145 := Tryz.func21.trans (congrArg some (by kernel_rfl))
  f217 := Tryz.func105.trans (congrArg some (by kernel_rfl))
  f219 := Tryz.func104.trans (congrArg some (by kernel_rfl))
  f220 := Tryz.func52.trans (congrArg some (by kernel_rfl))
  f224 := Tryz.func133.trans (congrArg some (by kernel_rfl))
  f225 := Tryz.func132.trans (congrArg some (by kernel_rfl))
  f266 := Tryz.func135.trans (congrArg some (by kernel_rfl))
  f267 := Tryz.func134.trans (congrArg some (by kernel_rfl))
  f314 := Tryz.func146.trans (congrArg some (by kernel_rfl))
  t3 := Tryz.underlying3
  a3 := Tryz.isAgg3
  z3 := Tryz.sizeOf3
  v3 := Tryz.zeroValue3
  t4 := Tryz.underlying4
  a4 := Tryz.isAgg4
  z4 := Tryz.sizeOf4
  v4 := Tryz.zeroValue4
  t5 := Tryz.underlying5
  a5 := Tryz.isAgg5
  z5 := Tryz.sizeOf5
  v5 := Tryz.zeroValue5
  t9 := Tryz.underlying9
  a9 := Tryz.isAgg9
  z9 := Tryz.sizeOf9
  v9 := Tryz.zeroValue9
  t46 := Tryz.underlying180
  a46 := Tryz.isAgg180
  z46 := Tryz.sizeOf180
  v46 := Tryz.zeroValue180
  t51 := Tryz.underlying185
  a51 := Tryz.isAgg185
  z51 := Tryz.sizeOf185
  v51 := Tryz.zeroValue185
  t59 := Tryz.underlying63
  a59 := Tryz.isAgg63
  z59 := Tryz.sizeOf63
  v59 := Tryz.zeroValue63
  t146 := Tryz.underlying194
  a146 := Tryz.isAgg194
  z146 := Tryz.sizeOf194
  v146 := Tryz.zeroValue194
  g1 := by kernel_rfl }
def Tryz.lays105_ren : Go.Shelf.Ren := ⟨fun|105 => 211|212 => 230|99 => 231|165 => 232|166 => 233|170 => 234|169 => 235|263 => 246|264 => 247|206 => 219|240 => 248|241 => 249|276 => 254|277 => 255|n => n, fun|9 => 9|3 => 3|4 => 4|20 => 20|0 => 0|46 => 180|109 => 272|5 => 5|72 => 276|76 => 214|51 => 185|146 => 194|53 => 98|148 => 291|70 => 274|37 => 23|75 => 213|127 => 293|164 => 301|80 => 278|n => n, fun|n => n⟩
def Tryz.lays105 : Go.Proofs.Lays.n105 Tryz.prog Tryz.lays105_ren := {
  mixed := by kernel_rfl
  f99 := Tryz.func231.trans (congrArg some (by kernel_rfl))
  f105 := Tryz.func211.trans (congrArg some (by kernel_rfl))
  f165 := Tryz.func232.trans (congrArg some (by kernel_rfl))
  f166 := Tryz.func233.trans (congrArg some (by kernel_rfl))
  f169 := Tryz.func235.trans (congrArg some (by kernel_rfl))
  f170 := Tryz.func234.trans (congrArg some (by kernel_rfl))
  f206 := Tryz.func219.trans (congrArg some (by kernel_rfl))
  f212 := Tryz.func230.trans (congrArg some (by kernel_rfl))
  f240 := Tryz.func248.trans (congrArg some (by kernel_rfl))
  f241 := Tryz.func249.trans (congrArg some (by kernel_rfl))
  f263 := Tryz.func246.trans (congrArg some (by kernel_rfl))
  f264 := Tryz.func247.trans (congrArg some (by kernel_rfl))
  f276 := Tryz.func254.trans (congrArg some (by kernel_rfl))
  f277 := Tryz.func255.trans (congrArg some (by kernel_rfl))
  t0 := Tryz.underlying0
  a0 := Tryz.isAgg0
  z0 := Tryz.sizeOf0
  v0 := Tryz.zeroValue0
  t3 := Tryz.underlying3
  a3 := Tryz.isAgg3
  z3 := Tryz.sizeOf3
  v3 := Tryz.zeroValue3
  t4 := Tryz.underlying4
  a4 := Tryz.isAgg4
  z4 := Tryz.sizeOf4
  v4 := Tryz.zeroValue4
  t5 := Tryz.underlying5
  a5 := Tryz.isAgg5
  z5 := Tryz.sizeOf5
  v5 := Tryz.zeroValue5
  t9 := Tryz.underlying9
  a9 := Tryz.isAgg9
  z9 := Tryz.sizeOf9
  v9 := Tryz.zeroValue9
  t20 := Tryz.underlying20
  a20 := Tryz.isAgg20
  z20 := Tryz.sizeOf20
  v20 := Tryz.zeroValue20
  t37 := Tryz.underlying23
  a37 := Tryz.isAgg23
  z37 := Tryz.sizeOf23
  v37 := Tryz.zeroValue23
  t46 := Tryz.underlying180
  a46 := Tryz.isAgg180
  z46 := Tryz.sizeOf180
  v46 := Tryz.zeroValue180
  t51 := Tryz.underlying185
  a51 := Tryz.isAgg185
  z51 := Tryz.sizeOf185
  v51 := Tryz.zeroValue185
  t53 := Tryz.underlying98
  a53 := Tryz.isAgg98
  z53 := Tryz.sizeOf98
  v53 := Tryz.zeroValue98
  t70 := Tryz.underlying274
  a70 := Tryz.isAgg274
  z70 := Tryz.sizeOf274
  v70 := Tryz.zeroValue274
  t72 := Tryz.underlying276
  a72 := Tryz.isAgg276
  z72 := Tryz.sizeOf276
  v72 := Tryz.zeroValue276
  t75 := Tryz.underlying213
  a75 := Tryz.isAgg213
  z75 := Tryz.sizeOf213
  v75 := Tryz.zeroValue213
  t76 := Tryz.underlying214
  a76 := Tryz.isAgg214
  z76 := Tryz.sizeOf214
  v76 := Tryz.zeroValue214
  t109 := Tryz.underlying272
  a109 := Tryz.isAgg272
  z109 := Tryz.sizeOf272
  v109 := Tryz.zeroValue272
  t127 := Tryz.underlying293
  a127 := Tryz.isAgg293
  z127 := Tryz.sizeOf293
  v127 := Tryz.zeroValue293
  t146 := Tryz.underlying194
  a146 := Tryz.isAgg194
  z146 := Tryz.sizeOf194
  v146 := Tryz.zeroValue194
  t148 := Tryz.underlying291
  a148 := Tryz.isAgg291
  z148 := Tryz.sizeOf291
  v148 := Tryz.zeroValue291
  t164 := Tryz.underlying301
  a164 := Tryz.isAgg301
  z164 := Tryz.sizeOf301
  v164 := Tryz.zeroValue301 }
def Tryz.Builder_Extra_105 : Builder.Extra Tryz.prog Tryz.lays105_ren := {
  sizeBuilder := by kernel_rfl
  liesBuilder := by kernel_rfl
  t5 := Tryz.underlying5
  a5 := Tryz.isAgg5
  z5 := Tryz.sizeOf5
  v5 := Tryz.zeroValue5
  infoByte := by kernel_rfl
  cellsByte := by kernel_rfl
  sizeByte := by kernel_rfl
  neB5 := by decide }
end Go.Proofs
namespace Gx
open Go Go.Proofs Go.RowKit
noncomputable section
variable{R:Type}(N:Nat)
def Rw(_N:Nat)(s t:Lu)(r0:Lu->Lu->Bool->O R):O R:=cond (ble s.length 4294967280) (r0 (Lib.cut s t).1 (Lib.cut s t).2.1 (Lib.cut s t).2.2) none
def strings_Cut:=(Ae (@Rw R)).1
def Om:@strings_Cut R=@Rw R:=(Ae _).2
def Jz(a:LA)(h:Az)(k:KF R):O R :=
 match a,h with
|[.str s,.str t],[]=>strings_Cut N s t fun x y b=>k (.tup [.str x,.str y,.bool b]) []
|_,_=>none
def UL:Tw:=⟨fun {R} a h k=>@Jz R N a h k,fun {R} a h k=>by
 unfold Jz
 split
 ·rw[Om,Om];unfold Rw;cases ble _ 4294967280<;>rfl
 ·rfl⟩
def On(_N:Nat)(s:Lu)(c:Int)(r0:Lu->O R):O R:=cond (decide (0<=c)&&(decide (c<=9223372036854775807)&&decide ((s.length:Int)*c<=140737488355328))) (r0 (Lib.repeatL s c.toNat)) none
def strings_Repeat:=(Ae (@On R)).1
def Nq:@strings_Repeat R=@On R:=(Ae _).2
def Gl(a:LA)(h:Az)(k:KF R):O R :=
 match a,h with
|[.str s,.int .i64 c],[]=>strings_Repeat N s c fun x=>k (.str x) []
|_,_=>none
def IF:Tw:=⟨fun {R} a h k=>@Gl R N a h k,fun {R} a h k=>by
 unfold Gl
 split
 ·rename_i s c
  rw[Nq,Nq];unfold On;cases (decide (0<=c)&&(decide (c<=9223372036854775807)&&decide ((s.length:Int)*c<=140737488355328)))<;>rfl
 ·rfl⟩
def O8(_N:Nat)(s:Lu)(r0:Int->O R):O R:=cond (ble s.length 9223372036854775806) (match Lib.atoiAll s with|.ok v=>r0 v|_=>none) none
def DB:=(Ae (@O8 R)).1
def Mt:@DB R=@O8 R:=(Ae _).2
def Il(a:LA)(h:Az)(k:KF R):O R :=
 match a,h with
|[.str s],[]=>DB N s fun x=>k (.tup [.int .i64 x,.undef]) []
|_,_=>none
def RQ:Tw:=⟨fun {R} a h k=>@Il R N a h k,fun {R} a h k=>by
 unfold Il
 split
 ·rw[Mt,Mt];unfold O8;cases ble _ 9223372036854775806
  ·rfl
  ·cases Lib.atoiAll _<;>rfl
 ·rfl⟩
end
def zL(w:World)(n:Nat):Below w.heap.size w (w.drewN n):=⟨rfl,rfl,rfl,Aui _,fun _ _=>rfl⟩
def UM(N:Nat):i8 Tryz.prog 21 (UL N):=by
 intro args h res h' f
 have d:Jz N args h (fun v h'=>some (v,h'))=some (res,h'):=f
 unfold Jz at d
 split at d
 ·rename_i s t
  rw[Om,Rw]at d
  obtain⟨x,l⟩:=uc d
  simp at x l
  obtain⟨rfl,rfl⟩:=l
  refine XI fun J β w vs G hr=>?_
  obtain⟨u,v,rfl,e1,q⟩:=pD hr
  simp only[Rep]at e1 q;subst e1 q
  obtain⟨m,y⟩:=G.int (g:=0) (by decide)
  refine(Any.strings_Cut Tryz.lays145 ⟨⟨s⟩⟩ ⟨⟨t⟩⟩ m w (show s.length<4294967281 by omega) y).mono ?_
  rintro e w' ⟨rfl,n,rfl⟩
  refine⟨_,rfl,zL w n,fun J β w=>?_⟩
  rw[Rep]
  exact⟨_,rfl,by simp[Reps,Rep]⟩
 ·cases d
def IG(N:Nat):i8 Tryz.prog 211 (IF N):=by
 intro args h res h' f
 have d:Gl N args h (fun v h'=>some (v,h'))=some (res,h'):=f
 unfold Gl at d
 split at d
 ·rename_i s c
  rw[Nq,On]at d
  obtain⟨l,t⟩:=uc d
  simp only[Auh,decide_eq_true_eq]at l
  simp at t
  obtain⟨rfl,rfl⟩:=t
  refine XI fun J β w vs G hr=>?_
  obtain⟨u,v,rfl,e1,x⟩:=pD hr
  simp only[Rep]at e1 x;subst e1 x
  obtain⟨n,rfl⟩:∃ n:Nat,c=n:=⟨c.toNat,by omega⟩
  by_cases y:s.length=0
  ·have hs:s=[]:=Axr y
   subst hs
   have hn:n<=9223372036854775807:=by have:=l.2.1;omega
   ·refine(Any.strings_Repeat Tryz.lays105 Tryz.Builder_Extra_105 ⟨⟨[]⟩⟩ n w hn (by show 0*n<=_;omega)).mono ?_
    rintro e w' ⟨rfl,q⟩
    exact⟨_,rfl,q,fun J β w=>by rw[Rep];rfl⟩
  ·have z:s.length*n<=140737488355328:=by have:=l.2.2;rw[<-Int.natCast_mul]at this;omega
   have A:n<=s.length*n:=Nat.le_mul_of_pos_left n (by omega)
   refine(Any.strings_Repeat Tryz.lays105 Tryz.Builder_Extra_105 ⟨⟨s⟩⟩ n w (by omega) z).mono ?_
   rintro e w' ⟨rfl,q⟩
   exact⟨_,rfl,q,fun J β w=>by rw[Rep];rfl⟩
 ·cases d
def strconv_Atoi_ok(N:Nat):i8 Tryz.prog 166 (RQ N):=by
 intro args h res h' l
 have d:Il N args h (fun v h'=>some (v,h'))=some (res,h'):=l
 unfold Il at d
 split at d
 ·rename_i s
  rw[Mt,O8]at d
  obtain⟨n,f⟩:=uc d
  simp at n
  split at f
  ·rename_i v q
   simp at f
   obtain⟨rfl,rfl⟩:=f
   refine XI fun J β w vs G hr=>?_
   obtain⟨u,rfl,e1⟩:=pC hr
   rw[Rep]at e1;subst e1
   refine(Any.strconv_Atoi_ok Tryz.laysC172 ⟨⟨s⟩⟩ n v q w).mono ?_
   rintro e w' ⟨rfl,x⟩
   refine⟨_,rfl,?_,fun J β w=>by rw[Rep];exact⟨_,rfl,by rw[Reps];exact⟨_,_,rfl,by rw[Rep],by rw[Reps];exact⟨_,_,rfl,by rw[Rep];trivial,by rw[Reps]⟩⟩⟩⟩
   rcases x with rfl|⟨t,rfl⟩
   ·exact Below.refl _ _
   ·exact Lib.bytesWorld_below _ _ _
  ·cases f
 ·cases d
noncomputable def JZ(N:Nat):=Ai6 (UL N) (UM N)
noncomputable def jP(N:Nat):=Ai6 (IF N) (IG N)
noncomputable def qM(N:Nat):=Ai6 (RQ N) (strconv_Atoi_ok N)
end Gx
namespace Gx
def uD(b:UInt8):Bool:=b==10||(b==35||(b==32||(b==9||b==13)))
def jQ(ws:List Lu)(w:Lu):List Lu:=if w=[]then ws else ws++[w]
def Gb:Lu->List Lu->Lu->Bool->List (List Lu)
|[],ws,w,_=>[jQ ws w]
|b::r,ws,w,cm =>
  if b=10 then jQ ws w::Gb r [] [] false
  else if b=35 then Gb r (jQ ws w) [] true
  else if uD b=true then Gb r (jQ ws w) [] cm
  else Gb r ws (if cm then w else w++[b]) cm
def H3(s:Lu):List (List Lu):=Gb s [] [] false
end Gx
namespace Gx
open Go Go.Proofs Go.RowKit
def lJ(l:List Lu):AV:=.imm (l.map .str) l.length 1 false false
noncomputable section
variable{R:Type}(N:Nat)
def FQ(_N:Nat)(s:Lu)(r0:Nat->LA->O R):O R:=cond (ble s.length 1000000000) (r0 (H3 s).length ((H3 s).map lJ)) none
def jR:=(Ae (@FQ R)).1
def Yv:@jR R=@FQ R:=(Ae _).2
def Yw(a:LA)(h:Az)(k:KF R):O R :=
 match a,h with
|[.str s],[]=>jR N s fun n c=>k (.own 300000 0 n) [(300000,bQ 1 c)]
|_,_=>none
def fg:Tw:=⟨fun {R} a h k=>@Yw R N a h k,fun {R} a h k=>by
 unfold Yw
 split
 ·rw[Yv,Yv];unfold FQ;cases ble _ 1000000000<;>rfl
 ·rfl⟩
end
end Gx
namespace Go.Proofs.Ln
open Go Go.RowKit
def dI(w:List UInt8):Value:=.string ⟨⟨w⟩⟩
structure LnI(B:Nat)(w0 wr:World)(g cap:Nat)(xs:List Value)(rows:List (List (List UInt8))):Prop where
 len:xs.length=rows.length
 own:wr.ownsRow B 24 1 (.slice (some ⟨g,0,none⟩) rows.length cap) rows.length xs
 row:∀(i:Nat) x l,xs[i]?=some x->rows[i]?=some l->wr.ownsRow B 9 1 x l.length (l.map dI)
 vs:∀(i:Nat) x,xs[i]?=some x->x.ownBlock≠some g
 sep:∀(i j:Nat) x y k,xs[i]?=some x->xs[j]?=some y->x.ownBlock=some k->y.ownBlock=some k->i=j
 bel:Below B w0 wr
variable{B:Nat}{w0 wr w2:World}{g cap:Nat}{xs:List Value}{rows:List (List (List UInt8))}
def LnI.lt(h:LnI B w0 wr g cap xs rows){i:Nat}{x:Value}{k:Nat}(hx:xs[i]?=some x)(d:x.ownBlock=some k):B<=k/\k<wr.heap.size:=by
 have hi:=(List.getElem?_eq_some_iff.1 hx).1
 have hr:rows[i]?=some (rows[i]'(by rw[<-h.len];exact hi)):=List.getElem?_eq_getElem _
 exact(h.row i x _ hx hr).lt k d
def LnI.glt(h:LnI B w0 wr g cap xs rows):B<=g/\g<wr.heap.size:=h.own.lt g rfl
def Ajs(w:World)(o:Obj){k:Nat}(d:k<w.heap.size):(w.alloc o).heap[k]?=w.heap[k]?:=by
 show(w.heap.push o)[k]?=_
 rw[Array.getElem?_push,if_neg (by omega)]
def lK{o:Obj}{r:Option Nat}(h:Below B w0 wr)(hB:B<=wr.heap.size)(d:(wr.alloc o).grownBy w2 r)(hr:∀ k,r=some k->B<=k):Below B w0 w2 :=
 ⟨d.os.trans h.os,d.tape.trans h.tape,d.output.trans h.output,Nat.le_trans h.size (by have:=d.size;simp at this;omega),fun k f=>by rw[d.block k (by simp;omega) (fun e=>by have:=hr k e.symm;omega),Ajs wr o (by omega)];exact h.block k f⟩
def Agu(w:World):LnI w.heap.size w (w.alloc (.cells #[.slice none 0 0] 24)) w.heap.size 1 [.slice none 0 0] [[]]:=by
 refine⟨rfl,World.ownsRow_lit w #[.slice none 0 0] 1 (Nat.le_refl _) (by decide) rfl,fun i x l hx d=>?_,fun i x hx=>?_,fun i j x y k hx n f=>?_,⟨rfl,rfl,rfl,by simp,fun k f=>Ajs w _ f⟩⟩
 ·match i,hx,d with
  |0,hx,d=>simp at hx d;subst hx d;exact World.ownsRow_nil _ _ _ _
 ·match i,hx with
  |0,hx=>simp at hx;subst hx;simp[Value.ownBlock]
 ·match i,hx with
  |0,hx=>simp at hx;subst hx;simp[Value.ownBlock]at f
def Vo{α:Type}{l:List α}{a x:α}{i:Nat}(h:(l++[a])[i]?=some x):l[i]?=some x\/i=l.length/\x=a:=by
 by_cases hi:i<l.length
 ·left;rwa [List.getElem?_append_left hi]at h
 ·right
  rw[List.getElem?_append_right (by omega)]at h
  have:i - l.length=0:=by
   rcases Nat.eq_zero_or_pos (i - l.length)with q|q
   ·exact q
   ·rw[List.getElem?_eq_none (by simp;omega)]at h;cases h
  rw[this]at h;simp at h
  exact⟨by omega,h.symm⟩
def LnI.more{o:Obj}{g' cap':Nat}(h:LnI B w0 wr g cap xs rows)(u:w2.ownsRow B 24 1 (.slice (some ⟨g',0,none⟩) (rows.length+1) cap') (rows.length+1) (xs++[.slice none 0 0]))(f:(wr.alloc o).grownBy w2 (some g))(n:g'=g\/wr.heap.size+1<=g'):
  LnI B w0 w2 g' cap' (xs++[.slice none 0 0]) (rows++[[]]):=by
 have hB:=h.glt
 refine⟨by simp[h.len],by rw[List.length_append];exact u,fun i x l hx s=>?_,fun i x hx=>?_,fun i j x y k hx v t d=>?_,lK h.bel (by omega) f fun k e=>by cases e;exact hB.1⟩
 ·rcases Vo hx with q|⟨q,rfl⟩
  ·rcases Vo s with r|⟨r,_⟩
   ·exact((h.row i x l q r).alloc _).kept f (.inr (h.vs i x q))
   ·have:=(List.getElem?_eq_some_iff.1 q).1;have:=h.len;omega
  ·rcases Vo s with r|⟨_,rfl⟩
   ·have:=(List.getElem?_eq_some_iff.1 r).1;have:=h.len;omega
   ·exact World.ownsRow_nil _ _ _ _
 ·rcases Vo hx with q|⟨_,rfl⟩
  ·rcases n with rfl|n
   ·exact h.vs i x q
   ·exact fun e=>by have:=(h.lt q e).2;omega
  ·simp[Value.ownBlock]
 ·rcases Vo hx with q|⟨_,rfl⟩
  ·rcases Vo v with r|⟨_,rfl⟩
   ·exact h.sep i j x y k q r t d
   ·simp[Value.ownBlock]at d
  ·simp[Value.ownBlock]at t
def LnI.push{o:Obj}{x x':Value}{ws:List (List UInt8)}{v:List UInt8}(h:LnI B w0 wr g cap (xs++[x]) (rows++[ws]))(S:w2.ownsRow B 9 1 x' (ws.length+1) (ws.map dI++[dI v]))(D:(wr.alloc o).grownBy w2 x.ownBlock)(I:x'.ownBlock=x.ownBlock\/∃ k,x'.ownBlock=some k/\wr.heap.size+1<=k):
  LnI B w0 (w2.setCell ⟨g,rows.length,none⟩ x') g cap (xs++[x']) (rows++[ws++[v]]):=by
 have hB:=h.glt
 have F:xs.length=rows.length:=by have:=h.len;simpa using this
 have f:(xs++[x])[rows.length]?=some x:=by rw[<-F];simp
 have A:x'.ownBlock≠some g:=fun e=>by
  rcases I with q|⟨k,q,n⟩
  ·rw[q]at e;exact h.vs _ _ f e
  ·rw[q]at e;cases e;omega
 have T:w2.ownsRow B 24 1 (.slice (some ⟨g,0,none⟩) (rows++[ws]).length cap) (rows++[ws]).length (xs++[x]):=(h.own.alloc _).kept D (.inr fun e=>h.vs _ _ f e.symm)
 obtain⟨s1,s2⟩:=T.stored rows.length x'
 have e1:(xs++[x]).set rows.length x'=xs++[x']:=by rw[<-F,List.set_append_right _ _ (Nat.le_refl _)];simp
 have U:(rows++[ws]).length=(rows++[ws++[v]]).length:=by simp
 rw[e1,U]at s1
 have old:∀(i:Nat) y,xs[i]?=some y->(xs++[x])[i]?=some y/\i<rows.length:=fun i y q=>by
  have hi:=(List.getElem?_eq_some_iff.1 q).1
  exact⟨by rw[List.getElem?_append_left hi];exact q,by omega⟩
 refine⟨by simp[F],s1,fun i y l C s=>?_,fun i y C=>?_,fun i j y z k C G n t=>?_,?_⟩
 ·rcases Vo C with q|⟨rfl,rfl⟩
  ·obtain⟨u,M⟩:=old i y q
   have hr:(rows++[ws])[i]?=some l:=by
    rw[List.getElem?_append_left M]at s ⊢;exact s
   refine ownsRow_setCell_other (((h.row i y l u hr).alloc _).kept D ?_) (h.vs i y u) _
   cases n:y.ownBlock with
   |none=>exact .inl rfl
   |some k=>exact .inr fun e=>by have:=h.sep i _ y x k u f n e.symm;omega
  ·rw[F,List.getElem?_append_right (Nat.le_refl _)]at s
   simp at s;subst s
   rw[List.length_append,List.map_append]
   exact ownsRow_setCell_other S A _
 ·rcases Vo C with q|⟨_,rfl⟩
  ·exact h.vs i y (old i y q).1
  ·exact A
 ·have key:∀(i:Nat) y k,xs[i]?=some y->y.ownBlock=some k->x'.ownBlock=some k->False:=fun i y k q n e=>by
   obtain⟨u,M⟩:=old i y q
   rcases I with r|⟨X,r,t⟩
   ·rw[r]at e;have:=h.sep i _ y x k u f n e;omega
   ·rw[r]at e;cases e;have:=(h.lt u n).2;omega
  rcases Vo C with q|⟨p,rfl⟩
  ·rcases Vo G with r|⟨_,rfl⟩
   ·exact h.sep i j y z k (old i y q).1 (old j z r).1 n t
   ·exact absurd (key i y k q n t) id
  ·rcases Vo G with r|⟨r,_⟩
   ·exact absurd (key j z k r t n) id
   ·omega
 ·have d:=lK h.bel (by omega) D fun k e=>(h.lt f e).1
  exact⟨s2.os.trans d.os,s2.tape.trans d.tape,s2.output.trans d.output,Nat.le_trans d.size s2.size,fun k n=>by
   have G:k<w2.heap.size:=by
    have V:=D.size
    simp at V
    omega
   rw[s2.block k G (by simp;omega)];exact d.block k n⟩
section
variable{P:Program}(w:World)
def Amt(base:Nat)(t ty e:TypeId)(i:TypeInfo)(z:Value)(size bytes:Nat)(T:P.underlying t=some (.slice e))(hi:P.info? e=some i)(U:i.zero=some z)
  (s:i.size=size) (F:i.bytes=bytes) (V:z.cells.size=size) (X:0<size)
  (v:Value) (n:Nat) (xs:List Value) (d:w.ownsRow base e size v n xs)
  (a:Addr) (m c:Nat) (news:List Value) (G:news.length=m*size) (f:∀ j u,news[j]?=some u->w.cell? (a.add j)=some u) (h1:∀ u∈news,u.oneCell'=true)
  (hm:0<m) (y:n+m<=maxLen) (l:(n+m)*bytes<=140737488355328) (A:base<=w.heap.size) :
  ∃ v' w',(Builtin.append_ #[t,t] ty #[v,.slice (some a) m c]).run P w=.ok v' w'/\w'.ownsRow base e size v' (n+m) (xs++news)/\w'.ownsRow base e size v n xs/\w.grownBy w' v.ownBlock /\
   (v'.ownBlock=v.ownBlock\/∃ k,v'.ownBlock=some k/\w.heap.size<=k):=by
 obtain⟨v',w',hr,h2,Y,h4⟩:=run_append_own (P:=P) w base t ty e i z size bytes T hi U s F V X v n xs d a m c news G f h1 y l A
 subst s
 subst F
 refine⟨v',w',hr,h2,?_⟩
 rcases d.2 with⟨rfl,rfl⟩|⟨g,cap,cur,rfl,hbg,hg,I,hcm,M,C⟩
 ·have hx:xs=[]:=List.eq_nil_of_length_eq_zero (by simpa using d.1)
  subst hx
  have q:=run_append_nil (P:=P) w t ty e i z T hi U a m c news G f hm (by simp only[maxLen]at y;omega) (by have hb:=l;simp only[Nat.zero_add]at hb;omega)
  rw[hr]at q
  injection q with e1 e2
  subst e1
  exact⟨World.ownsRow_nil _ _ _ _,Y,.inr ⟨w.heap.size,rfl,Nat.le_refl _⟩⟩
 ·by_cases x:n+m<=cap
  ·have S:n*i.size+news.length<=cur.size:=by rw[G,M,<-Nat.add_mul];exact Nat.mul_le_mul_right _ x
   have q:=run_append_room (P:=P) w t ty e i T hi g n cap cur hg a m c news G f h1 x S
   rw[hr]at q
   injection q with e1 e2
   subst e1
   refine⟨⟨d.1,?_⟩,Y,.inl rfl⟩
   rcases h2.2 with⟨h5,_⟩|⟨g',cap',cur',hv,hb',hg',hn',hc',hs',ht'⟩
   ·cases h5
   ·cases hv
    refine .inr ⟨g,cap,cur',rfl,hb',hg',I,hc',hs',?_⟩
    have:cur'.toList.take (n*i.size)=(cur'.toList.take ((n+m)*i.size)).take (n*i.size):=by
     rw[List.take_take,Nat.min_eq_left (Nat.mul_le_mul_right _ (by omega))]
    rw[this,ht',<-d.1]
    exact List.take_left
  ·have D:∀ j u,xs[j]?=some u->w.cell? ((⟨g,0,none⟩:Addr).add j)=some u:=d.cells (g:=g) rfl
   have q:=run_append_grow (P:=P) w t ty e i z T hi U ⟨g,0,none⟩ n cap xs d.1 D a m c news G f (by omega) (by simp only[maxLen]at y;omega) (growslice_fits (by omega) l)
   rw[hr]at q
   injection q with e1 e2
   subst e1 e2
   refine⟨?_,Y,.inr ⟨w.heap.size,rfl,Nat.le_refl _⟩⟩
   have hlt:=(Array.getElem?_eq_some_iff.1 hg).1
   exact⟨d.1,.inr ⟨g,cap,cur,rfl,hbg,(heap_alloc_old w.drew _ hlt).trans hg,I,hcm,M,C⟩⟩
def Mu{ops:Array Oper}{M0:List Oper}{o:Oper}{a:Act}{Q:Exit->Act->World->Prop}(A:o.guard=none)(s x:Operand)(t:TypeId)
  (I:o.op=.call {callee:=.builtin .append,args:=#[s,x],argTypes:=#[t,t]})
  (base:Nat) (e:TypeId) (i:TypeInfo) (z:Value) (size bytes:Nat) (M:P.underlying t=some (.slice e)) (hi:P.info? e=some i) (S:i.zero=some z)
  (f:i.size=size) (C:i.bytes=bytes) (D:z.cells.size=size) (F:0<size)
  (v:Value) (n:Nat) (xs:List Value) (hs:a.eval s=v) (y:w.ownsRow base e size v n xs)
  (ad:Addr) (m c:Nat) (news:List Value) (hx:a.eval x=.slice (some ad) m c) (T:news.length=m*size) (l:∀ j u,news[j]?=some u->w.cell? (ad.add j)=some u) (U:∀ u∈news,u.oneCell'=true)
  (V:0<m) (G:n+m<=maxLen) (d:(n+m)*bytes<=140737488355328) (q:base<=w.heap.size)
  (h:∀ v' w',w'.ownsRow base e size v' (n+m) (xs++news)->w'.ownsRow base e size v n xs->w.grownBy w' v.ownBlock->(v'.ownBlock=v.ownBlock\/∃ k,v'.ownBlock=some k/\w.heap.size<=k)->wpList P ops Q M0 (a.put o.dst v') w'):wpList P ops Q (o::M0) a w :=
 wpList_plain A fun K hK=>by
  obtain⟨v',w',hr,X,Y,h4,h5⟩:=Amt (P:=P) w base t o.type e i z size bytes M hi S f C D F v n xs y ad m c news T l U V G d q
  unfold Oper.wp execOp
  simp only[I,resolve,invoke,builtin,Sem.run_bind,Sem.run_pure,Result.andThen_ok,List.map_toArray,List.map_cons,List.map_nil,hs,hx,hr]
  exact hK _ _ (h v' w' X Y h4 h5)
end
end Go.Proofs.Ln
namespace Go.Proofs.Ln
open Go Go.RowKit Gx
def Ao0:(Tryz.prog.info? 24).map (fun i=>(i.zero,i.size,i.bytes))=some (some (.slice none 0 0),1,24):=by kernel_rfl
def Aqf:(Tryz.prog.info? 9).map (fun i=>(i.zero,i.size,i.bytes))=some (some (.string ⟨#[]⟩),1,16):=by kernel_rfl
def MC{w:World}{B e:Nat}{v:Value}{n:Nat}{xs:List Value}(h:w.ownsRow B e 1 v (n+1) xs):∃ g cap,v=.slice (some ⟨g,0,none⟩) (n+1) cap:=by
 rcases h.2 with⟨_,h⟩|⟨g,cap,_,h,_⟩
 ·omega
 ·exact⟨g,cap,h⟩
def UN{w:World}{v:Value}{t:TypeId}:∀(j:Nat) u,[v][j]?=some u->(w.alloc (.cells #[v] t)).cell? ((⟨w.heap.size,0,none⟩:Addr).add j)=some u:=fun j u h=>by
 match j,h with
|0,h =>
  simp at h;subst h
  show World.cell? _ ⟨w.heap.size,0,none⟩=_
  unfold World.cell?;rw[heap_alloc_new];rfl
def uE{w:World}{v:Value}{t:TypeId}{n:Nat}(hn:w.heap.size=n):∀(j:Nat) u,[v][j]?=some u->(w.alloc (.cells #[v] t)).cell? ((⟨n,0,none⟩:Addr).add j)=some u:=by subst hn;exact UN
def Ajt{g g' cap' n z:Nat}(h:(Value.slice (some ⟨g',0,none⟩) n cap').ownBlock=some g\/∃ k,(Value.slice (some ⟨g',0,none⟩) n cap').ownBlock=some k/\z<=k):g'=g\/z<=g':=by
 rcases h with h|⟨k,h,d⟩
 ·exact .inl (Option.some.inj h)
 ·rw[show g'=k from Option.some.inj h];exact .inr d
set_option maxRecDepth 100000 in
set_option maxHeartbeats 4000000 in
def Aju (s:List UInt8) (hs:s.length<=1000000000) (w:World) :
  Calls Tryz.prog 7 #[.string ⟨⟨s⟩⟩] w fun e w'=>∃ g cap xs,e=.returned (.slice (some ⟨g,0,none⟩) (H3 s).length cap)/\LnI w.heap.size w w' g cap xs (H3 s):=by
 have start:=Agu w
 obtain⟨i9,h9,A,C,D⟩:=info_parts Aqf
 obtain⟨i24,X,Y,hz1,hz2⟩:=info_parts Ao0
 go_enter Tryz.func7,Tryz.ntmps7
 go_wp2
 go_loopw [3,4,5,6] (fun v3 v4 v5 v6 wr=>∃ (k:Nat) (wd:List UInt8) (cm:Bool) (g cap:Nat) (xs:List Value) (x:Value) (rows:List (List (List UInt8))) (ws:List (List UInt8)),
   v6=.int .i64 k/\v5=.bool cm/\v4=.string ⟨⟨wd⟩⟩/\v3=.slice (some ⟨g,0,none⟩) (rows.length+1) cap/\LnI w.heap.size w wr g cap (xs++[x]) (rows++[ws])/\k<=s.length/\rows++Gb (s.drop k) ws wd cm=H3 s/\wd.length<=k/\rows.length<=k/\ws.length<=k)
  (fun _ _ _ v6 _=>s.length - (intOf v6).toNat)
 case atStart=>exact⟨0,[],false,_,_,[],_,[],[],rfl,rfl,rfl,rfl,start,Nat.zero_le _,rfl,Nat.le_refl _,Nat.le_refl _,Nat.le_refl _⟩
 case round =>
  obtain⟨k,wd,cm,g,cap,xs,x,rows,ws,rfl,rfl,rfl,rfl,hI,hk,hL,hw1,hw2,hw3⟩:=hrel
  have hxl:xs.length=rows.length:=by have:=hI.len;simpa using this
  have F:(xs++[x])[rows.length]?=some x:=by rw[<-hxl];simp
  have hcell:wr.cell? ⟨g,rows.length,none⟩=some x:=by
   have:=hI.own.cellAt rows.length (by simp)
   rw[this,F]
  have q:wr.ownsRow w.heap.size 9 1 x ws.length (ws.map dI):=hI.row rows.length x ws F (by simp)
  have hown:wr.ownsRow w.heap.size 24 1 (.slice (some ⟨g,0,none⟩) (rows.length+1) cap) (rows.length+1) (xs++[x]):=by have:=hI.own;simpa using this
  have d:∀(o:Obj)(w2:World),(wr.alloc o).grownBy w2 x.ownBlock->w2.frozen? ⟨g,rows.length,none⟩=false/\w2.cell? ⟨g,rows.length,none⟩=some x:=fun o w2 t=>by
   have:=(hI.own.alloc o).kept t (.inr (fun e=>hI.vs rows.length x F e.symm))
   exact⟨this.frozenAt _,by rw[this.cellAt rows.length (by simp),F]⟩
  have hBw:=hI.glt
  rcases Nat.lt_or_ge k s.length with hlt|hge
  ·have qk:(((k:Nat):Int)==((s.length:Nat):Int))=false:=by rw[beq_eq_false_iff_ne];omega
   have hd:s.drop k=s[k]::s.drop (k+1):=List.drop_eq_getElem_cons hlt
   rw[hd]at hL
   obtain⟨b,hb⟩:∃ b,s[k]=b:=⟨_,rfl⟩
   rw[hb]at hL
   have hbv:(⟨⟨s⟩⟩:ByteArray)[k]'hlt=b:=hb
   rcases Classical.em (b=10)with rfl|G
   ·rw[Gb,if_pos rfl]at hL
    rcases wd with _|⟨c,wd⟩
    ·have hL:rows++ws::Gb (s.drop (k+1)) [] [] false=H3 s:=hL
     go_wp2_with (first
      |(at_builtin;refine Mu _ rfl _ _ 25 rfl w.heap.size 24 i24 _ 1 24 Tryz.underlying25 X Y hz1 hz2 rfl (by decide) _ (rows.length+1) (xs++[x]) rfl (hown.alloc _) ⟨wr.heap.size,0,none⟩ 1 1 [.slice none 0 0] rfl rfl (uE (by simp)) ?d2 (by decide) ?d3 ?d4 ?d5 ?_)
      | go_in)
     case d2=>exact fun u f=>by simp at f;subst f;rfl
     case d3=>simp only[maxLen];omega
     case d4=>omega
     case d5=>simp;omega
     intro v'' w4 y _ M z
     obtain⟨g',cap',rfl⟩:=MC y
     have hI4:=hI.more (by simpa using y) M (by simpa using Ajt z)
     go_wp2
     go_roundw
     case rel=>exact⟨k+1,[],false,g',cap',xs++[x],_,rows++[ws],[],by simp,rfl,rfl,by simp,hI4,by omega,by simpa using hL,by simp,by simp;omega,by simp⟩
     case measure=>simp[intOf];omega
    ·have hL:rows++(ws++[c::wd])::Gb (s.drop (k+1)) [] [] false=H3 s:=hL
     go_wp2_with (first
      |(at_builtin;refine Mu _ rfl _ _ 24 rfl w.heap.size 9 i9 _ 1 16 Tryz.underlying24 h9 A C D rfl (by decide) x ws.length (ws.map dI) rfl (q.alloc _) ⟨wr.heap.size,0,none⟩ 1 1 [dI (c::wd)] rfl rfl UN ?c2 (by decide) ?c3 ?c4 ?c5 ?_)
      | go_in)
     case c2=>exact fun u f=>by simp at f;subst f;rfl
     case c3=>simp only[maxLen];omega
     case c4=>omega
     case c5=>simp;omega
     intro v' w2 hn _ t l
     obtain⟨S,T⟩:=d _ _ t
     have hI3:=hI.push hn t (by simpa using l)
     obtain⟨U,c1,rfl⟩:=MC hn
     have V:(w2.setCell ⟨g,rows.length,none⟩ (.slice (some ⟨U,0,none⟩) (ws.length+1) c1)).ownsRow w.heap.size 24 1 (.slice (some ⟨g,0,none⟩) (rows.length+1) cap) (rows.length+1) (xs++[.slice (some ⟨U,0,none⟩) (ws.length+1) c1]):=by have:=hI3.own;simpa using this
     have hBw3:=hI3.glt
     go_wp2_with (first
      |(at_builtin;refine Mu _ rfl _ _ 25 rfl w.heap.size 24 i24 _ 1 24 Tryz.underlying25 X Y hz1 hz2 rfl (by decide) _ (rows.length+1) (xs++[.slice (some ⟨U,0,none⟩) (ws.length+1) c1]) rfl (V.alloc _) ⟨w2.heap.size,0,none⟩ 1 1 [.slice none 0 0] rfl rfl (uE (by simp)) ?d2 (by decide) ?d3 ?d4 ?d5 ?_)
      | go_in)
     case d2=>exact fun u f=>by simp at f;subst f;rfl
     case d3=>simp only[maxLen];omega
     case d4=>omega
     case d5=>have:=t.size;simp at this ⊢;omega
     intro v'' w4 y _ M z
     obtain⟨g',cap',rfl⟩:=MC y
     have hI4:=hI3.more (by simpa using y) M (by simpa using Ajt z)
     go_wp2
     go_roundw
     case rel=>exact⟨k+1,[],false,g',cap',xs++[.slice (some ⟨U,0,none⟩) (ws.length+1) c1],_,rows++[ws++[c::wd]],[],by simp,rfl,rfl,by simp,hI4,by omega,by simpa using hL,by simp,by simp;omega,by simp⟩
     case measure=>simp[intOf];omega
   ·rw[Gb,if_neg G]at hL
    have n10:(b.toNat:Int)≠10:=fun e=>G (UInt8.toNat_inj.1 (by exact Int.ofNat.inj e))
    have q10:((b.toNat:Int)==10)=false:=beq_false_of_ne n10
    rcases Classical.em (b=35)with rfl|I
    ·rw[if_pos rfl]at hL
     rcases wd with _|⟨c,wd⟩
     ·have hL:rows++Gb (s.drop (k+1)) ws [] true=H3 s:=hL
      go_wp2
      go_roundw
      case rel=>exact⟨k+1,[],true,g,cap,xs,x,rows,ws,by simp,rfl,rfl,by simp,hI,by omega,hL,by simp,by omega,by omega⟩
      case measure=>simp[intOf];omega
     ·have hL:rows++Gb (s.drop (k+1)) (ws++[c::wd]) [] true=H3 s:=hL
      go_wp2_with (first
       |(at_builtin;refine Mu _ rfl _ _ 24 rfl w.heap.size 9 i9 _ 1 16 Tryz.underlying24 h9 A C D rfl (by decide) x ws.length (ws.map dI) rfl (q.alloc _) ⟨wr.heap.size,0,none⟩ 1 1 [dI (c::wd)] rfl rfl UN ?c2 (by decide) ?c3 ?c4 ?c5 ?_)
       | go_in)
      case c2=>exact fun u f=>by simp at f;subst f;rfl
      case c3=>simp only[maxLen];omega
      case c4=>omega
      case c5=>simp;omega
      intro v' w2 hn _ t l
      obtain⟨S,T⟩:=d _ _ t
      have hI3:=hI.push hn t (by simpa using l)
      obtain⟨U,c1,rfl⟩:=MC hn
      go_wp2
      go_roundw
      case rel=>exact⟨k+1,[],true,g,cap,xs,_,rows,ws++[c::wd],by simp,rfl,rfl,by simp,hI3,by omega,hL,by simp,by omega,by simp;omega⟩
      case measure=>simp[intOf];omega
    ·rw[if_neg I]at hL
     have n35:(b.toNat:Int)≠35:=fun e=>I (UInt8.toNat_inj.1 (by exact Int.ofNat.inj e))
     have q35:((b.toNat:Int)==35)=false:=beq_false_of_ne n35
     rcases Classical.em (uD b=true)with n|n
     ·rw[if_pos n]at hL
      have hb3:b=32\/b=9\/b=13:=by
       unfold uD at n;simpa[G,I]using n
      rcases wd with _|⟨c,wd⟩
      ·have hL:rows++Gb (s.drop (k+1)) ws [] cm=H3 s:=hL
       rcases hb3 with rfl|rfl|rfl
       all_goals cases cm
       all_goals go_wp2
       all_goals go_roundw
       all_goals first
        |exact⟨k+1,[],_,g,cap,xs,x,rows,ws,by simp,rfl,rfl,by simp,hI,by omega,hL,by simp,by omega,by omega⟩
        |(simp[intOf];omega)
      ·have hL:rows++Gb (s.drop (k+1)) (ws++[c::wd]) [] cm=H3 s:=hL
       rcases hb3 with rfl|rfl|rfl
       all_goals cases cm
       all_goals go_wp2_with (first
        |(at_builtin;refine Mu _ rfl _ _ 24 rfl w.heap.size 9 i9 _ 1 16 Tryz.underlying24 h9 A C D rfl (by decide) x ws.length (ws.map dI) rfl (q.alloc _) ⟨wr.heap.size,0,none⟩ 1 1 [dI (c::wd)] rfl rfl UN (fun u f=>by simp at f;subst f;rfl) (by decide) (by simp only[maxLen];omega) (by omega) (by simp;omega) ?_)
        | go_in)
       all_goals intro v' w2 hn _ t l
       all_goals obtain⟨S,T⟩:=d _ _ t
       all_goals have hI3:=hI.push hn t (by simpa using l)
       all_goals obtain⟨U,c1,rfl⟩:=MC hn
       all_goals go_wp2
       all_goals go_roundw
       all_goals first
        |exact⟨k+1,[],_,g,cap,xs,_,rows,ws++[c::wd],by simp,rfl,rfl,by simp,hI3,by omega,hL,by simp,by omega,by simp;omega⟩
        |(simp[intOf];omega)
     ·rw[if_neg n]at hL
      have hne:b≠32/\b≠9/\b≠13:=by
       unfold uD at n;simpa[G,I]using n
      obtain⟨h32,h9b,h13⟩:=hne
      have n32:(b.toNat:Int)≠32:=fun e=>h32 (UInt8.toNat_inj.1 (by exact Int.ofNat.inj e))
      have q32:((b.toNat:Int)==32)=false:=beq_false_of_ne n32
      have p32:((b.toNat:Int) != 32)=true:=by rw[bne,q32];rfl
      have n9:(b.toNat:Int)≠9:=fun e=>h9b (UInt8.toNat_inj.1 (by exact Int.ofNat.inj e))
      have q9:((b.toNat:Int)==9)=false:=beq_false_of_ne n9
      have p9:((b.toNat:Int) != 9)=true:=by rw[bne,q9];rfl
      have n13:(b.toNat:Int)≠13:=fun e=>h13 (UInt8.toNat_inj.1 (by exact Int.ofNat.inj e))
      have q13:((b.toNat:Int)==13)=false:=beq_false_of_ne n13
      have p13:((b.toNat:Int) != 13)=true:=by rw[bne,q13];rfl
      cases cm
      ·have hL:rows++Gb (s.drop (k+1)) ws (wd++[b]) false=H3 s:=hL
       have hsl:∀ w:World,(Instr.slice 9 (.string ⟨⟨s⟩⟩) (some (.int .i64 (k:Int))) (some (.int .i64 ((k:Int)+1))) none).run Tryz.prog w=.ok (.string ⟨⟨[b]⟩⟩) w:=fun w=>by
        rw[run_slice_string w 9 ⟨⟨s⟩⟩ .i64 .i64 (k:Int) ((k:Int)+1) Tryz.underlying9 (by omega) (by omega) (by show(k:Int)+1<=((s.length:Nat):Int);omega)]
        congr 2
        apply ByteArray.ext
        rw[ByteArray.data_extract]
        apply Array.toList_inj.1
        rw[Array.toList_extract,show((k:Int)+1).toNat=k+1 by omega,Int.toNat_natCast]
        show List.take (k+1 - k) (List.drop k s)=[b]
        rw[hd,hb,Nat.add_sub_cancel_left];rfl
       have had:∀ w:World,(Op.stringOp .add ⟨⟨wd⟩⟩ ⟨⟨[b]⟩⟩).run Tryz.prog w=.ok (.string ⟨⟨wd++[b]⟩⟩) w:=fun w=>by
        rw[run_string_add_sum w _ _ (by show wd.length+1<=9223372036854775807;omega)]
        congr 2
       clear hd hb
       go_wp2
       go_roundw
       case rel=>exact⟨k+1,wd++[b],false,g,cap,xs,x,rows,ws,by simp,rfl,rfl,by simp,hI,by omega,hL,by simp;omega,by omega,by omega⟩
       case measure=>simp[intOf];omega
      ·have hL:rows++Gb (s.drop (k+1)) ws wd true=H3 s:=hL
       go_wp2
       go_roundw
       case rel=>exact⟨k+1,wd,true,g,cap,xs,x,rows,ws,by simp,rfl,rfl,by simp,hI,by omega,hL,by omega,by omega,by omega⟩
       case measure=>simp[intOf];omega
  ·obtain rfl:k=s.length:=by omega
   rw[List.drop_eq_nil_of_le (Nat.le_refl _),Gb]at hL
   rcases wd with _|⟨c,wd⟩
   ·go_wp2
    go_ret
    have hL:rows++[ws]=H3 s:=hL
    rw[<-hL]
    exact⟨g,cap,xs++[x],by simp,hI⟩
   ·have hL:rows++[ws++[c::wd]]=H3 s:=hL
    go_wp2_with (first
     |(at_builtin;refine Mu _ rfl _ _ 24 rfl w.heap.size 9 i9 _ 1 16 Tryz.underlying24 h9 A C D rfl (by decide) x ws.length (ws.map dI) rfl (q.alloc _) ⟨wr.heap.size,0,none⟩ 1 1 [dI (c::wd)] rfl rfl UN ?c2 (by decide) ?c3 ?c4 ?c5 ?_)
     | go_in)
    case c2=>exact fun u f=>by simp at f;subst f;rfl
    case c3=>simp only[maxLen];omega
    case c4=>omega
    case c5=>simp;omega
    intro v' w2 hn _ t l
    obtain⟨S,T⟩:=d _ _ t
    have hI3:=hI.push hn t (by simpa using l)
    obtain⟨U,c1,rfl⟩:=MC hn
    go_wp2
    go_ret
    rw[<-hL]
    exact⟨g,cap,_,by simp,hI3⟩
end Go.Proofs.Ln
namespace Gx
open Go Go.Proofs Go.Proofs.Ln Go.RowKit
def Ajv{P:Program}{f:Nat}{args:LA}{c:LA}{n:Nat}(F:c.length=n)
  (C:∀(J:Bool->Nat->Prop)(β:C3)(w:World)(vs:List Value),GlobOk J w->Reps J β [] w args vs->Calls P f vs.toArray w fun e w'=>∃(g cap:Nat)(cs:Array Value)(ty:TypeId)(G:Nat->Prop),e=.returned (.slice (some ⟨g,0,none⟩) n cap)/\Below w.heap.size w w'/\w.heap.size<=g/\w'.heap[g]?=some (.cells cs ty (0,0))/\n<=cap/\cs.size=cap/\(∀ k,G k->w.heap.size<=k/\k<w'.heap.size/\k≠g)/\RepCs G w' c (fun j=>cs[j]?) 0) :
  Aei P f args [] (A08 0 n) [(300000,bQ 1 c)]:=by
 intro J β w vs S hr
 refine(C J β w vs S.gl hr).mono ?_
 rintro e w' ⟨g,cap,cs,ty,G,rfl,B,I,z,hn,hs,hG,t⟩
 have d:∀{b:Nat}{x:Blk},Al [(300000,bQ 1 c)] b=some x->b=300000/\x=bQ 1 c:=fun{b x} h=>by
  rw[Al]at h
  cases q:beq 300000 b with
  |true=>rw[q,cond_true]at h;exact⟨(Aus q).symm,(Option.some.inj h).symm⟩
  |false=>rw[q,cond_false,Al]at h;cases h
 have u:(fun b=>if b=300000 then some (g,0)else β b) 300000=some (g,0):=by simp
 refine⟨_,(fun o k=>J o k\/G k),(fun b=>if b=300000 then some (g,0)else β b),rfl,⟨⟨fun o k h=>?_,fun k h=>?_,S.gl.to (fun _ h=>.inl h) (fun k l=>B.block k (S.jlt _ k l)),fun b x h _ _=>?_,fun b x h _ v=>?_,fun b M x x' k o o' h h' _ _ _ _ _=>?_⟩,B.os,B.tape,B.output,B.size,fun k l _=>B.block k l,fun k v l=>?_,fun _ _ h=>.inl h,fun o k h=>?_,fun k=>?_,fun b x0 x h=>by simp[Al]at h,fun b x h=>?_⟩,?_⟩
 ·rcases h with h|h
  ·exact Av3 (S.jlt o k h) B.size
  ·exact(hG k h).2.1
 ·exact h.imp (S.jft k) id
 ·obtain⟨rfl,rfl⟩:=d h
  refine .inr ⟨g,0,cs,ty,(0,0),u,z,FrTy.un0,by show 0+c.length<=_;omega,⟨fun _=>?_,fun y=>by cases y⟩,fun _ o s=>?_,fun y=>by cases y⟩
  ·show RepCs (fun k=>J false k\/G k) w' c (fun j=>cs[0+j]?) 0
   exact RepCs.keep (fun _ h=>.inr h) (fun _ _=>rfl) (fun j=>by rw[Aux]) t
  ·rcases s with s|s
   ·have:=S.jlt o g s;omega
   ·exact(hG g s).2.2 rfl
 ·obtain⟨rfl,rfl⟩:=d h;cases v
 ·rw[(d h).1,(d h').1]
 ·obtain⟨b,x,o,h,_,_,A⟩:=v
  obtain⟨rfl,rfl⟩:=d h
  rw[u]at A;cases A
  have D:g<w.heap.size:=l
  omega
 ·rcases h with h|h
  ·exact .inl h
  ·exact .inr (.inr (hG k h).1)
 ·by_cases l:k<w.heap.size
  ·simp[Bn,B.block k l]
  ·simp[Bn,Avy (Axb l)]
 ·obtain⟨rfl,rfl⟩:=d h;rfl
 ·rw[Rep]
  refine⟨_,_,cap,⟨rfl,rfl⟩,rfl,hn,.inr ⟨g,0,rfl,.inr ⟨u,?_,by show 0+n*1<=c.length;omega⟩⟩⟩
  rw[Ho z,hs];simp[bQ]
def Amu{G:Nat->Prop}{w:World}{B:Nat}{x:Value}{l:List Lu}(h:w.ownsRow B 9 1 x l.length (l.map dI))(hG:∀ k,x.ownBlock=some k->G k):RepC G w (lJ l) x:=by
 unfold lJ
 rw[RepC]
 rcases h.2 with⟨rfl,n⟩|⟨g,cap,cur,rfl,_,q,hn,_,hs,t⟩
 ·have:l=[]:=Axr n
  subst this
  exact⟨rfl,none,0,rfl,Aui _,(fun h=>by cases h),.inl rfl⟩
 ·refine⟨by simp,some ⟨g,0,none⟩,cap,rfl,hn,(fun h=>by cases h),.inr ⟨_,rfl,hG g rfl,?_⟩⟩
  rw[C6]
  intro j y f
  rw[Awb,Axn]at f
  obtain⟨s,d,rfl⟩:=f
  refine⟨dI s,?_,by rw[RepC];rfl⟩
  have:=h.cells (g:=g) rfl j (dI s) (by rw[Awb,d];rfl)
  simpa using this
def wX(N:Nat):i8 Tryz.prog 7 (fg N):=by
 intro args h res h' f
 have d:Yw N args h (fun v h'=>some (v,h'))=some (res,h'):=f
 unfold Yw at d
 split at d
 ·rename_i s
  rw[Yv,FQ]at d
  obtain⟨A,C⟩:=uc d
  simp only[Azh]at A
  simp only[Awf,Azc]at C
  obtain⟨rfl,rfl⟩:=C
  refine Ajv (by simp) fun J β w vs G hr=>?_
  obtain⟨u,rfl,e1⟩:=pC hr
  simp only[Rep]at e1;subst e1
  refine(Aju s A w).mono ?_
  rintro e w' ⟨g,cap,xs,rfl,hI⟩
  rcases hI.own.2 with⟨n,_⟩|⟨g',cap',cur,n,_,I,hn,_,hs,M⟩
  ·cases n
  ·cases n
   refine⟨g,cap,cur,24,fun k=>∃(i:Nat)(x:Value),xs[i]?=some x/\x.ownBlock=some k,rfl,hI.bel,hI.glt.1,I,hn,by omega,fun k ⟨i,x,q,t⟩=>⟨(hI.lt q t).1,(hI.lt q t).2,fun e=>hI.vs i x q (by rw[t,e])⟩,?_⟩
   rw[C6]
   intro j y D
   rw[Awb,Axn]at D
   obtain⟨l,F,rfl⟩:=D
   have z:=(Auw.1 F).1
   have hx:xs[j]?=some (xs[j]'(by rw[hI.len];exact z)):=Aug _
   refine⟨_,?_,Amu (hI.row j _ l hx F) fun k S=>⟨j,_,hx,S⟩⟩
   have:(cur.toList.take ((H3 s).length*1))[j]?=xs[j]?:=by rw[M]
   rw[List.getElem?_take_of_lt (by omega),hx]at this
   simpa using this
 ·cases d
noncomputable def zM(N:Nat):=Ai6 (fg N) (wX N)
end Gx
namespace Gx
open Go
mutual
def Aq7:AV->AV->Bool
|.int k n,.int k' n'=>Sc k k'&&decide (n=n')
|.bool b,.bool b'=>b==b'
|.str s,.str s'=>s==s'
|.nsl,.nsl=>true
|.imm c n s t o,.imm c' n' s' t' o'=>beq n n'&&(beq s s'&&(t==t'&&(o==o'&&mj c c')))
|.iptr c o,.iptr c' o'=>o==o'&&mj c c'
|.pagg c o,.pagg c' o'=>o==o'&&mj c c'
|.own b f n,.own b' f' n'=>beq b b'&&(beq f f'&&beq n n')
|.optr b f,.optr b' f'=>beq b b'&&beq f f'
|.agg c,.agg c'=>mj c c'
|.tup c,.tup c'=>mj c c'
|.fn f c,.fn f' c'=>beq f f'&&mj c c'
|.nilptr,.nilptr=>true
|.nilfn,.nilfn=>true
|.undef,.undef=>true
|.omap b,.omap b'=>beq b b'
|_,_=>false
def mj:List AV->List AV->Bool
|[],[]=>true
|x::r,y::q=>Aq7 x y&&mj r q
|_,_=>false
end
mutual
def Acg:∀ a b,Aq7 a b=true->a=b:=by
 intro a b h
 cases a<;>cases b<;>simp only[Aq7,Auh,Ayn,beq_iff_eq,Sc,decide_eq_true_eq,reduceCtorEq,Awq]at h
 case int.int=>rw[h.1,h.2]
 case bool.bool=>rw[h]
 case str.str=>rw[h]
 case nsl.nsl=>rfl
 case imm.imm=>rw[h.1,h.2.1,h.2.2.1,h.2.2.2.1,DC _ _ h.2.2.2.2]
 case iptr.iptr=>rw[h.1,DC _ _ h.2]
 case pagg.pagg=>rw[h.1,DC _ _ h.2]
 case own.own=>rw[h.1,h.2.1,h.2.2]
 case optr.optr=>rw[h.1,h.2]
 case agg.agg=>rw[DC _ _ h]
 case tup.tup=>rw[DC _ _ h]
 case fn.fn=>rw[h.1,DC _ _ h.2]
 case nilptr.nilptr=>rfl
 case nilfn.nilfn=>rfl
 case undef.undef=>rfl
 case omap.omap=>rw[h]
def DC:∀ a b,mj a b=true->a=b:=by
 intro a b h
 cases a<;>cases b<;>simp only[mj,Auh,Awq]at h
 ·rfl
 ·rw[Acg _ _ h.1,DC _ _ h.2]
end
def Aq8:Option (Nat×Nat)->Option (Nat×Nat)->Bool
|none,none=>true
|some (a,b),some (c,d)=>beq a c&&beq b d
|_,_=>false
def Arh(x y:Blk):Bool:=x.dead==y.dead&&(x.sealed==y.sealed&&(x.pure==y.pure&&(x.taint==y.taint&&(beq x.sz y.sz&&(x.mp==y.mp&&(Aq8 x.ty y.ty&&mj x.cells y.cells))))))
def Aod:Az->Az->Bool
|[],[]=>true
|(i,x)::r,(j,y)::q=>beq i j&&(Arh x y&&Aod r q)
|_,_=>false
def Ao1:∀ a b,Aq8 a b=true->a=b:=by
 intro a b h
 match a,b,h with
|none,none,_=>rfl
|some (a,b),some (c,d),h=>simp only[Aq8,Auh,Ayn]at h;rw[h.1,h.2]
|none,some _,h=>cases h
|some _,none,h=>simp[Aq8]at h
def Ao2(x y:Blk)(h:Arh x y=true):x=y:=by
 unfold Arh at h
 simp only[Auh,Ayn,beq_iff_eq]at h
 obtain⟨l,n,q,s,t,u,d,f⟩:=h
 have:=Ao1 _ _ d;have:=DC _ _ f
 cases x;cases y;simp_all
def Ach:∀ a b,Aod a b=true->a=b:=by
 intro a
 induction a with
|nil=>intro b h;cases b<;>simp[Aod]at h ⊢
| cons p r d =>
  intro b h
  cases b with
  |nil=>simp[Aod]at h
  |cons q s =>
   obtain⟨i,x⟩:=p;obtain⟨j,y⟩:=q
   simp only[Aod,Auh,Ayn]at h
   rw[h.1,Ao2 _ _ h.2.1,d _ h.2.2]
structure Pt where
 f:Nat
 args:List AV
 h:Az
 res:AV
 h':Az
def wY(P:Program)(p:Pt):Prop:=Aei P p.f p.args p.h p.res p.h'
def uF(P:Program):List Pt->Prop
|[]=>True
|p::r=>wY P p/\uF P r
def UO(f:Nat)(a:LA)(h:Az):List Pt->Option Pt
|[]=>none
|p::r=>cond (beq p.f f&&(mj p.args a&&Aod p.h h)) (some p) (UO f a h r)
def Ajw{R:Type}(k:AV->Az->O R)(alt:O R):Option Pt->O R
|some p=>k p.res p.h'
|none=>alt
def Ao3 (l:List Pt) (f:Nat) (t:Tw):Tw:=⟨fun {R} a h k=>Ajw k (t.runK a h k) (UO f a h l),fun {R} a h k=>by
 cases UO f a h l with
|none=>exact t.eq a h k
| some p=>rfl⟩
def uG{P:Program}{f:Nat}{a:LA}{h:Az}:∀{l:List Pt},uF P l->∀{p},UO f a h l=some p->Aei P f a h p.res p.h'
|[],_,p,e=>by simp[UO]at e
| q::r,H,p,e=>by
  unfold UO at e
  cases d:beq q.f f&&(mj q.args a&&Aod q.h h)with
  |false=>rw[d]at e;exact uG H.2 e
  |true =>
   rw[d]at e
   simp only[cond_true,Awf]at e
   subst e
   simp only[Auh,Ayn]at d
   have:=DC _ _ d.2.1;have:=Ach _ _ d.2.2
   obtain⟨rfl,_,_⟩:=d
   subst_vars;exact H.1
def Amv{P:Program}{l:List Pt}(H:uF P l){f:Nat}{t:Tw}(d:i8 P f t):i8 P f (Ao3 l f t):=by
 intro a h res h' e
 have e:Ajw (fun v h'=>some (v,h')) (t.runK a h fun v h'=>some (v,h')) (UO f a h l)=some (res,h'):=e
 cases hq:UO f a h l with
|none=>rw[hq]at e;exact d a h res h' e
|some p =>
  rw[hq]at e
  simp only[Ajw,Awf,Azc]at e
  obtain⟨rfl,rfl⟩:=e
  exact uG H hq
def Ao4(P:Program)(muts:Nat->List Bool)(N:Nat)(l:List Pt)(fs:List (Nat×Hints)):Nat->List (Nat×Tw)
|0=>[]
|d+1=>fs.map fun p=>(p.1,Ao3 l p.1 ⟨fun args h k=>pA P muts (Ao4 P muts N l fs d) p.2 N p.1 args h k,fun args h k=>by rw[LB,LB];exact cJ ..⟩)
def Ajx{P:Program}(f:P.follows .mixedOrders=true)(muts:Nat->List Bool)(N:Nat){l:List Pt}(H:uF P l)(fs:List (Nat×Hints)):∀ d,oh P (Ao4 P muts N l fs d)
|0=>trivial
| d+1=>by
  rw[Ao4]
  have key:∀(q:List (Nat×Hints)),oh P (q.map fun p=>((p.1,Ao3 l p.1 ⟨fun args h k=>pA P muts (Ao4 P muts N l fs d) p.2 N p.1 args h k,fun args h k=>by rw[LB,LB];exact cJ ..⟩):Nat×Tw)):=by
   intro q
   induction q with
   |nil=>trivial
   |cons p r n =>
    refine⟨Amv H ?_,n⟩
    intro args h res h' s
    exact TM (Ajx f muts N H fs d) f ((LB ..).symm.trans s)
  exact key fs
def Amw(f:Nat):List (Nat×Hints)->Hints
|[]=>⟨.leaf,[],[],[],[]⟩
|p::r=>cond (beq p.1 f) p.2 (Amw f r)
def fh(p:Pt):Option (AV×Az)->Bool
|some (v,h)=>Aq7 p.res v&&Aod p.h' h
|none=>false
def Aoe{P:Program}(n:P.follows .mixedOrders=true){muts:Nat->List Bool}{N:Nat}{l:List Pt}(H:uF P l){fs:List (Nat×Hints)}(d:Nat){p:Pt}
  (e:fh p (pA P muts (Ao4 P muts N l fs d) (Amw p.f fs) N p.f p.args p.h fun v h=>some (v,h))=true):wY P p:=by
 cases hq:pA P muts (Ao4 P muts N l fs d) (Amw p.f fs) N p.f p.args p.h fun v h=>some (v,h)with
|none=>rw[hq]at e;cases e
|some q =>
  rw[hq]at e
  obtain⟨v,h⟩:=q
  simp only[fh,Auh]at e
  have:=Acg _ _ e.1;have:=Ach _ _ e.2
  subst_vars
  exact TM (Ajx n muts N H fs d) n ((LB ..).symm.trans hq)
end Gx
namespace Gx
open Go Go.Proofs Go.RowKit
noncomputable section
variable{R:Type}(N:Nat)
def Cq(_N:Nat)(s:Lu)(c:Int)(r0:Int->O R):O R:=r0 (Lib.indexByte s c.toNat.toUInt8)
def Gm:=(Ae (@Cq R)).1
def Cd:@Gm R=@Cq R:=(Ae _).2
def Br(a:LA)(h:Az)(k:KF R):O R :=
 match a,h with
|[.str s,.int .u8 c],[]=>Gm N s c fun x=>k (.int .i64 x) []
|_,_=>none
def Jn:Tw:=⟨fun {R} a h k=>@Br R N a h k,fun {R} a h k=>by
 unfold Br
 split
 ·rw[Cd,Cd];rfl
 ·rfl⟩
end
def Jo(N:Nat):i8 Tryz.prog 105 (Jn N):=by
 intro args h res h' f
 have d:Br N args h (fun v h'=>some (v,h'))=some (res,h'):=f
 unfold Br at d
 split at d
 ·rename_i s c
  rw[Cd,Cq]at d
  simp at d
  obtain⟨rfl,rfl⟩:=d
  refine XI fun J β w vs G hr=>?_
  obtain⟨u,v,rfl,e1,l⟩:=pD hr
  simp only[Rep]at e1 l;subst e1 l
  refine(Any.stringslite_IndexByte {Tryz.lays145 with} ⟨⟨s⟩⟩ c w).mono ?_
  rintro e w' ⟨rfl,rfl⟩
  exact⟨_,rfl,Below.refl _ _,fun J β w=>by rw[Rep]⟩
 ·cases d
noncomputable def Vp(N:Nat):=Ai6 (Jn N) (Jo N)
end Gx
namespace Gx
open Go Go.Proofs
def wZ{P:Program}{p:Pt}{o:Option (AV×Az)}(h:∀ v h',o=some (v,h')->Aei P p.f p.args p.h v h')(e:fh p o=true):wY P p:=by
 cases hq:o with
|none=>rw[hq]at e;cases e
|some q =>
  rw[hq]at e
  obtain⟨v,h'⟩:=q
  simp only[fh,Auh]at e
  have d:=Acg _ _ e.1;have l:=Ach _ _ e.2
  unfold wY;rw[d,l]
  exact h _ _ hq
def Ao5(a:LA)(h:Az):Option (AV×Az):=match a,h with
|[.str s,.str t],[]=>Rw 0 s t fun x y b=>some (.tup [.str x,.str y,.bool b],[])
|_,_=>none
def Amx(a:LA)(h:Az)(v:AV)(h':Az)(d:Ao5 a h=some (v,h')):Aei Tryz.prog 21 a h v h':=by
 refine UM 0 _ _ _ _ (show Jz 0 a h (fun v h'=>some (v,h'))=some (v,h')from ?_)
 unfold Ao5 at d;unfold Jz
 split at d
 ·rw[Om];exact d
 ·cases d
def UP{p:Pt}(d:p.f=21)(e:fh p (Ao5 p.args p.h)=true):wY Tryz.prog p:=wZ (fun v h' l=>by rw[d];exact Amx _ _ _ _ l) e
def Ajy(a:LA)(h:Az):Option (AV×Az):=match a,h with
|[.str s],[]=>O8 0 s fun x=>some (.tup [.int .i64 x,.undef],[])
|_,_=>none
def Ajz(a:LA)(h:Az)(v:AV)(h':Az)(d:Ajy a h=some (v,h')):Aei Tryz.prog 166 a h v h':=by
 refine strconv_Atoi_ok 0 _ _ _ _ (show Il 0 a h (fun v h'=>some (v,h'))=some (v,h')from ?_)
 unfold Ajy at d;unfold Il
 split at d
 ·rw[Mt];exact d
 ·cases d
def XW{p:Pt}(d:p.f=166)(e:fh p (Ajy p.args p.h)=true):wY Tryz.prog p:=wZ (fun v h' l=>by rw[d];exact Ajz _ _ _ _ l) e
def w_(a:LA)(h:Az):Option (AV×Az):=match a,h with
|[.str s,.int .i64 c],[]=>On 0 s c fun x=>some (.str x,[])
|_,_=>none
def Aci(a:LA)(h:Az)(v:AV)(h':Az)(d:w_ a h=some (v,h')):Aei Tryz.prog 211 a h v h':=by
 refine IG 0 _ _ _ _ (show Gl 0 a h (fun v h'=>some (v,h'))=some (v,h')from ?_)
 unfold w_ at d;unfold Gl
 split at d
 ·rw[Nq];exact d
 ·cases d
def Agv{p:Pt}(d:p.f=211)(e:fh p (w_ p.args p.h)=true):wY Tryz.prog p:=wZ (fun v h' l=>by rw[d];exact Aci _ _ _ _ l) e
def Acj(a:LA)(h:Az):Option (AV×Az):=match a,h with
|[.str s,.int .u8 c],[]=>Cq 0 s c fun x=>some (.int .i64 x,[])
|_,_=>none
def Agw(a:LA)(h:Az)(v:AV)(h':Az)(d:Acj a h=some (v,h')):Aei Tryz.prog 105 a h v h':=by
 refine Jo 0 _ _ _ _ (show Br 0 a h (fun v h'=>some (v,h'))=some (v,h')from ?_)
 unfold Acj at d;unfold Br
 split at d
 ·rw[Cd];exact d
 ·cases d
def MD{p:Pt}(d:p.f=105)(e:fh p (Acj p.args p.h)=true):wY Tryz.prog p:=wZ (fun v h' l=>by rw[d];exact Agw _ _ _ _ l) e
end Gx
namespace Gx
open Go Go.Proofs
set_option maxRecDepth 100000
set_option linter.unusedVariables false
noncomputable section
def Ari:List (Nat×Hints):=[(11,{H:=hS hL (hS hL (hS hL (hS hL (hS (hS hL (hS (hP [0,2,5,6,7] hL) hL)) hL)))),modes:=[(3,0),(0,0),(0,0)],cob:=[13]}),(20,{H:=hS hL (hS hL (hS (hS hL (hS (hP [0,1,5] hL) hL)) hL))}),(22,{H:=hL,nils:=[(2,1)],modes:=[(2,1)]}),(24,{H:=hL,free:=[100001,100002,100003,100004,100005,100006,100007,100008,100009,100010,100011,100012,100013,100014,100015,100016,100017]}),(54,{H:=hS hL (hS hL (hS hL (hS (hS hL (hS (hP [0,1,5,6,14] hL) hL)) (hS hL (hS hL (hS (hS hL (hS (hP [0,9,47,48,49] hL) hL)) hL)))))),nils:=[(4,1)],modes:=[(2,1)]}),(60,{H:=hS hL (hS hL (hS (hS hL (hS (hP [1,5,10,11] hL) hL)) hL)),nils:=[(4,1),(5,1)],modes:=[(2,1)]}),(62,{H:=hL,free:=[100001,100002,100003,100004,100005,100006,100007,100008,100009,100010,100011,100012,100013,100014,100015,100016,100017],cob:=[2]}),(63,{H:=hL,free:=[100001,100002,100003,100004,100005,100006,100007,100008,100009,100010,100011,100012,100013,100014,100015,100016,100017],cob:=[2]}),(86,{H:=hS hL (hS hL (hS (hS hL (hS (hP [0,28,29] hL) hL)) hL))}),(106,{H:=hL,cob:=[4000020]}),(108,{H:=hL,free:=[100001,100002,100003,100004,100005,100006,100007,100008,100009,100010,100011,100012,100013,100014,100015,100016,100017]}),(111,{H:=hL,modes:=[(3,0)]}),(112,{H:=hS hL (hS hL (hS (hS (hP [0,1,5] hL) hL) hL)),nils:=[(4,1),(5,1)],modes:=[(2,1)]}),(128,{H:=hS hL (hS (hS hL (hS (hP [0,1,7,8] hL) hL)) hL)}),(136,{H:=hL,modes:=[(3,0),(0,0)]}),(137,{H:=hS hL (hS hL (hS hL (hS hL (hS hL (hS hL (hS (hS hL (hS (hP [1,5,35,36,37] hL) hL)) hL))))))}),(138,{H:=hL,modes:=[(3,0),(3,0),(0,0)]}),(148,{H:=hS hL (hS hL (hS (hS hL (hS (hP [3,7] hL) hL)) hL))}),(149,{H:=hS hL (hS hL (hS hL (hS hL (hS (hS (hP [0,2,3,4,5] hL) hL) hL)))),modes:=[(3,0)]}),(150,{H:=hL,modes:=[(3,0)]}),(152,{H:=hL,modes:=[(3,0)],cob:=[1]}),(153,{H:=hL,modes:=[(3,0)]}),(154,{H:=hS hL (hS hL (hS (hS (hP [0,3] hL) hL) (hS (hS (hP [0,3] hL) hL) hL)))}),(155,{H:=hL,modes:=[(3,0),(0,0)]}),(156,{H:=hS hL (hS hL (hS hL (hS hL (hS (hS hL (hS (hP [2,3,7,8,26,27,28] hL) hL)) hL)))),modes:=[(3,0),(3,0),(0,0)]}),(157,{H:=hL,modes:=[(3,0)]}),(165,{H:=hS hL (hS hL (hS (hS (hP [1,2,4,5] hL) hL) hL))}),(174,{H:=hL,nils:=[(3,1)],modes:=[(3,0),(1,1)]}),(176,{H:=hS hL (hS hL (hS hL (hS hL (hS (hS (hP [0,1,4,5,6,7] hL) hL) hL)))),modes:=[(3,0)]}),(179,{H:=hL,modes:=[(3,0),(0,0)],cob:=[2,3]}),(180,{H:=hS hL (hS hL (hS hL (hS (hS hL (hS (hP [0,4,5,6,7,8] hL) hL)) hL))),nils:=[(2,2),(4,2)],modes:=[(2,2),(0,0)]}),(181,{H:=hL,modes:=[(3,0),(3,0),(0,0)]}),(183,{H:=hL,modes:=[(3,0)]}),(184,{H:=hL,modes:=[(3,0)]}),(185,{H:=hS hL (hS hL (hS hL (hS hL (hS (hS hL (hS (hP [1,5,29,30,31] (hS hL (hS hL (hS (hS (hS hL (hS hL (hS hL (hS (hS hL (hS (hP [1,5,6,7,8,29,30,31,38,39,40] hL) hL)) hL)))) hL) hL)))) hL)) hL)))),nils:=[(4,1)],modes:=[(2,1)]}),(195,{H:=hS hL (hS (hS hL (hS (hP [0,6] hL) hL)) hL)}),(197,{H:=hL,nils:=[(2,1)],modes:=[(2,1)]}),(200,{H:=hS hL (hS hL (hS hL (hS hL (hS hL (hS (hS hL (hS (hP [0,1,5,6,24,25,26] hL) hL)) hL))))),nils:=[(4,1)],modes:=[(2,1)]}),(202,{H:=hL,nils:=[(2,1)],modes:=[(2,1)]}),(207,{H:=hS hL (hS hL (hS hL (hS (hS hL (hS (hP [0,1,5] hL) hL)) hL)))}),(212,{H:=hS hL (hS hL (hS (hS (hP [0,3] hL) hL) hL)),nils:=[(2,1)],modes:=[(2,1)]}),(225,{H:=hS hL (hS hL (hS (hS hL (hS (hP [3,6,7,8] hL) hL)) hL))})]++[10,21,23,25,53,55,56,57,58,59,61,68,87,105,107,109,110,113,139,147,151,162,163,164,166,167,168,169,170,171,172,173,178,194,196,203,204,205,206,211,219].map fun f=>(f,{H:=hL})
structure PtL where
 l:List Pt
 ok:uF Tryz.prog l
def Js(n:Nat)(c:LA):Blk:=⟨false,false,true,false,n,c,false,none⟩
def Si(s:PtL)(p:Pt)(e:fh p (pA Tryz.prog muts (Ao4 Tryz.prog muts 1000000 s.l Ari 9) (Amw p.f Ari) 1000000 p.f p.args p.h fun v h=>some (v,h))=true):PtL:=⟨p::s.l,Aoe follows s.ok _ e,s.ok⟩
def J_(s:PtL)(p:Pt)(e:wY Tryz.prog p):PtL:=⟨p::s.l,e,s.ok⟩
def pl:PtL:=⟨[],trivial⟩
def Ats:=J_ pl ⟨21,[.str [99,97,115,101,32,50,32,114,101,115,101,114,118,101,32,48,32,48,10,98,117,115,32,97,32,100,101,109,97,110,100,32,49,48,77,87,32,48,46,48,50,71,87,32,115,104,101,100,32,48,10],.str [10]],[],.tup [.str [99,97,115,101,32,50,32,114,101,115,101,114,118,101,32,48,32,48],.str [98,117,115,32,97,32,100,101,109,97,110,100,32,49,48,77,87,32,48,46,48,50,71,87,32,115,104,101,100,32,48,10],.bool true],[]⟩ (UP (by kernel_rfl) (by kernel_rfl))
def Att:=J_ Ats ⟨105,[.str [99,97,115,101,32,50,32,114,101,115,101,114,118,101,32,48,32,48],.int .u8 35],[],iv (-1),[]⟩ (MD (by kernel_rfl) (by kernel_rfl))
def Atu:=Si Att ⟨165,[.pagg [.bool false,.imm [.int .u32 10] 1 1 false true] true,iv 9],[],.agg [.bool false,.own 300000 0 1],[(300000,Js 1 [.int .u32 1000000000,.int .u32 0])]⟩ (by kernel_rfl)
def Atv:=J_ Atu ⟨166,[.str [50]],[],.tup [iv 2,.undef],[]⟩ (XW (by kernel_rfl) (by kernel_rfl))
def Atw:=Si Atv ⟨149,[.str [50]],[],.pagg [.bool false,.imm [.int .u32 2] 1 1 false false] false,[]⟩ (by kernel_rfl)
def Atx:=Si Atw ⟨151,[.pagg [.bool false,.imm [.int .u32 2] 1 1 false false,.imm [.int .u32 1] 1 1 false false] false,.pagg [.bool false,.imm [.int .u32 1073741824] 1 1 false false,.imm [.int .u32 1] 1 1 false false] false],[],iv (-1),[]⟩ (by kernel_rfl)
def Aty:=Si Atx ⟨137,[.pagg [.bool false,.imm [.int .u32 2] 1 1 false false,.imm [.int .u32 1] 1 1 false false] false],[],.tup [iv 2,.bool true],[]⟩ (by kernel_rfl)
def Atz:=J_ Aty ⟨166,[.str [48]],[],.tup [iv 0,.undef],[]⟩ (XW (by kernel_rfl) (by kernel_rfl))
def At0:=Si Atz ⟨149,[.str [48]],[],.pagg [.bool false,.imm [] 0 1 false false] false,[]⟩ (by kernel_rfl)
def At1:=J_ At0 ⟨166,[.str [49]],[],.tup [iv 1,.undef],[]⟩ (XW (by kernel_rfl) (by kernel_rfl))
def Arj:=Si At1 ⟨149,[.str [49]],[],.pagg [.bool false,.imm [.int .u32 1] 1 1 false false] false,[]⟩ (by kernel_rfl)
def Ark:=Si Arj ⟨155,[.str [48]],[],.tup [.pagg [.bool false,.imm [] 0 1 false false,.imm [.int .u32 1] 1 1 false false] false,iv 0],[]⟩ (by kernel_rfl)
def Arl:=Si Ark ⟨137,[.pagg [.bool false,.imm [] 0 1 false false,.imm [.int .u32 1] 1 1 false false] false],[],.tup [iv 0,.bool true],[]⟩ (by kernel_rfl)
def Atg:Az:=[(100011,Js 1 []),(100012,Js 1 []),(100013,Js 1 []),(100014,Js 1 []),(100015,Js 1 [])]
def Arm:Az:=(100003,Js 3 [])::(100004,Js 12 [])::(100005,Js 22 [])::(100006,Js 9 [])::(100007,Js 5 [])::(100008,Js 4 [])::(100009,Js 1 [])::(100010,Js 1 [])::Atg
def Ath:Az:=(100002,Js 1 [])::Arm
def Arn:=Si Arl ⟨24,[.optr 100000 0],(100000,⟨false,false,false,false,0,[.own 100001 0 5,iv 0,iv 0,iv 0,.own 100002 0 0,.own 100003 0 0,.own 100004 0 0,.own 100005 0 0,.own 100006 0 0,.own 100007 0 0,.own 100008 0 0,.bool false,.own 100009 0 0,.own 100010 0 0,.own 100011 0 0,.own 100012 0 0,.own 100013 0 0,.own 100014 0 0,.own 100015 0 0],false,none⟩)::(100001,Js 1 [.str [99,97,115,101],.str [50],.str [114,101,115,101,114,118,101],.str [48],.str [48]])::Ath,.tup [],[(100000,⟨false,false,false,false,0,[.own 300000 0 5,iv 5,iv 0,iv 2,.own 300015 0 2,.own 300002 0 0,.own 300003 0 0,.own 300004 0 0,.own 300005 0 0,.own 300006 0 0,.own 300007 0 0,.bool true,.own 300008 0 0,.own 300009 0 0,.own 300010 0 0,.own 300011 0 0,.own 300012 0 0,.own 300013 0 0,.own 300014 0 0],false,none⟩),(300000,Js 1 [.str [99,97,115,101],.str [50],.str [114,101,115,101,114,118,101],.str [48],.str [48]]),(300001,Js 1 []),(300002,Js 3 []),(300003,Js 12 []),(300004,Js 22 []),(300005,Js 9 []),(300006,Js 5 []),(300007,Js 4 []),(300008,Js 1 []),(300009,Js 1 []),(300010,Js 1 []),(300011,Js 1 []),(300012,Js 1 []),(300013,Js 1 []),(300014,Js 1 []),(300015,Js 1 [iv 0,iv 0])]⟩ (by kernel_rfl)
def Aro:=J_ Arn ⟨21,[.str [98,117,115,32,97,32,100,101,109,97,110,100,32,49,48,77,87,32,48,46,48,50,71,87,32,115,104,101,100,32,48,10],.str [10]],[],.tup [.str [98,117,115,32,97,32,100,101,109,97,110,100,32,49,48,77,87,32,48,46,48,50,71,87,32,115,104,101,100,32,48],.str [],.bool true],[]⟩ (UP (by kernel_rfl) (by kernel_rfl))
def Arp:=J_ Aro ⟨105,[.str [98,117,115,32,97,32,100,101,109,97,110,100,32,49,48,77,87,32,48,46,48,50,71,87,32,115,104,101,100,32,48],.int .u8 35],[],iv (-1),[]⟩ (MD (by kernel_rfl) (by kernel_rfl))
def Arq:=Si Arp ⟨54,[.str [98,117,115,32,97,32,100,101,109,97,110,100,32,49,48,77,87,32,48,46,48,50,71,87,32,115,104,101,100,32,48],.fn 55 []],[],.own 300000 0 7,[(300000,Js 1 [.str [98,117,115],.str [97],.str [100,101,109,97,110,100],.str [49,48,77,87],.str [48,46,48,50,71,87],.str [115,104,101,100],.str [48]])]⟩ (by kernel_rfl)
def Arr:=J_ Arq ⟨166,[.str [49,48]],[],.tup [iv 10,.undef],[]⟩ (XW (by kernel_rfl) (by kernel_rfl))
def Ars:=Si Arr ⟨149,[.str [49,48]],[],.pagg [.bool false,.imm [.int .u32 10] 1 1 false false] false,[]⟩ (by kernel_rfl)
def Art:=Si Ars ⟨155,[.str [49,48]],[],.tup [.pagg [.bool false,.imm [.int .u32 10] 1 1 false false,.imm [.int .u32 1] 1 1 false false] false,iv 0],[]⟩ (by kernel_rfl)
def Aru:=Si Art ⟨184,[.pagg [iv 1,iv 1] false],[],.pagg [.bool false,.imm [.int .u32 1] 1 1 false false,.imm [.int .u32 1] 1 1 false false] false,[]⟩ (by kernel_rfl)
def Arv:=Si Aru ⟨156,[.str [77,87]],[],.tup [.pagg [.bool false,.imm [.int .u32 1] 1 1 false false,.imm [.int .u32 1] 1 1 false false] false,.pagg [iv 1,iv 0,iv 0,iv 0] false,iv 0],[]⟩ (by kernel_rfl)
def Arw:=Si Arv ⟨151,[.pagg [.bool false,.imm [.int .u32 10] 1 1 false false,.imm [.int .u32 1] 1 1 false false] false,.pagg [.bool false,.imm [.int .u32 1073741824] 1 1 false false,.imm [.int .u32 1] 1 1 false false] false],[],iv (-1),[]⟩ (by kernel_rfl)
def Arx:=Si Arw ⟨137,[.pagg [.bool false,.imm [.int .u32 10] 1 1 false false,.imm [.int .u32 1] 1 1 false false] false],[],.tup [iv 10,.bool true],[]⟩ (by kernel_rfl)
def Ary:Az:=(100001,Js 1 [.str [98,117,115],.str [97],.str [100,101,109,97,110,100],.str [49,48,77,87],.str [48,46,48,50,71,87],.str [115,104,101,100],.str [48]])::(100002,Js 1 [iv 0,iv 0])::(100003,Js 3 [])::(100004,Js 12 [])::(100005,Js 22 [])::(100006,Js 9 [])::(100007,Js 5 [])::(100008,Js 4 [])::(100009,Js 1 [])::(100010,Js 1 [.str [97]])::Atg
def Ati:Az:=(100000,⟨false,false,false,false,0,[.own 100001 0 7,iv 4,iv 0,iv 2,.own 100002 0 2,.own 100003 0 0,.own 100004 0 0,.own 100005 0 0,.own 100006 0 0,.own 100007 0 0,.own 100008 0 0,.bool true,.own 100009 0 0,.own 100010 0 1,.own 100011 0 0,.own 100012 0 0,.own 100013 0 0,.own 100014 0 0,.own 100015 0 0],false,none⟩)::Ary
def Arz:=Si Arx ⟨107,[.optr 100000 0,.pagg [iv 1,iv 0,iv 0,iv 0] false],(100000,⟨false,false,false,false,0,[.own 100001 0 7,iv 3,iv 0,iv 2,.own 100002 0 2,.own 100003 0 0,.own 100004 0 0,.own 100005 0 0,.own 100006 0 0,.own 100007 0 0,.own 100008 0 0,.bool true,.own 100009 0 0,.own 100010 0 1,.own 100011 0 0,.own 100012 0 0,.own 100013 0 0,.own 100014 0 0,.own 100015 0 0],false,none⟩)::Ary,iv 10,Ati⟩ (by kernel_rfl)
def Ar0:=J_ Arz ⟨21,[.str [48,46,48,50],.str [47]],[],.tup [.str [48,46,48,50],.str [],.bool false],[]⟩ (UP (by kernel_rfl) (by kernel_rfl))
def Ar1:=J_ Ar0 ⟨21,[.str [48,46,48,50],.str [46]],[],.tup [.str [48],.str [48,50],.bool true],[]⟩ (UP (by kernel_rfl) (by kernel_rfl))
def Ar2:=J_ Ar1 ⟨211,[.str [48],iv 2],[],.str [48,48],[]⟩ (Agv (by kernel_rfl) (by kernel_rfl))
def Ar3:=J_ Ar2 ⟨166,[.str [48,48,50]],[],.tup [iv 2,.undef],[]⟩ (XW (by kernel_rfl) (by kernel_rfl))
def Ar4:=Si Ar3 ⟨149,[.str [48,48,50]],[],.pagg [.bool false,.imm [.int .u32 2] 1 1 false false] false,[]⟩ (by kernel_rfl)
def Ar5:=J_ Ar4 ⟨166,[.str [49,48,48]],[],.tup [iv 100,.undef],[]⟩ (XW (by kernel_rfl) (by kernel_rfl))
def Ar6:=Si Ar5 ⟨149,[.str [49,48,48]],[],.pagg [.bool false,.imm [.int .u32 100] 1 1 false false] false,[]⟩ (by kernel_rfl)
def Ar7:=Si Ar6 ⟨155,[.str [48,46,48,50]],[],.tup [.pagg [.bool false,.imm [.int .u32 1] 1 1 false false,.imm [.int .u32 50] 1 1 false false] false,iv 0],[]⟩ (by kernel_rfl)
def Ar8:=Si Ar7 ⟨184,[.pagg [iv 1000,iv 1] false],[],.pagg [.bool false,.imm [.int .u32 1000] 1 1 false false,.imm [.int .u32 1] 1 1 false false] false,[]⟩ (by kernel_rfl)
def Ar9:=Si Ar8 ⟨156,[.str [71,87]],[],.tup [.pagg [.bool false,.imm [.int .u32 1000] 1 1 false false,.imm [.int .u32 1] 1 1 false false] false,.pagg [iv 1,iv 0,iv 0,iv 0] false,iv 0],[]⟩ (by kernel_rfl)
def Asa:=Si Ar9 ⟨151,[.pagg [.bool false,.imm [.int .u32 20] 1 1 false false,.imm [.int .u32 1] 1 1 false false] false,.pagg [.bool false,.imm [.int .u32 1073741824] 1 1 false false,.imm [.int .u32 1] 1 1 false false] false],[],iv (-1),[]⟩ (by kernel_rfl)
def Asb:=Si Asa ⟨137,[.pagg [.bool false,.imm [.int .u32 20] 1 1 false false,.imm [.int .u32 1] 1 1 false false] false],[],.tup [iv 20,.bool true],[]⟩ (by kernel_rfl)
def Asc:=Si Asb ⟨107,[.optr 100000 0,.pagg [iv 1,iv 0,iv 0,iv 0] false],Ati,iv 20,(100000,⟨false,false,false,false,0,[.own 100001 0 7,iv 5,iv 0,iv 2,.own 100002 0 2,.own 100003 0 0,.own 100004 0 0,.own 100005 0 0,.own 100006 0 0,.own 100007 0 0,.own 100008 0 0,.bool true,.own 100009 0 0,.own 100010 0 1,.own 100011 0 0,.own 100012 0 0,.own 100013 0 0,.own 100014 0 0,.own 100015 0 0],false,none⟩)::Ary⟩ (by kernel_rfl)
def Atj:Az:=[(300011,Js 1 []),(300012,Js 1 []),(300013,Js 1 []),(300014,Js 1 [])]
def Asd:=Si Asc ⟨62,[.optr 100000 0],(100000,⟨false,false,false,false,0,[.own 100001 0 7,iv 1,iv 0,iv 2,.own 100002 0 2,.own 100003 0 0,.own 100004 0 0,.own 100005 0 0,.own 100006 0 0,.own 100007 0 0,.own 100008 0 0,.bool true,.own 100009 0 0,.own 100010 0 0,.own 100011 0 0,.own 100012 0 0,.own 100013 0 0,.own 100014 0 0,.own 100015 0 0],false,none⟩)::(100001,Js 1 [.str [98,117,115],.str [97],.str [100,101,109,97,110,100],.str [49,48,77,87],.str [48,46,48,50,71,87],.str [115,104,101,100],.str [48]])::(100002,Js 1 [iv 0,iv 0])::Arm,.tup [],(100000,⟨false,false,false,false,0,[.own 300000 0 7,iv 7,iv 0,iv 2,.own 300001 0 2,.own 300002 0 1,.own 300003 0 0,.own 300004 0 0,.own 300005 0 0,.own 300006 0 0,.own 300007 0 0,.bool true,.own 300008 0 0,.own 300009 0 1,.own 300010 0 0,.own 300011 0 0,.own 300012 0 0,.own 300013 0 0,.own 300014 0 0],false,none⟩)::(300000,Js 1 [.str [98,117,115],.str [97],.str [100,101,109,97,110,100],.str [49,48,77,87],.str [48,46,48,50,71,87],.str [115,104,101,100],.str [48]])::(300001,Js 1 [iv 0,iv 0])::(300002,Js 3 [.str [97],.imm [iv 10,iv 20] 2 1 false false,iv 0])::(300003,Js 12 [])::(300004,Js 22 [])::(300005,Js 9 [])::(300006,Js 5 [])::(300007,Js 4 [])::(300008,Js 1 [])::(300009,Js 1 [.str [97]])::(300010,Js 1 [])::Atj⟩ (by kernel_rfl)
def Ase:=J_ Asd ⟨21,[.str [],.str [10]],[],.tup [.str [],.str [],.bool false],[]⟩ (UP (by kernel_rfl) (by kernel_rfl))
def Asf:=J_ Ase ⟨105,[.str [],.int .u8 35],[],iv (-1),[]⟩ (MD (by kernel_rfl) (by kernel_rfl))
def Asg:=Si Asf ⟨11,[.str [99,97,115,101,32,50,32,114,101,115,101,114,118,101,32,48,32,48,10,98,117,115,32,97,32,100,101,109,97,110,100,32,49,48,77,87,32,48,46,48,50,71,87,32,115,104,101,100,32,48,10]],[],.tup [.pagg [iv 2,.imm [iv 0,iv 0] 2 1 false false,.imm [.str [97],.imm [iv 10,iv 20] 2 1 false false,iv 0] 1 3 false false,.imm [] 0 12 false false,.imm [] 0 22 false false,.imm [] 0 9 false false,.imm [] 0 5 false false,.imm [] 0 4 false false] false,iv 0,iv 0],[]⟩ (by kernel_rfl)
def Ash:=J_ Asg ⟨21,[.str [99,97,115,101,32,49,32,114,101,115,101,114,118,101,32,48,10,108,105,110,101,32,108,32,97,32,98,32,120,32,49,32,115,104,105,102,116,32,48,32,48,32,108,105,109,105,116,32,49,32,49,32,97,119,97,121],.str [10]],[],.tup [.str [99,97,115,101,32,49,32,114,101,115,101,114,118,101,32,48],.str [108,105,110,101,32,108,32,97,32,98,32,120,32,49,32,115,104,105,102,116,32,48,32,48,32,108,105,109,105,116,32,49,32,49,32,97,119,97,121],.bool true],[]⟩ (UP (by kernel_rfl) (by kernel_rfl))
def Asi:=J_ Ash ⟨105,[.str [99,97,115,101,32,49,32,114,101,115,101,114,118,101,32,48],.int .u8 35],[],iv (-1),[]⟩ (MD (by kernel_rfl) (by kernel_rfl))
def Asj:=Si Asi ⟨151,[.pagg [.bool false,.imm [.int .u32 1] 1 1 false false,.imm [.int .u32 1] 1 1 false false] false,.pagg [.bool false,.imm [.int .u32 1073741824] 1 1 false false,.imm [.int .u32 1] 1 1 false false] false],[],iv (-1),[]⟩ (by kernel_rfl)
def Ask:=Si Asj ⟨137,[.pagg [.bool false,.imm [.int .u32 1] 1 1 false false,.imm [.int .u32 1] 1 1 false false] false],[],.tup [iv 1,.bool true],[]⟩ (by kernel_rfl)
def Asl:=Si Ask ⟨24,[.optr 100000 0],(100000,⟨false,false,false,false,0,[.own 100001 0 4,iv 0,iv 0,iv 0,.own 100002 0 0,.own 100003 0 0,.own 100004 0 0,.own 100005 0 0,.own 100006 0 0,.own 100007 0 0,.own 100008 0 0,.bool false,.own 100009 0 0,.own 100010 0 0,.own 100011 0 0,.own 100012 0 0,.own 100013 0 0,.own 100014 0 0,.own 100015 0 0],false,none⟩)::(100001,Js 1 [.str [99,97,115,101],.str [49],.str [114,101,115,101,114,118,101],.str [48]])::Ath,.tup [],[(100000,⟨false,false,false,false,0,[.own 300000 0 4,iv 4,iv 0,iv 1,.own 300015 0 1,.own 300002 0 0,.own 300003 0 0,.own 300004 0 0,.own 300005 0 0,.own 300006 0 0,.own 300007 0 0,.bool true,.own 300008 0 0,.own 300009 0 0,.own 300010 0 0,.own 300011 0 0,.own 300012 0 0,.own 300013 0 0,.own 300014 0 0],false,none⟩),(300000,Js 1 [.str [99,97,115,101],.str [49],.str [114,101,115,101,114,118,101],.str [48]]),(300001,Js 1 []),(300002,Js 3 []),(300003,Js 12 []),(300004,Js 22 []),(300005,Js 9 []),(300006,Js 5 []),(300007,Js 4 []),(300008,Js 1 []),(300009,Js 1 []),(300010,Js 1 []),(300011,Js 1 []),(300012,Js 1 []),(300013,Js 1 []),(300014,Js 1 []),(300015,Js 1 [iv 0])]⟩ (by kernel_rfl)
def Asm:=J_ Asl ⟨21,[.str [108,105,110,101,32,108,32,97,32,98,32,120,32,49,32,115,104,105,102,116,32,48,32,48,32,108,105,109,105,116,32,49,32,49,32,97,119,97,121],.str [10]],[],.tup [.str [108,105,110,101,32,108,32,97,32,98,32,120,32,49,32,115,104,105,102,116,32,48,32,48,32,108,105,109,105,116,32,49,32,49,32,97,119,97,121],.str [],.bool false],[]⟩ (UP (by kernel_rfl) (by kernel_rfl))
def Asn:=J_ Asm ⟨105,[.str [108,105,110,101,32,108,32,97,32,98,32,120,32,49,32,115,104,105,102,116,32,48,32,48,32,108,105,109,105,116,32,49,32,49,32,97,119,97,121],.int .u8 35],[],iv (-1),[]⟩ (MD (by kernel_rfl) (by kernel_rfl))
def Aso:=Si Asn ⟨54,[.str [108,105,110,101,32,108,32,97,32,98,32,120,32,49,32,115,104,105,102,116,32,48,32,48,32,108,105,109,105,116,32,49,32,49,32,97,119,97,121],.fn 55 []],[],.own 300000 0 13,[(300000,Js 1 [.str [108,105,110,101],.str [108],.str [97],.str [98],.str [120],.str [49],.str [115,104,105,102,116],.str [48],.str [48],.str [108,105,109,105,116],.str [49],.str [49],.str [97,119,97,121]])]⟩ (by kernel_rfl)
def Asp:=Si Aso ⟨63,[.optr 100000 0],(100000,⟨false,false,false,false,0,[.own 100001 0 13,iv 1,iv 0,iv 1,.own 100002 0 1,.own 100003 0 0,.own 100004 0 0,.own 100005 0 0,.own 100006 0 0,.own 100007 0 0,.own 100008 0 0,.bool true,.own 100009 0 0,.own 100010 0 0,.own 100011 0 0,.own 100012 0 0,.own 100013 0 0,.own 100014 0 0,.own 100015 0 0],false,none⟩)::(100001,Js 1 [.str [108,105,110,101],.str [108],.str [97],.str [98],.str [120],.str [49],.str [115,104,105,102,116],.str [48],.str [48],.str [108,105,109,105,116],.str [49],.str [49],.str [97,119,97,121]])::(100002,Js 1 [iv 0])::Arm,.tup [],(100000,⟨false,false,false,false,0,[.own 300000 0 13,iv 3,iv 12,iv 1,.own 300001 0 1,.own 300002 0 0,.own 300003 0 1,.own 300004 0 0,.own 300005 0 0,.own 300006 0 0,.own 300007 0 0,.bool true,.own 300008 0 0,.own 300009 0 0,.own 300010 0 1,.own 300011 0 0,.own 300012 0 0,.own 300013 0 0,.own 300014 0 0],false,none⟩)::(300000,Js 1 [.str [108,105,110,101],.str [108],.str [97],.str [98],.str [120],.str [49],.str [115,104,105,102,116],.str [48],.str [48],.str [108,105,109,105,116],.str [49],.str [49],.str [97,119,97,121]])::(300001,Js 1 [iv 0])::(300002,Js 3 [])::(300003,Js 12 [.str [108],iv 0,iv 0,iv 0,iv 0,iv 0,iv 0,iv 0,iv 0,iv 0,iv 0,.imm [] 0 1 false false])::(300004,Js 22 [])::(300005,Js 9 [])::(300006,Js 5 [])::(300007,Js 4 [])::(300008,Js 1 [])::(300009,Js 1 [])::(300010,Js 1 [.str [108]])::Atj⟩ (by kernel_rfl)
def Asq:=Si Asp ⟨11,[.str [99,97,115,101,32,49,32,114,101,115,101,114,118,101,32,48,10,108,105,110,101,32,108,32,97,32,98,32,120,32,49,32,115,104,105,102,116,32,48,32,48,32,108,105,109,105,116,32,49,32,49,32,97,119,97,121]],[],.tup [.pagg [iv 0,.nsl,.nsl,.nsl,.nsl,.nsl,.nsl,.nsl] false,iv 2,iv 12],[]⟩ (by kernel_rfl)
def Asr:=J_ Asq ⟨21,[.str [98,117,115,32,97],.str [10]],[],.tup [.str [98,117,115,32,97],.str [],.bool false],[]⟩ (UP (by kernel_rfl) (by kernel_rfl))
def At2:=J_ Asr ⟨105,[.str [98,117,115,32,97],.int .u8 35],[],iv (-1),[]⟩ (MD (by kernel_rfl) (by kernel_rfl))
def jS:Aei Tryz.prog 10 [] [] (.bool true) []:=Aoe follows (muts:=muts) (N:=1000000) At2.ok (fs:=Ari) 9 (p:=⟨10,[],[],.bool true,[]⟩) (by kernel_rfl)
end
end Gx
namespace Gx
open Go Go.Proofs
noncomputable section
variable{R:Type}(N:Nat)
def OY(_N:Nat)(r0:Bool->O R):O R:=r0 true
def Uu:=(Ae (@OY R)).1
def Oo:@Uu R=@OY R:=(Ae _).2
def sZ:Bd Tryz.prog:=⟨10,fun
|[],[]=>some fun _ k=>Uu N fun b=>k (.bool b) []
| _,_=>none,(fun a h g e R k=>by
  split at e
  ·cases e;dsimp only;rw[Oo,Oo];rfl
  ·cases e),(fun a h g res h' e hh=>by
  split at e
  ·cases e;dsimp only at hh;rw[Oo]at hh;cases hh;exact jS
  ·cases e)⟩
end
end Gx
namespace Gx
open Go Go.Proofs
set_option maxRecDepth 100000
noncomputable section
variable{R:Type}(N:Nat)
def Vq(k0:Int->LA->O R)(r0:LA->Int->O R)(b:Bool)(a:LA)(i:Int)(aj:LA):O R:=(cond (ble 8 a.length) (Dd N (a.take 8) b 1 i aj fun ak=>cond (ble 8 a.length) (By 3 (a.drop 2) fun al am=>cond (Ai i am) (By 1 ((al.drop (i.toNat*3)).drop 1) fun an ao=>Dx N (a.take 8) b an ao false b 0 1048576 1 i 1 ak fun ap=>By 3 (a.drop 2) fun aq ar=>cond (Ai i ar) (Bf .i64 ((aq.drop (i.toNat*3)).drop 2) fun au=>Aq N 0 1048576 [.int .i64 au] 1 false true fun av=>Aa N av 1 i 2 3 ap fun aw=>k0 (wrap .i64 (i+1)) aw) none) none) none) none)
def Vr(k7:Int->LA->O R)(k9:Int->Int->LA->O R)(r0:LA->Int->O R)(c d:Nat)(b:Bool)(a f g:LA)(k10:Int->Int->Nat->Int->LA->LA->O R)(o l:Int)(j:Nat)(m:Int)(w x:LA):O R:=(cond (decide (m<(d:Int))) (By 4 (a.drop 7) fun ax ay=>cond (Ai l ay) (By 1 ((ax.drop (l.toNat*4)).drop 1) fun az ba=>cond (Ai m d) (Bf .i64 (g.drop (0+(m.toNat*1))) fun bb=>N' N az ba false b bb fun bc=>cond bc (cond ((ble (j+1) 140737488355328)&&(ble ((j+1)*8) 140737488355328)) (k10 o l (j+1) (wrap .i64 (m+1)) w ((x.take (j*1))++[.int .i64 m])) none) (k10 o l j (wrap .i64 (m+1)) w x)) none) none) (By 3 (a.drop 2) fun ce bd=>Sv N (bd:Int) (f.take (c*2)) c false true (x.take (j*1)) j false true fun be=>Aa N (!be) 6 l o 13 w fun bf=>k9 o (wrap .i64 (l+1)) bf))
def Ll(k7:Int->LA->O R)(k9:Int->Int->LA->O R)(r0:LA->Int->O R)(c d:Nat)(b:Bool)(a f g:LA):Nat->Int->Int->Nat->Int->LA->LA->O R
|0=>fun _ _ _ _ _ _=>none
|n+1=>Vr N k7 k9 r0 c d b a f g (Ll k7 k9 r0 c d b a f g n)
def Yx(N:Nat)(k7:Int->LA->O R)(r0:LA->Int->O R)(c d:Nat)(b:Bool)(a f g:LA)(k9:Int->Int->LA->O R)(q10:Int->Int->Nat->Int->LA->LA->O R)(ae af:Int)(ag:LA):O R:=(By 4 (a.drop 7) fun cf bg=>cond (decide (af<(bg:Int))) (q10 ae af 0 0 ag []) (k7 (wrap .i64 (ae+1)) ag))
def Kf(k7:Int->LA->O R)(r0:LA->Int->O R)(c d:Nat)(b:Bool)(a f g:LA):Nat->Int->Int->LA->O R
|0=>fun _ _ _=>none
|n+1=>Yx N k7 r0 c d b a f g (Kf k7 r0 c d b a f g n) (Ll N k7 (Kf k7 r0 c d b a f g n) r0 c d b a f g N)
def KA(k7:Int->LA->O R)(r0:LA->Int->O R)(b:Bool)(a:LA)(q9:Nat->Nat->LA->LA->Int->Int->LA->O R)(p:Int)(y:LA):O R:=(cond (ble 8 a.length) (LN N (a.take 8) b p fun c d f g=>q9 c d f g p 0 y) none)
def DD(k7:Int->LA->O R)(r0:LA->Int->O R)(b:Bool)(a:LA)(p:Int)(y:LA):O R:=KA N k7 r0 b a (fun c d f g=>Kf N k7 r0 c d b a f g N) p y
def S6(N:Nat)(r0:LA->Int->O R)(b:Bool)(a:LA)(k7:Int->LA->O R)(q8:Int->LA->O R)(ah:Int)(h:LA):O R:=(Bf .i64 a fun bh=>cond ((decide (ah<bh))==true) (Bf .i64 (h.drop 3) fun bi=>cond (cond true (bi==0) false) (q8 ah h) (cond (ble 3 h.length) (Bf .i64 (h.drop 3) fun bj=>cond ((beq ((h.take 3).length) 3)&&((ble 3 3)&&(!false))) (cond (ble 3 ((setCells [A09,A09,A09] 0 (h.take 3)).length)) (r0 ((setCells [A09,A09,A09] 0 (h.take 3)).take 3) bj) none) none) none)) (cond (ble 3 h.length) (Bf .i64 (h.drop 3) fun bk=>cond ((beq ((h.take 3).length) 3)&&((ble 3 3)&&(!false))) (cond (ble 3 ((setCells [A09,A09,A09] 0 (h.take 3)).length)) (r0 ((setCells [A09,A09,A09] 0 (h.take 3)).take 3) bk) none) none) none))
def Es(r0:LA->Int->O R)(b:Bool)(a:LA):Nat->Int->LA->O R
|0=>fun _ _=>none
|n+1=>S6 N r0 b a (Es r0 b a n) (DD N (Es r0 b a n) r0 b a)
def Yy(r0:LA->Int->O R)(b:Bool)(a:LA)(k6:Int->LA->O R)(q7:Int->LA->O R)(z:Int)(q:LA):O R:=(By 4 (a.drop 7) fun cg bl=>cond ((decide (z<(bl:Int)))==true) (Bf .i64 (q.drop 3) fun bm=>cond (cond true (bm==0) false) (cond (ble 8 a.length) (Iw N (a.take 8) b z q fun bn=>k6 (wrap .i64 (z+1)) bn) none) (q7 0 q)) (q7 0 q))
def Nr(r0:LA->Int->O R)(b:Bool)(a:LA):Nat->Int->LA->O R
|0=>fun _ _=>none
|n+1=>Yy N r0 b a (Nr r0 b a n) (Es N r0 b a N)
def Yz(r0:LA->Int->O R)(b:Bool)(a:LA)(k5:Int->LA->O R)(q6:Int->LA->O R)(aa:Int)(r:LA):O R:=(By 5 (a.drop 6) fun ch bo=>cond ((decide (aa<(bo:Int)))==true) (Bf .i64 (r.drop 3) fun bp=>cond (cond true (bp==0) false) (cond (ble 8 a.length) (Tk N (a.take 8) b aa r fun bq=>k5 (wrap .i64 (aa+1)) bq) none) (q6 0 r)) (q6 0 r))
def Ns(r0:LA->Int->O R)(b:Bool)(a:LA):Nat->Int->LA->O R
|0=>fun _ _=>none
|n+1=>Yz N r0 b a (Ns r0 b a n) (Nr N r0 b a N)
def Y0(r0:LA->Int->O R)(b:Bool)(a:LA)(k4:Int->LA->O R)(q5:Int->LA->O R)(ab:Int)(s:LA):O R:=(By 9 (a.drop 5) fun ci br=>cond ((decide (ab<(br:Int)))==true) (Bf .i64 (s.drop 3) fun bs=>cond (cond true (bs==0) false) (cond (ble 8 a.length) (Pp N (a.take 8) b ab s fun bt=>k4 (wrap .i64 (ab+1)) bt) none) (q5 0 s)) (q5 0 s))
def Nt(r0:LA->Int->O R)(b:Bool)(a:LA):Nat->Int->LA->O R
|0=>fun _ _=>none
|n+1=>Y0 N r0 b a (Nt r0 b a n) (Ns N r0 b a N)
def Y1(r0:LA->Int->O R)(b:Bool)(a:LA)(k3:Int->LA->O R)(q4:Int->LA->O R)(ac:Int)(t:LA):O R:=(By 22 (a.drop 4) fun cj bu=>cond ((decide (ac<(bu:Int)))==true) (Bf .i64 (t.drop 3) fun bv=>cond (cond true (bv==0) false) (cond (ble 8 a.length) (Mo N (a.take 8) b ac t fun bw=>k3 (wrap .i64 (ac+1)) bw) none) (q4 0 t)) (q4 0 t))
def Nu(r0:LA->Int->O R)(b:Bool)(a:LA):Nat->Int->LA->O R
|0=>fun _ _=>none
|n+1=>Y1 N r0 b a (Nu r0 b a n) (Nt N r0 b a N)
def Y2(r0:LA->Int->O R)(b:Bool)(a:LA)(k2:Int->LA->O R)(q3:Int->LA->O R)(ad:Int)(u:LA):O R:=(By 12 (a.drop 3) fun ck bx=>cond ((decide (ad<(bx:Int)))==true) (Bf .i64 (u.drop 3) fun bz=>cond (cond true (bz==0) false) (cond (ble 8 a.length) (Mm N (a.take 8) b ad u fun ca=>k2 (wrap .i64 (ad+1)) ca) none) (q3 0 u)) (q3 0 u))
def Nv(r0:LA->Int->O R)(b:Bool)(a:LA):Nat->Int->LA->O R
|0=>fun _ _=>none
|n+1=>Y2 N r0 b a (Nv r0 b a n) (Nu N r0 b a N)
def Y3(N:Nat)(r0:LA->Int->O R)(b:Bool)(a:LA)(k0:Int->LA->O R)(q1:Int->LA->O R)(q2:Int->LA->O R)(ai:Int)(v:LA):O R:=(By 3 (a.drop 2) fun cl cb=>cond ((decide (ai<(cb:Int)))==true) (Bf .i64 (v.drop 3) fun cc=>cond (cond true (cc==0) false) (q1 ai v) (q2 0 v)) (q2 0 v))
def Kg(r0:LA->Int->O R)(b:Bool)(a:LA):Nat->Int->LA->O R
|0=>fun _ _=>none
|n+1=>Y3 N r0 b a (Kg r0 b a n) (Vq N (Kg r0 b a n) r0 b a) (Nv N r0 b a N)
def OZ(r0:LA->Int->O R)(q0:Int->LA->O R)(a:LA)(b:Bool):O R:=(cond (ble 8 a.length) (J8 N (a.take 8) b [A09,A09,A09,A09] fun cd=>q0 0 cd) none)
def ME:=(Ae fun N a b r0=>OZ (R:=R) N r0 (Kg N r0 b a N) a b).1
def aX(a b r0):(@ME R N a b r0)=(OZ N r0 (Kg N r0 b a N) a b):=by rw[ME,(Ae _).2]
def fi:Hints:={H:=hK 3 (hS (hK 1 (hS (hP [1,2,4,5] (hJ [1,2,4,5] hL hL)) hL)) (hS (hK 1 (hS (hP [1,2,4,6] hL) hL)) (hS (hK 1 (hS (hP [1,2,4,7] hL) hL)) (hS (hK 1 (hS (hP [1,2,4,8] hL) hL)) (hS (hK 1 (hS (hP [1,2,4,9] hL) hL)) (hS (hK 1 (hS (hP [1,2,4,10] hL) hL)) (hS (hK 1 (hS (hP [1,2,4,11] (hJ [1,2,4,11] hL (hS (hS (hK 2 (hS (hP [1,2,4,11,12,13,14] (hK 1 (hS (hS (hK 1 (hS (hK 1 (hS (hP [1,2,4,11,12,13,14,15,16] hL) hL)) hL)) hL) hL))) hL)) hL) hL))) hL)) hL))))))),nils:=[(15,1)],modes:=[(3,0),(0,0)]}
def lL:AT:=[YW N,Gg N,Qg N,Em N,Ca N,cP N,cQ N,ZC N,fE N,TZ N,yi N,ik N,m9 N]
def Fu(F:KF R):=P9 Tryz.f39 fi (lL N) [] N F
def wa(b:Bool)(a:LA)(K:St->O R):=fun i aj=>K ⟨[(1,op 0),(2,op 1),(4,op 2),(5,iv i)],hq [bP b 0 a,bQ 0 [iv 0,iv 0,iv 0],bQ 0 aj]⟩
def s4(c d:Nat)(b:Bool)(a f g:LA)(K:St->O R):=fun o l j m w x=>K ⟨[(1,op 0),(2,op 1),(4,op 2),(11,iv o),(12,A08 3 c),(13,A08 4 d),(14,iv l),(15,A08 5 j),(16,iv m)],hq [bP b 0 a,bQ 0 [iv 0,iv 0,iv 0],bQ 0 w,bQ 2 f,bQ 1 g,bQ 1 x]⟩
def O_(c d:Nat)(b:Bool)(a f g:LA)(K:St->O R):=fun ae af ag=>K ⟨[(1,op 0),(2,op 1),(4,op 2),(11,iv ae),(12,A08 3 c),(13,A08 4 d),(14,iv af)],hq [bP b 0 a,bQ 0 [iv 0,iv 0,iv 0],bQ 0 ag,bQ 2 f,bQ 1 g]⟩
def wb(b:Bool)(a:LA)(K:St->O R):=fun p y=>K ⟨[(1,op 0),(2,op 1),(4,op 2),(11,iv p)],hq [bP b 0 a,bQ 0 [iv 0,iv 0,iv 0],bQ 0 y]⟩
def Nw(b:Bool)(a:LA)(K:St->O R):=fun ah h=>K ⟨[(1,op 0),(2,op 1),(4,op 2),(11,iv ah)],hq [bP b 0 a,bQ 0 [iv 0,iv 0,iv 0],bQ 0 h]⟩
def wc(b:Bool)(a:LA)(K:St->O R):=fun z q=>K ⟨[(1,op 0),(2,op 1),(4,op 2),(10,iv z)],hq [bP b 0 a,bQ 0 [iv 0,iv 0,iv 0],bQ 0 q]⟩
def wg(b:Bool)(a:LA)(K:St->O R):=fun aa r=>K ⟨[(1,op 0),(2,op 1),(4,op 2),(9,iv aa)],hq [bP b 0 a,bQ 0 [iv 0,iv 0,iv 0],bQ 0 r]⟩
def wh(b:Bool)(a:LA)(K:St->O R):=fun ab s=>K ⟨[(1,op 0),(2,op 1),(4,op 2),(8,iv ab)],hq [bP b 0 a,bQ 0 [iv 0,iv 0,iv 0],bQ 0 s]⟩
def wi(b:Bool)(a:LA)(K:St->O R):=fun ac t=>K ⟨[(1,op 0),(2,op 1),(4,op 2),(7,iv ac)],hq [bP b 0 a,bQ 0 [iv 0,iv 0,iv 0],bQ 0 t]⟩
def wj(b:Bool)(a:LA)(K:St->O R):=fun ad u=>K ⟨[(1,op 0),(2,op 1),(4,op 2),(6,iv ad)],hq [bP b 0 a,bQ 0 [iv 0,iv 0,iv 0],bQ 0 u]⟩
def fj(b:Bool)(a:LA)(K:St->O R):=fun ai v=>K ⟨[(1,op 0),(2,op 1),(4,op 2),(5,iv ai)],hq [bP b 0 a,bQ 0 [iv 0,iv 0,iv 0],bQ 0 v]⟩
def mm Q0 (F:KF R) (b a):wa b a (Cm (Fu N F (pz 87105) [Q0]))=(Vq N (fj b a Q0) (Oi F) b a):=by kernel_rfl
def jT(Q7 Q9)(F:KF R)(c d b a f g):∀ n,s4 c d b a f g (Ao (Fu N F (pz 24019179469541444) [Q7,Q9]) n)=(Ll N (Nw b a Q7) (O_ c d b a f g Q9) (Oi F) c d b a f g n):=Gv fun n e=>(Dc (Vr N (Nw b a Q7) (O_ c d b a f g Q9) (Oi F) c d b a f g) e:_)
def mo Q7 (F:KF R) (c d b a f g):∀ n,O_ c d b a f g (Ao (Fu N F (pz 366503592980) [Q7]) n)=(Kf N (Nw b a Q7) (Oi F) c d b a f g n):=Gv fun n e=>(HG (Yx N (Nw b a Q7) (Oi F) c d b a f g) e ((lW ..).trans ((jT ..).trans (xh (Ll _ _ · _ _ _ _ _ _ _ _) e))):_)
def mq Q7 (F:KF R) (b a):wb b a (Cm (Fu N F (pz 357913665) [Q7]))=(DD N (Nw b a Q7) (Oi F) b a):=(Dc (KA N (Nw b a Q7) (Oi F) b a) (Abu fun c d f g=>(lW ..).trans (mo ..)):_)
def mt(F:KF R)(b a):∀ n,Nw b a (Ao (Fu N F (pz 22369604) []) n)=(Es N (Oi F) b a n):=Gv fun n e=>(HG (S6 N (Oi F) b a) e ((jW ..).trans ((mq ..).trans (xh (DD _ · _ _ _) e))):_)
def mu(F:KF R)(b a):∀ n,wc b a (Ao (Fu N F (pz 5592388) []) n)=(Nr N (Oi F) b a n):=Gv fun n e=>(HG (Yy N (Oi F) b a) e ((lW ..).trans (mt ..)):_)
def mv(F:KF R)(b a):∀ n,wg b a (Ao (Fu N F (pz 1398084) []) n)=(Ns N (Oi F) b a n):=Gv fun n e=>(HG (Yz N (Oi F) b a) e ((lW ..).trans (mu ..)):_)
def mw(F:KF R)(b a):∀ n,wh b a (Ao (Fu N F (pz 349508) []) n)=(Nt N (Oi F) b a n):=Gv fun n e=>(HG (Y0 N (Oi F) b a) e ((lW ..).trans (mv ..)):_)
def mz(F:KF R)(b a):∀ n,wi b a (Ao (Fu N F (pz 87364) []) n)=(Nu N (Oi F) b a n):=Gv fun n e=>(HG (Y1 N (Oi F) b a) e ((lW ..).trans (mw ..)):_)
def nA(F:KF R)(b a):∀ n,wj b a (Ao (Fu N F (pz 21828) []) n)=(Nv N (Oi F) b a n):=Gv fun n e=>(HG (Y2 N (Oi F) b a) e ((lW ..).trans (mz ..)):_)
def nC(F:KF R)(b a):∀ n,fj b a (Ao (Fu N F (pz 5444) []) n)=(Kg N (Oi F) b a n):=Gv fun n e=>(Aq5 (Y3 N (Oi F) b a) e ((jW ..).trans ((mm ..).trans (xh (Vq _ · _ _ _) e))) ((lW ..).trans (nA ..)):_)
def zN:=C8 N 39 (lL N) fi (fun
|[.pagg a b],[]=>some fun _ k=>ME N a b (Oi k)
| _,_=>none) fun _ _=>by split;intro R F;exact(Dc (OZ N (Oi F) · _ _) ((lW ..).trans (nC ..)):_).trans (aX ..).symm;trivial
def O'(k2:Int->Int->Nat->LA->O R)(r0:LA->O R)(l:Int)(a:LA)(b:Nat)(c:Bool)(h:Int)(d f:Nat)(g i:LA)(au av:Int)(w:Nat)(aw:LA):O R:=(Ad N l a b false c av fun ba bo=>Ad N (wrap .i64 (l - 1)) a b false c bo fun bp bq=>cond (l==0) none (U9 N (w:Int) ba (Int.tmod (wrap .i64 ((wrap .i64 (ba+1))+bp)) l) h a b false c bq fun bb br=>cond ((beq bb.length 12)&&(ble 12 12)) (cond ((ble (w+1) 140737488355328)&&(ble ((w+1)*120) 140737488355328)) (k2 (wrap .i64 (au - 1)) br (w+1) ((aw.take (w*12))++((setCells [.str ([]:Lu),A09,A09,A09,A09,A09,A09,A09,A09,A09,A09,.nsl] 0 bb).take 12))) none) none))
def PA(k7:Int->Int->Nat->LA->O R)(r0:LA->O R)(a:LA)(b:Nat)(c:Bool)(h:Int)(d f m j q s:Nat)(g i o p r t:LA)(aj ax:Int)(u:Nat)(aa:LA):O R:=(Qf N (u:Int) (m:Int) (j:Int) a b false c ax fun ab bc=>cond ((beq 0 0)&&((beq ab.length 4)&&(beq 4 4))) (cond ((ble (0+u) 140737488355328)&&(ble ((0+u)*72) 140737488355328)) (cond (ble 4 ab.length) (cond ((beq ((ab.take 4).length) 4)&&(ble 4 4)) (cond ((ble ((0+u)+1) 140737488355328)&&(ble (((0+u)+1)*72) 140737488355328)) (ME N [.int .i64 h,.imm (g.take (d*1)) d 1 false true,.imm (i.take (f*3)) f 3 false true,.imm (o.take (m*12)) m 12 false true,.imm (p.take (j*22)) j 22 false true,.imm (r.take (q*9)) q 9 false true,.imm (t.take (s*5)) s 5 false true,.imm (take (((0+u)+1)*4) (((aa.take (u*4)).take ((0+u)*4))++((setCells [.str ([]:Lu),.nsl,.bool false,.nsl] 0 (ab.take 4)).take 4))) ((0+u)+1) 4 false true] true fun bs bt=>cond ((beq bs.length 3)&&((ble 3 3)&&(!false))) (cond (bt==0) (k7 (wrap .i64 (aj - 1)) bc ((0+u)+1) (((aa.take (u*4)).take ((0+u)*4))++((setCells [.str ([]:Lu),.nsl,.bool false,.nsl] 0 (ab.take 4)).take 4))) (k7 (wrap .i64 (aj - 1)) bc u aa)) none) none) none) none) none) none)
def Zy(N:Nat)(r0:LA->O R)(a:LA)(b:Nat)(c:Bool)(h:Int)(d f m j q s:Nat)(g i o p r t:LA)(k7:Int->Int->Nat->LA->O R)(q8:Int->Int->Nat->LA->O R)(ak ay:Int)(x:Nat)(ac:LA):O R:=(cond ((decide (ak>0))==true) (cond (cond true (decide ((m:Int)>0)) false) (q8 ak ay x ac) (r0 [.int .i64 h,.imm (g.take (d*1)) d 1 false false,.imm (i.take (f*3)) f 3 false false,.imm (o.take (m*12)) m 12 false false,.imm (p.take (j*22)) j 22 false false,.imm (r.take (q*9)) q 9 false false,.imm (t.take (s*5)) s 5 false false,.imm (ac.take (x*4)) x 4 false false])) (r0 [.int .i64 h,.imm (g.take (d*1)) d 1 false false,.imm (i.take (f*3)) f 3 false false,.imm (o.take (m*12)) m 12 false false,.imm (p.take (j*22)) j 22 false false,.imm (r.take (q*9)) q 9 false false,.imm (t.take (s*5)) s 5 false false,.imm (ac.take (x*4)) x 4 false false]))
def I4(r0:LA->O R)(a:LA)(b:Nat)(c:Bool)(h:Int)(d f m j q s:Nat)(g i o p r t:LA):Nat->Int->Int->Nat->LA->O R
|0=>fun _ _ _ _=>none
|n+1=>Zy N r0 a b c h d f m j q s g i o p r t (I4 r0 a b c h d f m j q s g i o p r t n) (PA N (I4 r0 a b c h d f m j q s g i o p r t n) r0 a b c h d f m j q s g i o p r t)
def UQ(r0:LA->O R)(a:LA)(b:Nat)(c:Bool)(h:Int)(d f m j q:Nat)(g i o p r:LA)(q7:Nat->LA->Int->Int->Nat->LA->O R)(ad:Int)(s:Nat)(t:LA):O R:=(Ad N 4 a b false c ad fun bu bv=>q7 s t bu bv 0 [])
def PB(r0:LA->O R)(a:LA)(b:Nat)(c:Bool)(h:Int)(d f m j q:Nat)(g i o p r:LA)(ad:Int)(s:Nat)(t:LA):O R:=UQ N r0 a b c h d f m j q g i o p r (fun s t=>I4 N r0 a b c h d f m j q s g i o p r t N) ad s t
def IH(r0:LA->O R)(l:Int)(a:LA)(b:Nat)(c:Bool)(h:Int)(d f m j:Nat)(g i o p:LA)(q6:Nat->LA->Int->Nat->LA->O R)(ae:Int)(q:Nat)(r:LA):O R:=(Ad N 3 a b false c ae fun bw bd=>cond (bw==2) (Ad N l a b false c bd fun bx bz=>Gw N h 12 a b false c bz fun be ca cb=>Gw N h 12 a b false c ca fun bf cc cd=>Gw N h 40 a b false c cc fun bg ce cf=>q6 q r ce 1 [.str ([116,48]:Lu),.int .i64 bx,.imm (cb.take (be*1)) be 1 false false,.imm (cd.take (bf*1)) bf 1 false false,.imm (cf.take (bg*1)) bg 1 false false]) (q6 q r bd 0 []))
def FR(r0:LA->O R)(l:Int)(a:LA)(b:Nat)(c:Bool)(h:Int)(d f m j:Nat)(g i o p:LA)(ae:Int)(q:Nat)(r:LA):O R:=IH N r0 l a b c h d f m j g i o p (fun q r=>PB N r0 a b c h d f m j q g i o p r) ae q r
def Zz(r0:LA->O R)(l:Int)(a:LA)(b:Nat)(c:Bool)(h:Int)(d f:Nat)(g i:LA)(k4:Int->Int->Nat->Nat->LA->LA->O R)(q5:Nat->Nat->LA->LA->Int->Nat->LA->O R)(al am:Int)(m j:Nat)(o p:LA):O R:=(cond (decide (al>0)) (Va N (j:Int) l h a b false c am fun bh cg=>cond ((beq bh.length 22)&&(ble 22 22)) (cond ((ble (j+1) 140737488355328)&&(ble ((j+1)*216) 140737488355328)) (k4 (wrap .i64 (al - 1)) cg m (j+1) o ((p.take (j*22))++((setCells [.str ([]:Lu),A09,A09,A09,.nsl,A09,A09,A09,A09,A09,A09,A09,A09,A09,A09,A09,A09,A09,.nsl,A09,A09,A09] 0 bh).take 22))) none) none) (Ad N 3 a b false c am fun ch bi=>cond (ch==2) (Ad N l a b false c bi fun ci cj=>Ad N 20 a b false c cj fun az ck=>Ad N 8 a b false c ck fun cl cm=>Ad N 8 a b false c cm fun cn co=>Ad N 4 a b false c co fun cp cq=>Ad N (wrap .i64 (az+1)) a b false c cq fun cr cs=>Ad N (wrap .i64 (az+1)) a b false c cs fun ct cu=>q5 m j o p cu 1 [.str ([115,48]:Lu),.int .i64 ci,.int .i64 az,.int .i64 cr,.int .i64 ct,.int .i64 cl,.int .i64 cn,.int .i64 (wrap .i64 (1+cp)),.int .i64 4]) (q5 m j o p bi 0 [])))
def Qw(r0:LA->O R)(l:Int)(a:LA)(b:Nat)(c:Bool)(h:Int)(d f:Nat)(g i:LA):Nat->Int->Int->Nat->Nat->LA->LA->O R
|0=>fun _ _ _ _ _ _=>none
|n+1=>Zz N r0 l a b c h d f g i (Qw r0 l a b c h d f g i n) (fun m j o p=>FR N r0 l a b c h d f m j g i o p)
def Z0(r0:LA->O R)(l:Int)(a:LA)(b:Nat)(c:Bool)(h:Int)(d f:Nat)(g i:LA)(k2:Int->Int->Nat->LA->O R)(q3:Int->Int->Nat->LA->O R)(q4:Int->Int->Nat->Nat->LA->LA->O R)(an af:Int)(ag:Nat)(ah:LA):O R:=(cond ((decide (an>0))==true) (cond (cond true (decide (l>1)) false) (q3 an af ag ah) (Ad N 3 a b false c af fun cv cw=>q4 (wrap .i64 (1+cv)) cw ag 0 ah [])) (Ad N 3 a b false c af fun cx cy=>q4 (wrap .i64 (1+cx)) cy ag 0 ah []))
def Qx(r0:LA->O R)(l:Int)(a:LA)(b:Nat)(c:Bool)(h:Int)(d f:Nat)(g i:LA):Nat->Int->Int->Nat->LA->O R
|0=>fun _ _ _ _=>none
|n+1=>Z0 N r0 l a b c h d f g i (Qx r0 l a b c h d f g i n) (O' N (Qx r0 l a b c h d f g i n) r0 l a b c h d f g i) (Qw N r0 l a b c h d f g i N)
def II(r0:LA->O R)(a:LA)(b:Nat)(c:Bool)(h:Int)(d f:Nat)(g i:LA)(k1:Int->Int->Int->Nat->LA->O R)(q2:Int->Int->Int->Nat->LA->O R)(l z ao:Int)(v:Nat)(ap:LA):O R:=(cond (decide (z<l)) (Ad N z a b false c ao fun cz da=>U9 N (v:Int) cz z h a b false c da fun bj db=>cond ((beq bj.length 12)&&(ble 12 12)) (cond ((ble (v+1) 140737488355328)&&(ble ((v+1)*120) 140737488355328)) (k1 l (wrap .i64 (z+1)) db (v+1) ((ap.take (v*12))++((setCells [.str ([]:Lu),A09,A09,A09,A09,A09,A09,A09,A09,A09,A09,.nsl] 0 bj).take 12))) none) none) (Ad N 5 a b false c ao fun dc dd=>q2 l dc dd v ap))
def Xp(r0:LA->O R)(a:LA)(b:Nat)(c:Bool)(h:Int)(d f:Nat)(g i:LA):Nat->Int->Int->Int->Nat->LA->O R
|0=>fun _ _ _ _ _=>none
|n+1=>II N r0 a b c h d f g i (Xp r0 a b c h d f g i n) (fun l=>Qx N r0 l a b c h d f g i N)
def Z1(r0:LA->O R)(a:LA)(b:Nat)(c:Bool)(d:Nat)(g:LA)(k0:Int->Int->Int->Nat->LA->O R)(q1:Int->Nat->LA->Int->Int->Int->Nat->LA->O R)(ai aq h:Int)(f:Nat)(i:LA):O R:=(cond (decide (ai>0)) (NQ N ([98]:Lu) (f:Int) fun bk=>Gw N h 14 a b false c aq fun ar de bl=>Ad N 2 a b false c de fun df bm=>cond (df==1) (Ad N 200 a b false c bm fun dg dh=>cond ((ble (f+1) 140737488355328)&&(ble ((f+1)*48) 140737488355328)) (k0 (wrap .i64 (ai - 1)) dh h (f+1) ((i.take (f*3))++[.str bk,.imm (bl.take (ar*1)) ar 1 false false,.int .i64 (wrap .i64 (100+dg))])) none) (cond ((ble (f+1) 140737488355328)&&(ble ((f+1)*48) 140737488355328)) (k0 (wrap .i64 (ai - 1)) bm h (f+1) ((i.take (f*3))++[.str bk,.imm (bl.take (ar*1)) ar 1 false false,A09])) none)) (q1 h f i (f:Int) 1 aq 0 []))
def Nx(r0:LA->O R)(a:LA)(b:Nat)(c:Bool)(d:Nat)(g:LA):Nat->Int->Int->Int->Nat->LA->O R
|0=>fun _ _ _ _ _=>none
|n+1=>Z1 N r0 a b c d g (Nx r0 a b c d g n) (fun h f i=>Xp N r0 a b c h d f g i N)
def fk(r0:LA->O R)(q0:Nat->LA->Int->Int->Int->Nat->LA->O R)(a:LA)(b:Nat)(y c:Bool):O R:=(Abx N a b false c (Ad N 3 a b false c 0 fun bn di=>Gw N (wrap .i64 (1+bn)) 5 a b false c di fun d dj g=>Ad N 4 a b false c dj fun dk dl=>q0 d g (wrap .i64 (1+dk)) dl (wrap .i64 (1+bn)) 0 []))
def XX:=(Ae fun N a b y c r0=>fk (R:=R) N r0 (fun d g=>Nx N r0 a b c d g N) a b y c).1
def lM(a b y c r0):(@XX R N a b y c r0)=(fk N r0 (fun d g=>Nx N r0 a b c d g N) a b y c):=by rw[XX,(Ae _).2]
def qN:Hints:={H:=hK 4 (hS (hK 1 (hS (hP [2,3,4,5] hL) hL)) (hK 1 (hS (hK 1 (hS (hP [2,3,4,7,8] hL) hL)) (hS (hK 1 (hS (hP [2,3,4,7,9] (hJ [2,3,4,7,9] hL hL)) hL)) (hS (hK 1 (hS (hP [2,3,4,7,11] hL) hL)) (hJ [2,3,4,7] hL (hJ [2,3,4] hL (hS (hK 1 (hS (hP [2,3,4,13] (hJ [2,3,4,13] hL hL)) hL)) hL)))))))),modes:=[(3,0)],cob:=[23,44,192]}
def uH:AT:=[Ajg N,Mk N,mR N,XJ N,pI N,pJ N,ii N,zN N]
def Ny(F:KF R):=P9 Tryz.f13 qN (uH N) [] N F
def Ack(l:Int)(a:LA)(b:Nat)(c:Bool)(h:Int)(d f:Nat)(g i:LA)(K:St->O R):=fun au av w aw=>K ⟨[(2,op 0),(3,op 1),(4,op 2),(7,iv l),(9,iv au)],hq [bN 0 [iv 0,.nsl,.nsl,.nsl,.nsl,.nsl,.nsl,.nsl],bN 0 [.imm a b 1 false c,iv av],bN 0 [iv h,A08 3 d,A08 4 f,A08 5 w,A08 6 0,A08 7 0,A08 8 0,A08 9 0],bQ 1 g,bQ 3 i,bQ 12 aw,bQ 22 [],bQ 9 [],bQ 5 [],bQ 4 []]⟩
def Acl(a:LA)(b:Nat)(c:Bool)(h:Int)(d f m j q s:Nat)(g i o p r t:LA)(K:St->O R):=fun aj ax u aa=>K ⟨[(2,op 0),(3,op 1),(4,op 2),(13,iv aj)],hq [bN 0 [iv 0,.nsl,.nsl,.nsl,.nsl,.nsl,.nsl,.nsl],bN 0 [.imm a b 1 false c,iv ax],bN 0 [iv h,A08 3 d,A08 4 f,A08 5 m,A08 6 j,A08 7 q,A08 8 s,A08 9 u],bQ 1 g,bQ 3 i,bQ 12 o,bQ 22 p,bQ 9 r,bQ 5 t,bQ 4 aa]⟩
def qO(a:LA)(b:Nat)(c:Bool)(h:Int)(d f m j q s:Nat)(g i o p r t:LA)(K:St->O R):=fun ak ay x ac=>K ⟨[(2,op 0),(3,op 1),(4,op 2),(13,iv ak)],hq [bN 0 [iv 0,.nsl,.nsl,.nsl,.nsl,.nsl,.nsl,.nsl],bN 0 [.imm a b 1 false c,iv ay],bN 0 [iv h,A08 3 d,A08 4 f,A08 5 m,A08 6 j,A08 7 q,A08 8 s,A08 9 x],bQ 1 g,bQ 3 i,bQ 12 o,bQ 22 p,bQ 9 r,bQ 5 t,bQ 4 ac]⟩
def Acm(a:LA)(b:Nat)(c:Bool)(h:Int)(d f m j q:Nat)(g i o p r:LA)(K:St->O R):=fun ad s t=>K ⟨[(2,op 0),(3,op 1),(4,op 2)],hq [bN 0 [iv 0,.nsl,.nsl,.nsl,.nsl,.nsl,.nsl,.nsl],bN 0 [.imm a b 1 false c,iv ad],bN 0 [iv h,A08 3 d,A08 4 f,A08 5 m,A08 6 j,A08 7 q,A08 8 s,A08 9 0],bQ 1 g,bQ 3 i,bQ 12 o,bQ 22 p,bQ 9 r,bQ 5 t,bQ 4 []]⟩
def Acn(l:Int)(a:LA)(b:Nat)(c:Bool)(h:Int)(d f m j:Nat)(g i o p:LA)(K:St->O R):=fun ae q r=>K ⟨[(2,op 0),(3,op 1),(4,op 2),(7,iv l)],hq [bN 0 [iv 0,.nsl,.nsl,.nsl,.nsl,.nsl,.nsl,.nsl],bN 0 [.imm a b 1 false c,iv ae],bN 0 [iv h,A08 3 d,A08 4 f,A08 5 m,A08 6 j,A08 7 q,A08 8 0,A08 9 0],bQ 1 g,bQ 3 i,bQ 12 o,bQ 22 p,bQ 9 r,bQ 5 [],bQ 4 []]⟩
def Aco(l:Int)(a:LA)(b:Nat)(c:Bool)(h:Int)(d f:Nat)(g i:LA)(K:St->O R):=fun al am m j o p=>K ⟨[(2,op 0),(3,op 1),(4,op 2),(7,iv l),(11,iv al)],hq [bN 0 [iv 0,.nsl,.nsl,.nsl,.nsl,.nsl,.nsl,.nsl],bN 0 [.imm a b 1 false c,iv am],bN 0 [iv h,A08 3 d,A08 4 f,A08 5 m,A08 6 j,A08 7 0,A08 8 0,A08 9 0],bQ 1 g,bQ 3 i,bQ 12 o,bQ 22 p,bQ 9 [],bQ 5 [],bQ 4 []]⟩
def qP(l:Int)(a:LA)(b:Nat)(c:Bool)(h:Int)(d f:Nat)(g i:LA)(K:St->O R):=fun an af ag ah=>K ⟨[(2,op 0),(3,op 1),(4,op 2),(7,iv l),(9,iv an)],hq [bN 0 [iv 0,.nsl,.nsl,.nsl,.nsl,.nsl,.nsl,.nsl],bN 0 [.imm a b 1 false c,iv af],bN 0 [iv h,A08 3 d,A08 4 f,A08 5 ag,A08 6 0,A08 7 0,A08 8 0,A08 9 0],bQ 1 g,bQ 3 i,bQ 12 ah,bQ 22 [],bQ 9 [],bQ 5 [],bQ 4 []]⟩
def Acp(a:LA)(b:Nat)(c:Bool)(h:Int)(d f:Nat)(g i:LA)(K:St->O R):=fun l z ao v ap=>K ⟨[(2,op 0),(3,op 1),(4,op 2),(7,iv l),(8,iv z)],hq [bN 0 [iv 0,.nsl,.nsl,.nsl,.nsl,.nsl,.nsl,.nsl],bN 0 [.imm a b 1 false c,iv ao],bN 0 [iv h,A08 3 d,A08 4 f,A08 5 v,A08 6 0,A08 7 0,A08 8 0,A08 9 0],bQ 1 g,bQ 3 i,bQ 12 ap,bQ 22 [],bQ 9 [],bQ 5 [],bQ 4 []]⟩
def Acq(a:LA)(b:Nat)(c:Bool)(d:Nat)(g:LA)(K:St->O R):=fun ai aq h f i=>K ⟨[(2,op 0),(3,op 1),(4,op 2),(5,iv ai)],hq [bN 0 [iv 0,.nsl,.nsl,.nsl,.nsl,.nsl,.nsl,.nsl],bN 0 [.imm a b 1 false c,iv aq],bN 0 [iv h,A08 3 d,A08 4 f,A08 5 0,A08 6 0,A08 7 0,A08 8 0,A08 9 0],bQ 1 g,bQ 3 i,bQ 12 [],bQ 22 [],bQ 9 [],bQ 5 [],bQ 4 []]⟩
def s5 Q2 (F:KF R) (l a b c h d f g i):Ack l a b c h d f g i (Cm (Ny N F (pz 22369345) [Q2]))=(O' N (qP l a b c h d f g i Q2) (Qd F) l a b c h d f g i):=by kernel_rfl
def s6 Q7 (F:KF R) (a b c h d f m j q s g i o p r t):Acl a b c h d f m j q s g i o p r t (Cm (Ny N F (pz 5726622785) [Q7]))=(PA N (qO a b c h d f m j q s g i o p r t Q7) (Qd F) a b c h d f m j q s g i o p r t):=by kernel_rfl
def s7(F:KF R)(a b c h d f m j q s g i o p r t):∀ n,qO a b c h d f m j q s g i o p r t (Ao (Ny N F (pz 357913924) []) n)=(I4 N (Qd F) a b c h d f m j q s g i o p r t n):=Gv fun n e=>(HG (Zy N (Qd F) a b c h d f m j q s g i o p r t) e ((jW ..).trans ((s6 ..).trans (xh (PA _ · _ _ _ _ _ _ _ _ _ _ _ _ _ _ _ _ _) e))):_)
def s8(F:KF R)(a b c h d f m j q g i o p r):Acm a b c h d f m j q g i o p r (Cm (Ny N F (pz 5592405) []))=(PB N (Qd F) a b c h d f m j q g i o p r):=(Dc (UQ N (Qd F) a b c h d f m j q g i o p r) (YS fun s t=>(lW ..).trans (s7 ..)):_)
def s9(F:KF R)(l a b c h d f m j g i o p):Acn l a b c h d f m j g i o p (Cm (Ny N F (pz 1398101) []))=(FR N (Qd F) l a b c h d f m j g i o p):=(Dc (IH N (Qd F) l a b c h d f m j g i o p) (YS fun q r=>(jW ..).trans (s8 ..)):_)
def s_(F:KF R)(l a b c h d f g i):∀ n,Aco l a b c h d f g i (Ao (Ny N F (pz 5592388) []) n)=(Qw N (Qd F) l a b c h d f g i n):=Gv fun n e=>(HG (Zz N (Qd F) l a b c h d f g i) e (Abu fun m j o p=>(jW ..).trans (s9 ..)):_)
def sa(F:KF R)(l a b c h d f g i):∀ n,qP l a b c h d f g i (Ao (Ny N F (pz 1398084) []) n)=(Qx N (Qd F) l a b c h d f g i n):=Gv fun n e=>(Aq5 (Z0 N (Qd F) l a b c h d f g i) e ((jW ..).trans ((s5 ..).trans (xh (O' _ · _ _ _ _ _ _ _ _ _ _) e))) ((lW ..).trans (s_ ..)):_)
def sb(F:KF R)(a b c h d f g i):∀ n,Acp a b c h d f g i (Ao (Ny N F (pz 349508) []) n)=(Xp N (Qd F) a b c h d f g i n):=Gv fun n e=>(HG (II N (Qd F) a b c h d f g i) e (Ai7 fun l=>(lW ..).trans (sa ..)):_)
def sc(F:KF R)(a b c d g):∀ n,Acq a b c d g (Ao (Ny N F (pz 21828) []) n)=(Nx N (Qd F) a b c d g n):=Gv fun n e=>(HG (Z1 N (Qd F) a b c d g) e (Al7 fun h f i=>(lW ..).trans (sb ..)):_)
def Agx:=C8 N 13 (uH N) qN (fun
|[.imm a b 1 y c],[]=>some fun _ k=>XX N a b y c (Qd k)
| _,_=>none) fun _ _=>by split;intro R F;exact(Dc (fk N (Qd F) · _ _ _ _) (YS fun d g=>(lW ..).trans (sc ..)):_).trans (lM ..).symm;trivial
def Vs(N:Nat)(r0:Bool->O R)(c:LA)(g:Nat)(b:Bool)(a:LA)(k1:Bool->Int->Int->O R)(m:Bool)(j h:Int):O R:=(cond (decide (h<j)) (cond (Ai h g) (cond (ble 5 ((c.drop (h.toNat*5)).length)) (cond ((beq 0 0)&&((beq (((c.drop (h.toNat*5)).take 5).length) 5)&&(beq 5 5))) (cond (m==true) (By 1 (((c.drop (h.toNat*5)).take 5).drop 2) fun z p=>Bf .i64 a fun q=>cond ((cond true ((p:Int)==q) false)==true) (By 1 (((c.drop (h.toNat*5)).take 5).drop 3) fun aa r=>Bf .i64 a fun s=>cond ((cond true ((r:Int)==s) false)==true) (By 1 (((c.drop (h.toNat*5)).take 5).drop 4) fun ab t=>Bf .i64 a fun u=>k1 (cond true ((t:Int)==u) false) j (wrap .i64 (h+1))) (k1 false j (wrap .i64 (h+1)))) (k1 false j (wrap .i64 (h+1)))) (k1 false j (wrap .i64 (h+1)))) none) none) none) (r0 m))
def O9(r0:Bool->O R)(c:LA)(g:Nat)(b:Bool)(a:LA):Nat->Bool->Int->Int->O R
|0=>fun _ _ _=>none
|n+1=>Vs N r0 c g b a (O9 r0 c g b a n)
def Vt(N:Nat)(r0:Bool->O R)(d:LA)(f:Nat)(b:Bool)(a:LA)(k0:Bool->Int->Int->O R)(q1:LA->Nat->Bool->Int->Int->O R)(o:Bool)(l i:Int):O R:=(cond (decide (i<l)) (cond (Ai i f) (cond (ble 3 ((d.drop (i.toNat*3)).length)) (cond ((beq 0 0)&&((beq (((d.drop (i.toNat*3)).take 3).length) 3)&&(beq 3 3))) (cond (o==true) (By 1 (((d.drop (i.toNat*3)).take 3).drop 1) fun ac v=>Bf .i64 a fun w=>k0 (cond true ((v:Int)==w) false) l (wrap .i64 (i+1))) (k0 false l (wrap .i64 (i+1)))) none) none) none) (By 5 (a.drop 6) fun c g=>q1 c g o (g:Int) 0))
def Lm(r0:Bool->O R)(d:LA)(f:Nat)(b:Bool)(a:LA):Nat->Bool->Int->Int->O R
|0=>fun _ _ _=>none
|n+1=>Vt N r0 d f b a (Lm r0 d f b a n) (fun c g=>O9 N r0 c g b a N)
def IJ(N:Nat)(r0:Bool->O R)(q0:LA->Nat->Bool->Int->Int->O R)(a:LA)(b:Bool):O R:=(By 1 (a.drop 1) fun ad x=>Bf .i64 a fun y=>By 3 (a.drop 2) fun d f=>q0 d f ((x:Int)==y) (f:Int) 0)
def FS:=(Ae fun N a b r0=>IJ (R:=R) N r0 (fun d f=>Lm N r0 d f b a N) a b).1
def UR(a b r0):(@FS R N a b r0)=(IJ N r0 (fun d f=>Lm N r0 d f b a N) a b):=by rw[FS,(Ae _).2]
def aY:Hints:={H:=hK 2 (hS (hK 1 (hS (hP [1,3,15,16,17] hL) hL)) (hS (hK 1 (hS (hP [1,3,32,33,34] hL) hL)) hL))}
def aZ(F:KF R):=P9 Tryz.f47 aY [] [] N F
def sd(c:LA)(g:Nat)(b:Bool)(a:LA)(K:St->O R):=fun m j h=>K ⟨[(1,op 0),(3,.bool m),(32,.imm c g 5 false b),(33,iv j),(34,iv h)],hq [bP b 0 a]⟩
def se(d:LA)(f:Nat)(b:Bool)(a:LA)(K:St->O R):=fun o l i=>K ⟨[(1,op 0),(3,.bool o),(15,.imm d f 3 false b),(16,iv l),(17,iv i)],hq [bP b 0 a]⟩
def jU(F:KF R)(c g b a):∀ n,sd c g b a (Ao (aZ N F (pz 5444) []) n)=(O9 N (C5 F) c g b a n):=Gv fun n e=>(Dc (Vs N (C5 F) c g b a) e:_)
def jV(F:KF R)(d f b a):∀ n,se d f b a (Ao (aZ N F (pz 1348) []) n)=(Lm N (C5 F) d f b a n):=Gv fun n e=>(HG (Vt N (C5 F) d f b a) e (YS fun c g=>(lW ..).trans (jU ..)):_)
def wl:=C8 N 47 [] aY (fun
|[.pagg a b],[]=>some fun _ k=>FS N a b (C5 k)
| _,_=>none) fun _ _=>by split;intro R F;exact(Dc (IJ N (C5 F) · _ _) (YS fun d f=>(lW ..).trans (jV ..)):_).trans (UR ..).symm;trivial
def Vu(N:Nat)(r0:Int->O R)(b:LA)(a:Nat)(d f:Bool)(c:Lu)(k0:Int->O R)(g:Int):O R:=(cond (decide (g<(a:Int))) (cond (Ai g a) (Mj (b.drop (g.toNat*1)) fun h=>cond (h==c) (r0 g) (k0 (wrap .i64 (g+1)))) none) (r0 (-1)))
def M3(r0:Int->O R)(b:LA)(a:Nat)(d f:Bool)(c:Lu):Nat->Int->O R
|0=>fun _=>none
|n+1=>Vu N r0 b a d f c (M3 r0 b a d f c n)
def XY(N:Nat)(r0:Int->O R)(q0:Int->O R)(b:LA)(a:Nat)(d f:Bool)(c:Lu):O R:=(q0 0)
def fl:=(Ae fun N b a d f c r0=>XY (R:=R) N r0 (M3 N r0 b a d f c N) b a d f c).1
def fm(b a d f c r0):(@fl R N b a d f c r0)=(XY N r0 (M3 N r0 b a d f c N) b a d f c):=by rw[fl,(Ae _).2]
def lN:Hints:={H:=hK 1 (hS (hK 1 (hS (hP [0,1,5] hL) hL)) hL)}
def zO(F:KF R):=P9 Tryz.f49 lN [] [] N F
def zP(b:LA)(a:Nat)(d f:Bool)(c:Lu)(K:St->O R):=fun g=>K ⟨[(0,.imm b a 1 d f),(1,.str c),(5,iv g)],[]⟩
def qQ(F:KF R)(b a d f c):∀ n,zP b a d f c (Ao (zO N F (pz 324) []) n)=(M3 N (Jq F) b a d f c n):=Gv fun n e=>(Dc (Vu N (Jq F) b a d f c) e:_)
def Acr:=C8 N 49 [] lN (fun
|[.imm b a 1 d f,.str c],[]=>some fun _ k=>fl N b a d f c (Jq k)
| _,_=>none) fun _ _=>by split;intro R F;exact(Dc (XY N (Jq F) · _ _ _ _ _) ((lW ..).trans (qQ ..)):_).trans (fm ..).symm;trivial
def wm(N:Nat)(a b:Int)(r0:Bool->O R):O R:=(cond ((decide (a>=0))==true) (r0 (cond true (decide (a<b)) false)) (r0 false))
def FT:=(Ae (@wm R)).1
def qR:@FT R=@wm R:=(Ae _).2
def Aj0:=C8 N 97 [] Cs (fun
|[.int .i64 a,.int .i64 b],[]=>some fun _ k=>FT N a b (C5 k)
| _,_=>none) fun _ _=>by split;intro R F;dsimp only;rw[qR];kernel_rfl;trivial
def Y4(k4:Bool->Int->Int->O R)(r0:Bool->O R)(d:LA)(f:Nat)(a:Bool)(g:Int)(i:LA)(p:Nat)(b:LA)(k6:Bool->Int->Int->Int->O R)(al:Bool)(ae af x:Int):O R:=(cond (decide (x<af)) (cond (Ai x p) (cond (ble 3 ((i.drop (x.toNat*3)).length)) (cond ((!a)||(Bg ((i.drop (x.toNat*3)).take 3))) (cond ((beq (((i.drop (x.toNat*3)).take 3).length) 3)&&((ble 3 3)&&(!false))) (cond (al==true) (Bf .i64 (setCells [A09,A09,A09] 0 ((i.drop (x.toNat*3)).take 3)) fun au=>By 22 (b.drop 4) fun bn av=>FT N au (av:Int) fun aw=>k6 (cond true aw false) ae af (wrap .i64 (x+1))) (k6 false ae af (wrap .i64 (x+1)))) none) none) none) none) (k4 al g (wrap .i64 (ae+1))))
def Rx(k4:Bool->Int->Int->O R)(r0:Bool->O R)(d:LA)(f:Nat)(a:Bool)(g:Int)(i:LA)(p:Nat)(b:LA):Nat->Bool->Int->Int->Int->O R
|0=>fun _ _ _ _=>none
|n+1=>Y4 N k4 r0 d f a g i p b (Rx k4 r0 d f a g i p b n)
def Y5(k4:Bool->Int->Int->O R)(r0:Bool->O R)(d:LA)(f:Nat)(a:Bool)(g:Int)(u:LA)(q:Nat)(b:LA)(k5:Bool->Int->Int->Int->LA->O R)(q6:LA->Nat->Bool->Int->Int->Int->O R)(am:Bool)(ag ah ab:Int)(ai:LA):O R:=(cond (decide (ab<ah)) (cond (Ai ab q) (Bf .i64 (u.drop (ab.toNat*1)) fun ax=>cond (am==true) (By 12 (b.drop 3) fun bo ay=>FT N ax (ay:Int) fun az=>k5 (cond true az false) ag ah (wrap .i64 (ab+1)) ai) (k5 false ag ah (wrap .i64 (ab+1)) ai)) none) (By 3 (ai.drop 3) fun i p=>q6 i p am ag (p:Int) 0))
def Nz(k4:Bool->Int->Int->O R)(r0:Bool->O R)(d:LA)(f:Nat)(a:Bool)(g:Int)(u:LA)(q:Nat)(b:LA):Nat->Bool->Int->Int->Int->LA->O R
|0=>fun _ _ _ _ _=>none
|n+1=>Y5 N k4 r0 d f a g u q b (Nz k4 r0 d f a g u q b n) (fun i p=>Rx N k4 r0 d f a g i p b N)
def Y6(N:Nat)(r0:Bool->O R)(d:LA)(f:Nat)(a:Bool)(b:LA)(k4:Bool->Int->Int->O R)(q5:Int->LA->Nat->Bool->Int->Int->Int->LA->O R)(an:Bool)(g y:Int):O R:=(cond (decide (y<g)) (cond (Ai y f) (cond (ble 4 ((d.drop (y.toNat*4)).length)) (cond ((beq 0 0)&&((beq (((d.drop (y.toNat*4)).take 4).length) 4)&&(beq 4 4))) (By 1 (((d.drop (y.toNat*4)).take 4).drop 1) fun u q=>q5 g u q an y (q:Int) 0 ((d.drop (y.toNat*4)).take 4)) none) none) none) (r0 an))
def H4(r0:Bool->O R)(d:LA)(f:Nat)(a:Bool)(b:LA):Nat->Bool->Int->Int->O R
|0=>fun _ _ _=>none
|n+1=>Y6 N r0 d f a b (H4 r0 d f a b n) (fun g u q=>Nz N (H4 r0 d f a b n) r0 d f a g u q b N)
def Y7(r0:Bool->O R)(c:Int)(m:LA)(r:Nat)(a:Bool)(b:LA)(k3:Bool->Int->Int->O R)(q4:LA->Nat->Bool->Int->Int->O R)(ao:Bool)(aj z:Int):O R:=(cond (decide (z<aj)) (cond (Ai z r) (cond (ble 5 ((m.drop (z.toNat*5)).length)) (cond ((beq 0 0)&&((beq (((m.drop (z.toNat*5)).take 5).length) 5)&&(beq 5 5))) (cond (ao==true) (Bf .i64 (((m.drop (z.toNat*5)).take 5).drop 1) fun ba=>FT N ba c fun bb=>k3 (cond true bb false) aj (wrap .i64 (z+1))) (k3 false aj (wrap .i64 (z+1)))) none) none) none) (By 4 (b.drop 7) fun d f=>q4 d f ao (f:Int) 0))
def Kh(r0:Bool->O R)(c:Int)(m:LA)(r:Nat)(a:Bool)(b:LA):Nat->Bool->Int->Int->O R
|0=>fun _ _ _=>none
|n+1=>Y7 N r0 c m r a b (Kh r0 c m r a b n) (fun d f=>H4 N r0 d f a b N)
def Y8(r0:Bool->O R)(c:Int)(o:LA)(s:Nat)(a:Bool)(b:LA)(k2:Bool->Int->Int->O R)(q3:LA->Nat->Bool->Int->Int->O R)(ap:Bool)(ak aa:Int):O R:=(cond (decide (aa<ak)) (cond (Ai aa s) (cond (ble 9 ((o.drop (aa.toNat*9)).length)) (cond ((beq 0 0)&&((beq (((o.drop (aa.toNat*9)).take 9).length) 9)&&(beq 9 9))) (cond (ap==true) (Bf .i64 (((o.drop (aa.toNat*9)).take 9).drop 1) fun bc=>FT N bc c fun bd=>k2 (cond true bd false) ak (wrap .i64 (aa+1))) (k2 false ak (wrap .i64 (aa+1)))) none) none) none) (By 5 (b.drop 6) fun m r=>q3 m r ap (r:Int) 0))
def Ki(r0:Bool->O R)(c:Int)(o:LA)(s:Nat)(a:Bool)(b:LA):Nat->Bool->Int->Int->O R
|0=>fun _ _ _=>none
|n+1=>Y8 N r0 c o s a b (Ki r0 c o s a b n) (fun m r=>Kh N r0 c m r a b N)
def Y9(r0:Bool->O R)(c:Int)(j:LA)(t:Nat)(a:Bool)(b:LA)(k1:Bool->Int->Int->O R)(q2:LA->Nat->Bool->Int->Int->O R)(aq:Bool)(ac v:Int):O R:=(cond (decide (v<ac)) (cond (Ai v t) (cond (ble 22 ((j.drop (v.toNat*22)).length)) (cond ((beq 0 0)&&((beq (((j.drop (v.toNat*22)).take 22).length) 22)&&(beq 22 22))) (cond (aq==true) (Bf .i64 (((j.drop (v.toNat*22)).take 22).drop 1) fun be=>FT N be c fun bf=>cond ((cond true bf false)==true) (Bf .i64 (((j.drop (v.toNat*22)).take 22).drop 19) fun bg=>FT N bg 3 fun bh=>k1 (cond true bh false) ac (wrap .i64 (v+1))) (k1 false ac (wrap .i64 (v+1)))) (k1 false ac (wrap .i64 (v+1)))) none) none) none) (By 9 (b.drop 5) fun o s=>q2 o s aq (s:Int) 0))
def Kj(r0:Bool->O R)(c:Int)(j:LA)(t:Nat)(a:Bool)(b:LA):Nat->Bool->Int->Int->O R
|0=>fun _ _ _=>none
|n+1=>Y9 N r0 c j t a b (Kj r0 c j t a b n) (fun o s=>Ki N r0 c o s a b N)
def Za(r0:Bool->O R)(h:LA)(l:Nat)(a:Bool)(b:LA)(k0:Int->Bool->Int->Int->O R)(q1:Int->LA->Nat->Bool->Int->Int->O R)(c:Int)(ar:Bool)(ad w:Int):O R:=(cond (decide (w<ad)) (cond (Ai w l) (cond (ble 12 ((h.drop (w.toNat*12)).length)) (cond ((beq 0 0)&&((beq (((h.drop (w.toNat*12)).take 12).length) 12)&&(beq 12 12))) (cond (ar==true) (Bf .i64 (((h.drop (w.toNat*12)).take 12).drop 1) fun bi=>FT N bi c fun bj=>cond ((cond true bj false)==true) (Bf .i64 (((h.drop (w.toNat*12)).take 12).drop 2) fun bk=>FT N bk c fun bl=>k0 c (cond true bl false) ad (wrap .i64 (w+1))) (k0 c false ad (wrap .i64 (w+1)))) (k0 c false ad (wrap .i64 (w+1)))) none) none) none) (By 22 (b.drop 4) fun j t=>q1 c j t ar (t:Int) 0))
def N0(r0:Bool->O R)(h:LA)(l:Nat)(a:Bool)(b:LA):Nat->Int->Bool->Int->Int->O R
|0=>fun _ _ _ _=>none
|n+1=>Za N r0 h l a b (N0 r0 h l a b n) (fun c j t=>Kj N r0 c j t a b N)
def PC(N:Nat)(r0:Bool->O R)(q0:LA->Nat->Int->Bool->Int->Int->O R)(b:LA)(a:Bool):O R:=(By 3 (b.drop 2) fun bp bm=>By 12 (b.drop 3) fun h l=>q0 h l (bm:Int) true (l:Int) 0)
def DS:=(Ae fun N b a r0=>PC (R:=R) N r0 (fun h l=>N0 N r0 h l a b N) b a).1
def a_(b a r0):(@DS R N b a r0)=(PC N r0 (fun h l=>N0 N r0 h l a b N) b a):=by rw[DS,(Ae _).2]
def fq:Hints:={H:=hK 2 (hS (hK 1 (hS (hP [1,3,4,23,24,25] hL) hL)) (hS (hK 1 (hS (hP [1,3,4,44,45,46] hL) hL)) (hS (hK 1 (hS (hP [1,3,4,64,65,66] hL) hL)) (hS (hK 1 (hS (hP [1,3,4,79,80,81] hL) hL)) (hS (hK 1 (hS (hP [1,4,94,95,96] (hK 2 (hS (hS (hK 1 (hS (hK 1 (hS (hP [1,4,14,94,95,96,101,102,103] hL) hL)) (hK 1 (hS (hP [1,4,94,95,96,117,118,119] hL) hL)))) hL) hL))) hL)) hL)))))}
def lO:AT:=[Aj0 N]
def N1(F:KF R):=P9 Tryz.f50 fq (lO N) [] N F
def wo(d:LA)(f:Nat)(a:Bool)(g:Int)(i:LA)(p:Nat)(b:LA)(K:St->O R):=fun al ae af x=>K ⟨[(1,op 0),(4,.bool al),(94,.imm d f 4 false a),(95,iv g),(96,iv ae),(117,.imm i p 3 false a),(118,iv af),(119,iv x)],hq [bP a 0 b]⟩
def wq(d:LA)(f:Nat)(a:Bool)(g:Int)(u:LA)(q:Nat)(b:LA)(K:St->O R):=fun am ag ah ab ai=>K ⟨[(1,op 0),(4,.bool am),(14,op 1),(94,.imm d f 4 false a),(95,iv g),(96,iv ag),(101,.imm u q 1 false a),(102,iv ah),(103,iv ab)],hq [bP a 0 b,bP a 0 ai]⟩
def Vv(d:LA)(f:Nat)(a:Bool)(b:LA)(K:St->O R):=fun an g y=>K ⟨[(1,op 0),(4,.bool an),(94,.imm d f 4 false a),(95,iv g),(96,iv y)],hq [bP a 0 b]⟩
def wt(c:Int)(m:LA)(r:Nat)(a:Bool)(b:LA)(K:St->O R):=fun ao aj z=>K ⟨[(1,op 0),(3,iv c),(4,.bool ao),(79,.imm m r 5 false a),(80,iv aj),(81,iv z)],hq [bP a 0 b]⟩
def wu(c:Int)(o:LA)(s:Nat)(a:Bool)(b:LA)(K:St->O R):=fun ap ak aa=>K ⟨[(1,op 0),(3,iv c),(4,.bool ap),(64,.imm o s 9 false a),(65,iv ak),(66,iv aa)],hq [bP a 0 b]⟩
def wv(c:Int)(j:LA)(t:Nat)(a:Bool)(b:LA)(K:St->O R):=fun aq ac v=>K ⟨[(1,op 0),(3,iv c),(4,.bool aq),(44,.imm j t 22 false a),(45,iv ac),(46,iv v)],hq [bP a 0 b]⟩
def ww(h:LA)(l:Nat)(a:Bool)(b:LA)(K:St->O R):=fun c ar ad w=>K ⟨[(1,op 0),(3,iv c),(4,.bool ar),(23,.imm h l 12 false a),(24,iv ad),(25,iv w)],hq [bP a 0 b]⟩
def nD Q4 (F:KF R) (d f a g i p b):∀ n,wo d f a g i p b (Ao (N1 N F (pz 91621445716) [Q4]) n)=(Rx N (Vv d f a b Q4) (C5 F) d f a g i p b n):=Gv fun n e=>(Dc (Y4 N (Vv d f a b Q4) (C5 F) d f a g i p b) e:_)
def nE Q4 (F:KF R) (d f a g u q b):∀ n,wq d f a g u q b (Ao (N1 N F (pz 91621445700) [Q4]) n)=(Nz N (Vv d f a b Q4) (C5 F) d f a g u q b n):=Gv fun n e=>(HG (Y5 N (Vv d f a b Q4) (C5 F) d f a g u q b) e (YS fun i p=>(lW ..).trans (nD ..)):_)
def nF(F:KF R)(d f a b):∀ n,Vv d f a b (Ao (N1 N F (pz 349508) []) n)=(H4 N (C5 F) d f a b n):=Gv fun n e=>(HG (Y6 N (C5 F) d f a b) e (Al7 fun g u q=>(lW ..).trans ((nE ..).trans (xh (Nz _ · _ _ _ _ _ _ _ _ _) e))):_)
def nG(F:KF R)(c m r a b):∀ n,wt c m r a b (Ao (N1 N F (pz 87364) []) n)=(Kh N (C5 F) c m r a b n):=Gv fun n e=>(HG (Y7 N (C5 F) c m r a b) e (YS fun d f=>(lW ..).trans (nF ..)):_)
def nH(F:KF R)(c o s a b):∀ n,wu c o s a b (Ao (N1 N F (pz 21828) []) n)=(Ki N (C5 F) c o s a b n):=Gv fun n e=>(HG (Y8 N (C5 F) c o s a b) e (YS fun m r=>(lW ..).trans (nG ..)):_)
def nI(F:KF R)(c j t a b):∀ n,wv c j t a b (Ao (N1 N F (pz 5444) []) n)=(Kj N (C5 F) c j t a b n):=Gv fun n e=>(HG (Y9 N (C5 F) c j t a b) e (YS fun o s=>(lW ..).trans (nH ..)):_)
def nK(F:KF R)(h l a b):∀ n,ww h l a b (Ao (N1 N F (pz 1348) []) n)=(N0 N (C5 F) h l a b n):=Gv fun n e=>(HG (Za N (C5 F) h l a b) e (Al7 fun c j t=>(lW ..).trans (nI ..)):_)
def zQ:=C8 N 50 (lO N) fq (fun
|[.pagg b a],[]=>some fun _ k=>DS N b a (C5 k)
| _,_=>none) fun _ _=>by split;intro R F;exact(Dc (PC N (C5 F) · _ _) (YS fun h l=>(lW ..).trans (nK ..)):_).trans (a_ ..).symm;trivial
def FU(r0:Lu->O R)(a:LA)(b:Nat)(d c:Bool)(k1:Nat->Lu->LA->O R)(i:Nat)(h:Lu)(j:LA):O R:=(Ua N (j.take (i*1)) i false true [.int .u32 10] 1 false true fun l m u q r=>Nm N (r.take (m*1)) m false true fun f v=>cond ((decide (0<=f))&&((decide (f<=(wrap .u64 (f+1))))&&((decide ((wrap .u64 (f+1))<=10))&&(decide ((10:Int)<=(10:Int)))))) (cond (ble ((List.length (take (((wrap .u64 (f+1)).toNat) - f.toNat) (drop f.toNat ([48,49,50,51,52,53,54,55,56,57]:Lu))))+h.length) 140737488355328) (cond ((l:Int)==0) (r0 ((take (((wrap .u64 (f+1)).toNat) - f.toNat) (drop f.toNat ([48,49,50,51,52,53,54,55,56,57]:Lu)))++h)) (k1 l ((take (((wrap .u64 (f+1)).toNat) - f.toNat) (drop f.toNat ([48,49,50,51,52,53,54,55,56,57]:Lu)))++h) q)) none) none)
def S7(r0:Lu->O R)(a:LA)(b:Nat)(d c:Bool):Nat->Nat->Lu->LA->O R
|0=>fun _ _ _=>none
|n+1=>FU N r0 a b d c (S7 r0 a b d c n)
def FV(r0:Lu->O R)(a:LA)(b:Nat)(d c:Bool)(k0:O R)(k1:Nat->Lu->LA->O R):O R:=(Ua N a b false c [.int .u32 10] 1 false true fun o p w s t=>Nm N (t.take (p*1)) p false true fun g x=>cond ((decide (0<=g))&&((decide (g<=(wrap .u64 (g+1))))&&((decide ((wrap .u64 (g+1))<=10))&&(decide ((10:Int)<=(10:Int)))))) (cond (ble (List.length (take (((wrap .u64 (g+1)).toNat) - g.toNat) (drop g.toNat ([48,49,50,51,52,53,54,55,56,57]:Lu)))) 140737488355328) (cond ((o:Int)==0) (r0 ((take (((wrap .u64 (g+1)).toNat) - g.toNat) (drop g.toNat ([48,49,50,51,52,53,54,55,56,57]:Lu)))++([]:Lu))) (k1 o ((take (((wrap .u64 (g+1)).toNat) - g.toNat) (drop g.toNat ([48,49,50,51,52,53,54,55,56,57]:Lu)))++([]:Lu)) s)) none) none)
def S8(r0:Lu->O R)(a:LA)(b:Nat)(d c:Bool):Nat->O R
|0=>none
|n+1=>FV N r0 a b d c (S8 r0 a b d c n) (S7 N r0 a b d c n)
def IK(N:Nat)(r0:Lu->O R)(q0:O R)(a:LA)(b:Nat)(d c:Bool):O R:=q0
def Xq:=(Ae fun N a b d c r0=>IK (R:=R) N r0 (S8 N r0 a b d c N) a b d c).1
def US(a b d c r0):(@Xq R N a b d c r0)=(IK N r0 (S8 N r0 a b d c N) a b d c):=by rw[Xq,(Ae _).2]
def bA:Hints:={H:=hK 2 (hS (hP [0,3] hL) hL)}
def ft:AT:=[wB N,fU N]
def bB(F:KF R):=P9 Tryz.f143 bA (ft N) [] N F
def sf(a:LA)(b:Nat)(d c:Bool)(K:St->O R):=fun i h j=>K ⟨[(0,A08 0 i),(3,.str h)],hq [bQ 1 j]⟩
def si(a:LA)(b:Nat)(d c:Bool)(K:St->O R):=K ⟨[(0,.imm a b 1 d c),(3,.str ([]:Lu))],[]⟩
def jX(F:KF R)(a b d c):∀ n,sf a b d c (Ao (bB N F (pz 84) []) n)=(S7 N (ep F) a b d c n):=Gv fun n e=>(Dc (FU N (ep F) a b d c) e:_)
def jY(F:KF R)(a b d c):∀ n,si a b d c (Ao (bB N F (pz 84) []) n)=(S8 N (ep F) a b d c n):=Gv fun n e=>(HG (FV N (ep F) a b d c) e (jX ..):_)
def wx:=C8 N 143 (ft N) bA (fun
|[.imm a b 1 d c],[]=>some fun _ k=>Xq N a b d c (ep k)
| _,_=>none) fun _ _=>by split;intro R F;exact(Dc (IK N (ep F) · _ _ _ _) ((lW ..).trans (jY ..)):_).trans (US ..).symm;trivial
def FW(a:LA)(b:Bool)(r0:Lu->O R):O R:=(cond (ble 2 a.length) (fR N (a.take 2) b fun c=>cond ((beq c.length 2)&&((ble 2 a.length)&&(!false))) (HF (setCells a 0 c) fun e=>cond e (By 1 ((setCells a 0 c).drop 1) fun f g=>Xq N f g false (b||false) fun d=>cond (ble (1+d.length) 140737488355328) (r0 (([45]:Lu)++d)) none) (By 1 ((setCells a 0 c).drop 1) fun h i=>Xq N h i false (b||false) fun j=>r0 j)) none) none)
def Ta:=(Ae (@FW R)).1
def IL:@Ta R=@FW R:=(Ae _).2
def nM:=C8 N 130 [Ab7 N,wx N] Cs (fun
|[.pagg a b],[]=>some fun _ k=>Ta N a b (ep k)
| _,_=>none) fun _ _=>by split;intro R F;dsimp only;rw[IL];kernel_rfl;trivial
def I5(k0:Int->Lu->Bool->O R)(r0:Lu->Bool->O R)(b:LA)(a:Nat)(c d:Bool)(f:Lu)(g:Bool)(j:Int)(l:Lu)(o:Bool):O R:=(cond (Ai j a) (Bf .i64 (b.drop (j.toNat*1)) fun q=>Zt N q fun r=>Ta N r false fun p=>cond (ble (1+p.length) 140737488355328) (cond (ble (l.length+(List.length (([32]:Lu)++p))) 140737488355328) (k0 (wrap .i64 (j+1)) (l++(([32]:Lu)++p)) o) none) none) none)
def Ma(N:Nat)(r0:Lu->Bool->O R)(b:LA)(a:Nat)(c d:Bool)(f:Lu)(g:Bool)(k0:Int->Lu->Bool->O R)(q1:Int->Lu->Bool->O R)(h:Int)(i:Lu)(m:Bool):O R:=(cond (decide (h<(a:Int))) (cond (m==false) (cond (Ai h a) (Bf .i64 (b.drop (h.toNat*1)) fun s=>cond ((cond false true (decide (s<(-1073741824))))==false) (cond (Ai h a) (Bf .i64 (b.drop (h.toNat*1)) fun t=>q1 h i (cond false true (decide (t>1073741824)))) none) (q1 h i true)) none) (q1 h i true)) (r0 i m))
def C7(r0:Lu->Bool->O R)(b:LA)(a:Nat)(c d:Bool)(f:Lu)(g:Bool):Nat->Int->Lu->Bool->O R
|0=>fun _ _ _=>none
|n+1=>Ma N r0 b a c d f g (C7 r0 b a c d f g n) (I5 N (C7 r0 b a c d f g n) r0 b a c d f g)
def Ry(N:Nat)(r0:Lu->Bool->O R)(q0:Int->Lu->Bool->O R)(b:LA)(a:Nat)(c d:Bool)(f:Lu)(g:Bool):O R:=(q0 0 f g)
def Ag:=(Ae fun N b a c d f g r0=>Ry (R:=R) N r0 (C7 N r0 b a c d f g N) b a c d f g).1
def BU(b a c d f g r0):(@Ag R N b a c d f g r0)=(Ry N r0 (C7 N r0 b a c d f g N) b a c d f g):=by rw[Ag,(Ae _).2]
def FX:Hints:={H:=hK 1 (hS (hP [0,1,4] (hK 1 (hS (hS (hJ [0,1,4] hL hL) hL) hL))) hL)}
def IM:AT:=[sL N,nM N]
def FY(F:KF R):=P9 Tryz.f98 FX (IM N) [100000] N F
def dJ(b:LA)(a:Nat)(c d:Bool)(f:Lu)(g:Bool)(K:St->O R):=fun j l o=>K ⟨[(0,.optr 100000 0),(1,.imm b a 1 c d),(4,iv j)],[(100000,bN 0 [.str l,.bool o])]⟩
def FZ(b:LA)(a:Nat)(c d:Bool)(f:Lu)(g:Bool)(K:St->O R):=fun h i m=>K ⟨[(0,.optr 100000 0),(1,.imm b a 1 c d),(4,iv h)],[(100000,bN 0 [.str i,.bool m])]⟩
def SC Q0 (F:KF R) (b a c d f g):dJ b a c d f g (Cm (FY N F (pz 20545) [Q0]))=(I5 N (FZ b a c d f g Q0) (Qe F) b a c d f g):=by kernel_rfl
def SD(F:KF R)(b a c d f g):∀ n,FZ b a c d f g (Ao (FY N F (pz 20) []) n)=(C7 N (Qe F) b a c d f g n):=Gv fun n e=>(HG (Ma N (Qe F) b a c d f g) e ((jW ..).trans ((SC ..).trans (xh (I5 _ · _ _ _ _ _ _ _) e))):_)
def Kk:=C8 N 98 (IM N) FX (fun
|[.optr 100000 0,.imm b a 1 c d],[(100000,⟨false,false,false,false,0,[.str f,.bool g],false,none⟩)]=>some fun _ k=>Ag N b a c d f g (Qe k)
| _,_=>none) fun _ _=>by split;intro R F;exact(Dc (Ry N (Qe F) · _ _ _ _ _ _) ((lW ..).trans (SD ..)):_).trans (BU ..).symm;trivial
def Mb(N:Nat)(r0:Lu->O R)(c:LA)(b:Nat)(d f a:Bool)(k0:Int->Lu->O R)(h:Int)(i:Lu):O R:=(cond (decide (h<(b:Int))) (cond (Ai h b) (Mj (c.drop (h.toNat*1)) fun j=>cond (ble (1+j.length) 140737488355328) (cond (ble (i.length+(List.length (([32]:Lu)++j))) 140737488355328) (k0 (wrap .i64 (h+1)) (i++(([32]:Lu)++j))) none) none) none) (r0 i))
def Ev(r0:Lu->O R)(c:LA)(b:Nat)(d f a:Bool):Nat->Int->Lu->O R
|0=>fun _ _=>none
|n+1=>Mb N r0 c b d f a (Ev r0 c b d f a n)
def Rz(N:Nat)(r0:Lu->O R)(q0:Int->Lu->O R)(c:LA)(b:Nat)(d f:Bool)(g:Lu)(a:Bool):O R:=(q0 0 g)
def An:=(Ae fun N c b d f g a r0=>Rz (R:=R) N r0 (Ev N r0 c b d f a N) c b d f g a).1
def BV(c b d f g a r0):(@An R N c b d f g a r0)=(Rz N r0 (Ev N r0 c b d f a N) c b d f g a):=by rw[An,(Ae _).2]
def F_:Hints:={H:=hK 1 (hS (hP [0,1,4] hL) hL)}
def dK(F:KF R):=P9 Tryz.f99 F_ [] [100000] N F
def N2(a:Bool)(F:KF R):Lu->O R:=fun l=>F (.tup []) [(100000,bN 0 [.str l,.bool a])]
def dL(c:LA)(b:Nat)(d f a:Bool)(K:St->O R):=fun h i=>K ⟨[(0,.optr 100000 0),(1,.imm c b 1 d f),(4,iv h)],[(100000,bN 0 [.str i,.bool a])]⟩
def SE(F:KF R)(c b d f a):∀ n,dL c b d f a (Ao (dK N F (pz 20) []) n)=(Ev N (N2 a F) c b d f a n):=Gv fun n e=>(Dc (Mb N (N2 a F) c b d f a) e:_)
def Pu:=C8 N 99 [] F_ (fun
|[.optr 100000 0,.imm c b 1 d f],[(100000,⟨false,false,false,false,0,[.str g,.bool a],false,none⟩)]=>some fun _ k=>An N c b d f g a (N2 a k)
| _,_=>none) fun _ _=>by split;rename_i c b d f g a;intro R F;exact(Dc (Rz N (N2 a F) · c b d f g a) ((lW ..).trans (SE ..)):_).trans (BV ..).symm;trivial
def Hw(k0:Int->Lu->Bool->O R)(r0:Lu->Bool->O R)(b:LA)(a:Nat)(c d:Bool)(f:Lu)(g:Bool)(j:Int)(p:Lu)(q:Bool):O R:=(cond (Ai j a) (Bf .i64 (b.drop (j.toNat*2)) fun r=>Ag N [.int .i64 r] 1 false true p q fun h s=>cond (Ai j a) (Bf .i64 ((b.drop (j.toNat*2)).drop 1) fun t=>Ag N [.int .i64 t] 1 false true h s fun i u=>cond (ble (h.length+1) 140737488355328) (cond ((decide (0<=(wrap .i64 (((h.length:Nat):Int)+1))))&&((decide ((wrap .i64 (((h.length:Nat):Int)+1))<=((i.length:Nat):Int)))&&((decide (((i.length:Nat):Int)<=((i.length:Nat):Int)))&&(decide (((i.length:Nat):Int)<=((i.length:Nat):Int)))))) (cond (ble ((List.length (h++([47]:Lu)))+(List.length (take (i.length - ((wrap .i64 (((h.length:Nat):Int)+1)).toNat)) (drop ((wrap .i64 (((h.length:Nat):Int)+1)).toNat) i)))) 140737488355328) (k0 (wrap .i64 (j+1)) ((h++([47]:Lu))++(take (i.length - ((wrap .i64 (((h.length:Nat):Int)+1)).toNat)) (drop ((wrap .i64 (((h.length:Nat):Int)+1)).toNat) i))) u) none) none) none) none) none)
def Kl(N:Nat)(r0:Lu->Bool->O R)(b:LA)(a:Nat)(c d:Bool)(f:Lu)(g:Bool)(k0:Int->Lu->Bool->O R)(q1:Int->Lu->Bool->O R)(l:Int)(m:Lu)(o:Bool):O R:=(cond (decide (l<(a:Int))) (cond (o==false) (cond (Ai l a) (Bf .i64 ((b.drop (l.toNat*2)).drop 1) fun v=>q1 l m (cond false true (decide (v<1)))) none) (q1 l m true)) (r0 m o))
def Cv(r0:Lu->Bool->O R)(b:LA)(a:Nat)(c d:Bool)(f:Lu)(g:Bool):Nat->Int->Lu->Bool->O R
|0=>fun _ _ _=>none
|n+1=>Kl N r0 b a c d f g (Cv r0 b a c d f g n) (Hw N (Cv r0 b a c d f g n) r0 b a c d f g)
def Pv(N:Nat)(r0:Lu->Bool->O R)(q0:Int->Lu->Bool->O R)(b:LA)(a:Nat)(c d:Bool)(f:Lu)(g:Bool):O R:=(q0 0 f g)
def Df:=(Ae fun N b a c d f g r0=>Pv (R:=R) N r0 (Cv N r0 b a c d f g N) b a c d f g).1
def Z2(b a c d f g r0):(@Df R N b a c d f g r0)=(Pv N r0 (Cv N r0 b a c d f g N) b a c d f g):=by rw[Df,(Ae _).2]
def BW:Hints:={H:=hK 1 (hS (hP [0,1,4] (hK 1 (hS (hS (hJ [0,1,4] hL hL) hL) hL))) hL)}
def F':AT:=[Kk N]
def BX(F:KF R):=P9 Tryz.f102 BW (F' N) [100000] N F
def ZH(b:LA)(a:Nat)(c d:Bool)(f:Lu)(g:Bool)(K:St->O R):=fun j p q=>K ⟨[(0,.optr 100000 0),(1,.imm b a 2 c d),(4,iv j)],[(100000,bN 0 [.str p,.bool q])]⟩
def BY(b:LA)(a:Nat)(c d:Bool)(f:Lu)(g:Bool)(K:St->O R):=fun l m o=>K ⟨[(0,.optr 100000 0),(1,.imm b a 2 c d),(4,iv l)],[(100000,bN 0 [.str m,.bool o])]⟩
def PD Q0 (F:KF R) (b a c d f g):ZH b a c d f g (Cm (BX N F (pz 20545) [Q0]))=(Hw N (BY b a c d f g Q0) (Qe F) b a c d f g):=by kernel_rfl
def PE(F:KF R)(b a c d f g):∀ n,BY b a c d f g (Ao (BX N F (pz 20) []) n)=(Cv N (Qe F) b a c d f g n):=Gv fun n e=>(HG (Kl N (Qe F) b a c d f g) e ((jW ..).trans ((PD ..).trans (xh (Hw _ · _ _ _ _ _ _ _) e))):_)
def GA:=C8 N 102 (F' N) BW (fun
|[.optr 100000 0,.imm b a 2 c d],[(100000,⟨false,false,false,false,0,[.str f,.bool g],false,none⟩)]=>some fun _ k=>Df N b a c d f g (Qe k)
| _,_=>none) fun _ _=>by split;intro R F;exact(Dc (Pv N (Qe F) · _ _ _ _ _ _) ((lW ..).trans (PE ..)):_).trans (Z2 ..).symm;trivial
def Vw(c:LA)(f:Bool)(a:LA)(b:Bool)(d:Lu)(e:Bool)(r0:Lu->Bool->O R):O R:=(cond (ble (d.length+4) 140737488355328) (Mj a fun n=>By 3 (c.drop 2) fun o p=>Bf .i64 (a.drop 1) fun g=>cond (Ai g p) (Mj (o.drop (g.toNat*3)) fun q=>By 3 (c.drop 2) fun r s=>Bf .i64 (a.drop 2) fun h=>cond (Ai h s) (Mj (r.drop (h.toNat*3)) fun t=>An N [.str n,.str q,.str t,.str ([120]:Lu)] 4 false true (d++([108,105,110,101]:Lu)) e fun u=>cond (ble 2 ((a.drop 3).length)) (cond ((!b)||(Bg ((a.drop 3).take 2))) (cond ((beq (((a.drop 3).take 2).length) 2)&&(ble 2 2)) (Df N ((setCells [A09,A09] 0 ((a.drop 3).take 2)).take 2) 1 false true u e fun v i=>An N [.str ([115,104,105,102,116]:Lu)] 1 false true v i fun w=>cond (ble 2 ((a.drop 5).length)) (cond ((!b)||(Bg ((a.drop 5).take 2))) (cond (ble 2 ((a.drop 7).length)) (cond ((!b)||(Bg ((a.drop 7).take 2))) (cond ((beq (((a.drop 5).take 2).length) 2)&&(ble 2 4)) (cond ((beq (((a.drop 7).take 2).length) 2)&&(ble 4 ((setCells [A09,A09,A09,A09] 0 ((a.drop 5).take 2)).length))) (Df N ((setCells (setCells [A09,A09,A09,A09] 0 ((a.drop 5).take 2)) 2 ((a.drop 7).take 2)).take 4) 2 false true w i fun x j=>An N [.str ([108,105,109,105,116]:Lu)] 1 false true x j fun y=>Bf .i64 (a.drop 9) fun z=>Bf .i64 (a.drop 10) fun aa=>Ag N [.int .i64 z,.int .i64 aa] 2 false true y j fun ab l=>An N [.str ([97,119,97,121]:Lu)] 1 false true ab l fun ac=>By 1 (a.drop 11) fun ad ae=>Ag N ad ae false b ac l fun m af=>cond (ble (m.length+1) 140737488355328) (r0 (m++([10]:Lu)) af) none) none) none) none) none) none) none) none) none) none) none) none) none)
def R2:=(Ae (@Vw R)).1
def Z3:@R2 R=@Vw R:=(Ae _).2
def dM:=C8 N 100 [Pu N,GA N,Kk N] Cs (fun
|[.optr 100000 0,.pagg c f,.pagg a b],[(100000,⟨false,false,false,false,0,[.str d,.bool e],false,none⟩)]=>some fun _ k=>R2 N c f a b d e (Qe k)
| _,_=>none) fun _ _=>by split;intro R F;dsimp only;rw[Z3];kernel_rfl;trivial
def Km(r0:Lu->Bool->O R)(b:Bool)(a:LA)(k0:Int->Lu->Bool->O R)(f:Int)(j:Lu)(i:Bool):O R:=(By 2 (a.drop 4) fun cg z=>cond (decide (f<(z:Int))) (By 2 (a.drop 4) fun aa ab=>cond (Ai f ab) (Bf .i64 (aa.drop (f.toNat*2)) fun ac=>By 2 (a.drop 4) fun ad ae=>cond (Ai f ae) (Bf .i64 ((ad.drop (f.toNat*2)).drop 1) fun af=>Ag N [.int .i64 ac,.int .i64 af] 2 false true j i fun ag ah=>k0 (wrap .i64 (f+1)) ag ah) none) none) (An N [.str ([110,111,108,111,97,100]:Lu)] 1 false true j i fun ai=>Bf .i64 (a.drop 5) fun aj=>Ag N [.int .i64 aj] 1 false true ai i fun ak l=>An N [.str ([114,97,109,112]:Lu)] 1 false true ak l fun al=>Bf .i64 (a.drop 6) fun am=>Bf .i64 (a.drop 7) fun an=>Ag N [.int .i64 am,.int .i64 an] 2 false true al l fun ao m=>An N [.str ([115,116,97,114,116]:Lu)] 1 false true ao m fun ap=>Bf .i64 (a.drop 8) fun aq=>Ag N [.int .i64 aq] 1 false true ap m fun ar o=>An N [.str ([115,116,111,112]:Lu)] 1 false true ar o fun au=>Bf .i64 (a.drop 9) fun av=>Ag N [.int .i64 av] 1 false true au o fun aw p=>An N [.str ([116,105,109,101,115]:Lu)] 1 false true aw p fun ax=>Bf .i64 (a.drop 10) fun ay=>Bf .i64 (a.drop 11) fun az=>Bf .i64 (a.drop 12) fun ba=>Ag N [.int .i64 ay,.int .i64 az,.int .i64 ba] 3 false true ax p fun bb q=>An N [.str ([99,111,115,116]:Lu)] 1 false true bb q fun bc=>Bf .i64 (a.drop 13) fun bd=>Bf .i64 (a.drop 14) fun be=>Bf .i64 (a.drop 15) fun bf=>Ag N [.int .i64 bd,.int .i64 be,.int .i64 bf] 3 false true bc q fun bg r=>An N [.str ([114,101,115,101,114,118,101]:Lu)] 1 false true bg r fun bh=>Bf .i64 (a.drop 16) fun bi=>Bf .i64 (a.drop 17) fun bj=>Ag N [.int .i64 bi,.int .i64 bj] 2 false true bh r fun bk s=>An N [.str ([97,119,97,121]:Lu)] 1 false true bk s fun bl=>By 1 (a.drop 18) fun bm bn=>Ag N bm bn false b bl s fun bo t=>Bf .i64 (a.drop 19) fun u=>cond (Ai u 3) (Mj (drop (0+(u.toNat*1)) [.str ([111,102,102]:Lu),.str ([115,116,97,114,116,105,110,103]:Lu),.str ([111,110]:Lu)]) fun bp=>An N [.str ([115,116,97,116,101]:Lu),.str bp] 2 false true bo t fun bq=>Bf .i64 (a.drop 20) fun br=>Bf .i64 (a.drop 21) fun bs=>Ag N [.int .i64 br,.int .i64 bs] 2 false true bq t fun v bt=>cond (ble (v.length+1) 140737488355328) (r0 (v++([10]:Lu)) bt) none) none))
def Dg(r0:Lu->Bool->O R)(b:Bool)(a:LA):Nat->Int->Lu->Bool->O R
|0=>fun _ _ _=>none
|n+1=>Km N r0 b a (Dg r0 b a n)
def Pw(r0:Lu->Bool->O R)(q0:Int->Lu->Bool->O R)(g:LA)(h:Bool)(a:LA)(b:Bool)(c:Lu)(d:Bool):O R:=(cond (ble (c.length+4) 140737488355328) (Mj a fun bu=>By 3 (g.drop 2) fun bv bw=>Bf .i64 (a.drop 1) fun w=>cond (Ai w bw) (Mj (bv.drop (w.toNat*3)) fun bx=>An N [.str bu,.str bx,.str ([109,105,110]:Lu)] 3 false true (c++([117,110,105,116]:Lu)) d fun bz=>Bf .i64 (a.drop 2) fun ca=>Ag N [.int .i64 ca] 1 false true bz d fun cb x=>An N [.str ([109,97,120]:Lu)] 1 false true cb x fun cc=>Bf .i64 (a.drop 3) fun cd=>Ag N [.int .i64 cd] 1 false true cc x fun ce y=>An N [.str ([115,101,103,109,101,110,116,115]:Lu)] 1 false true ce y fun cf=>q0 0 cf y) none) none)
def Mv:=(Ae fun N g h a b c d r0=>Pw (R:=R) N r0 (Dg N r0 b a N) g h a b c d).1
def Z4(g h a b c d r0):(@Mv R N g h a b c d r0)=(Pw N r0 (Dg N r0 b a N) g h a b c d):=by rw[Mv,(Ae _).2]
def BZ:Hints:={H:=hK 7 (hS (hK 1 (hS (hP [0,5,6] hL) hL)) hL)}
def GB:AT:=[Pu N,Kk N]
def ZI(F:KF R):=P9 Tryz.f101 BZ (GB N) [100000] N F
def ZJ(b:Bool)(a:LA)(K:St->O R):=fun f j i=>K ⟨[(0,.optr 100000 0),(5,op 0),(6,iv f)],[(100000,bN 0 [.str j,.bool i]),(300000,bP b 0 a)]⟩
def PF(F:KF R)(b a):∀ n,ZJ b a (Ao (ZI N F (pz 1398084) []) n)=(Dg N (Qe F) b a n):=Gv fun n e=>(Dc (Km N (Qe F) b a) e:_)
def dN:=C8 N 101 (GB N) BZ (fun
|[.optr 100000 0,.pagg g h,.pagg a b],[(100000,⟨false,false,false,false,0,[.str c,.bool d],false,none⟩)]=>some fun _ k=>Mv N g h a b c d (Qe k)
| _,_=>none) fun _ _=>by split;intro R F;exact(Dc (Pw N (Qe F) · _ _ _ _ _ _) ((lW ..).trans (PF ..)):_).trans (Z4 ..).symm;trivial
def H5(r0:Lu->Bool->O R)(d:Bool)(c:LA)(f:Bool)(a:LA)(b:Bool)(k1:Int->Lu->Bool->O R)(g:Int)(l:Lu)(m:Bool):O R:=(By 3 (a.drop 3) fun aq q=>cond (decide (g<(q:Int))) (By 22 (c.drop 4) fun r s=>By 3 (a.drop 3) fun t u=>cond (Ai g u) (Bf .i64 (t.drop (g.toNat*3)) fun o=>cond (Ai o s) (Mj (r.drop (o.toNat*22)) fun v=>An N [.str v] 1 false true l m fun w=>By 3 (a.drop 3) fun x y=>cond (Ai g y) (Bf .i64 ((x.drop (g.toNat*3)).drop 1) fun z=>By 3 (a.drop 3) fun aa ab=>cond (Ai g ab) (Bf .i64 ((aa.drop (g.toNat*3)).drop 2) fun ac=>Ag N [.int .i64 z,.int .i64 ac] 2 false true w m fun ad ae=>k1 (wrap .i64 (g+1)) ad ae) none) none) none) none) (cond (ble (l.length+1) 140737488355328) (r0 (l++([10]:Lu)) m) none))
def Ej(r0:Lu->Bool->O R)(d:Bool)(c:LA)(f:Bool)(a:LA)(b:Bool):Nat->Int->Lu->Bool->O R
|0=>fun _ _ _=>none
|n+1=>H5 N r0 d c f a b (Ej r0 d c f a b n)
def H6(r0:Lu->Bool->O R)(b d:Bool)(c:LA)(f:Bool)(a:LA)(k0:Int->Lu->O R)(q1:Int->Lu->Bool->O R)(i:Int)(j:Lu):O R:=(By 1 (a.drop 1) fun ar af=>cond (decide (i<(af:Int))) (By 12 (c.drop 3) fun ag ah=>By 1 (a.drop 1) fun ai aj=>cond (Ai i aj) (Bf .i64 (ai.drop (i.toNat*1)) fun p=>cond (Ai p ah) (Mj (ag.drop (p.toNat*12)) fun ak=>An N [.str ak] 1 false true j b fun al=>k0 (wrap .i64 (i+1)) al) none) none) (HF (a.drop 2) fun am=>cond am (An N [.str ([99,111,114,114,101,99,116,105,118,101]:Lu)] 1 false true j b fun an=>q1 0 an b) (cond (ble (j.length+1) 140737488355328) (r0 (j++([10]:Lu)) b) none)))
def Dj(r0:Lu->Bool->O R)(b d:Bool)(c:LA)(f:Bool)(a:LA):Nat->Int->Lu->O R
|0=>fun _ _=>none
|n+1=>H6 N r0 b d c f a (Dj r0 b d c f a n) (Ej N r0 d c f a b N)
def Mc(r0:Lu->Bool->O R)(q0:Int->Lu->O R)(c:LA)(d:Bool)(a:LA)(f:Bool)(h:Lu)(b:Bool):O R:=(cond (ble (h.length+6) 140737488355328) (Mj a fun ao=>An N [.str ao,.str ([108,105,110,101,115]:Lu)] 2 false true (h++([111,117,116,97,103,101]:Lu)) b fun ap=>q0 0 ap) none)
def I6:=(Ae fun N c d a f h b r0=>Mc (R:=R) N r0 (Dj N r0 b d c f a N) c d a f h b).1
def Vx(c d a f h b r0):(@I6 R N c d a f h b r0)=(Mc N r0 (Dj N r0 b d c f a N) c d a f h b):=by rw[I6,(Ae _).2]
def Ws:Hints:={H:=hK 3 (hS (hK 1 (hS (hP [0,4,5,6] hL) hL)) (hS (hK 1 (hS (hK 2 (hS (hP [0,4,5,7] hL) hL)) hL)) hL))}
def Z5:AT:=[Pu N,Kk N]
def Wt(F:KF R):=P9 Tryz.f103 Ws (Z5 N) [100000] N F
def SF(d:Bool)(c:LA)(f:Bool)(a:LA)(b:Bool)(K:St->O R):=fun g l m=>K ⟨[(0,.optr 100000 0),(4,op 0),(5,op 1),(7,iv g)],[(100000,bN 0 [.str l,.bool m]),(300000,bP d 0 c),(300001,bP f 0 a)]⟩
def SG(b d:Bool)(c:LA)(f:Bool)(a:LA)(K:St->O R):=fun i j=>K ⟨[(0,.optr 100000 0),(4,op 0),(5,op 1),(6,iv i)],[(100000,bN 0 [.str j,.bool b]),(300000,bP d 0 c),(300001,bP f 0 a)]⟩
def KB(F:KF R)(d c f a b):∀ n,SF d c f a b (Ao (Wt N F (pz 1397012) []) n)=(Ej N (Qe F) d c f a b n):=Gv fun n e=>(Dc (H5 N (Qe F) d c f a b) e:_)
def KC(F:KF R)(b d c f a):∀ n,SG b d c f a (Ao (Wt N F (pz 5444) []) n)=(Dj N (Qe F) b d c f a n):=Gv fun n e=>(HG (H6 N (Qe F) b d c f a) e ((lW ..).trans (KB ..)):_)
def UT:=C8 N 103 (Z5 N) Ws (fun
|[.optr 100000 0,.pagg c d,.pagg a f],[(100000,⟨false,false,false,false,0,[.str h,.bool b],false,none⟩)]=>some fun _ k=>I6 N c d a f h b (Qe k)
| _,_=>none) fun _ _=>by split;intro R F;exact(Dc (Mc N (Qe F) · _ _ _ _ _ _) ((lW ..).trans (KC ..)):_).trans (Vx ..).symm;trivial
def Kn(r0:Lu->Bool->O R)(g:LA)(m:Nat)(a:Bool)(b:LA)(k5:Int->Int->Lu->Bool->O R)(af u:Int)(ag:Lu)(ah:Bool):O R:=(cond (decide (u<af)) (cond (Ai u m) (cond (ble 4 ((g.drop (u.toNat*4)).length)) (cond ((beq 0 0)&&((beq (((g.drop (u.toNat*4)).take 4).length) 4)&&(beq 4 4))) (cond (ble 8 b.length) (cond (ble 4 (((g.drop (u.toNat*4)).take 4).length)) (I6 N (b.take 8) a (((g.drop (u.toNat*4)).take 4).take 4) a ag ah fun bg bh=>k5 af (wrap .i64 (u+1)) bg bh) none) none) none) none) none) (r0 ag ah))
def Fz(r0:Lu->Bool->O R)(g:LA)(m:Nat)(a:Bool)(b:LA):Nat->Int->Int->Lu->Bool->O R
|0=>fun _ _ _ _=>none
|n+1=>Kn N r0 g m a b (Fz r0 g m a b n)
def Ko(r0:Lu->Bool->O R)(d:LA)(o:Nat)(a:Bool)(b:LA)(k4:Int->Int->Lu->Bool->O R)(q5:LA->Nat->Int->Int->Lu->Bool->O R)(ai s:Int)(z:Lu)(aa:Bool):O R:=(cond (decide (s<ai)) (cond (Ai s o) (cond (ble 5 ((d.drop (s.toNat*5)).length)) (cond ((beq 0 0)&&((beq (((d.drop (s.toNat*5)).take 5).length) 5)&&(beq 5 5))) (cond (ble (z.length+3) 140737488355328) (Mj ((d.drop (s.toNat*5)).take 5) fun bi=>By 3 (b.drop 2) fun bj bk=>Bf .i64 (((d.drop (s.toNat*5)).take 5).drop 1) fun ar=>cond (Ai ar bk) (Mj (bj.drop (ar.toNat*3)) fun bl=>An N [.str bi,.str bl,.str ([105,109,112,111,114,116]:Lu)] 3 false true (z++([116,105,101]:Lu)) aa fun bm=>By 1 (((d.drop (s.toNat*5)).take 5).drop 2) fun bn bo=>Ag N bn bo false a bm aa fun bp au=>An N [.str ([101,120,112,111,114,116]:Lu)] 1 false true bp au fun bq=>By 1 (((d.drop (s.toNat*5)).take 5).drop 3) fun br bs=>Ag N br bs false a bq au fun bt av=>An N [.str ([112,114,105,99,101]:Lu)] 1 false true bt av fun bu=>By 1 (((d.drop (s.toNat*5)).take 5).drop 4) fun bv bw=>Ag N bv bw false a bu av fun aw bx=>cond (ble (aw.length+1) 140737488355328) (k4 ai (wrap .i64 (s+1)) (aw++([10]:Lu)) bx) none) none) none) none) none) none) (By 4 (b.drop 7) fun g m=>q5 g m (m:Int) 0 z aa))
def Ec(r0:Lu->Bool->O R)(d:LA)(o:Nat)(a:Bool)(b:LA):Nat->Int->Int->Lu->Bool->O R
|0=>fun _ _ _ _=>none
|n+1=>Ko N r0 d o a b (Ec r0 d o a b n) (fun g m=>Fz N r0 g m a b N)
def Kp(r0:Lu->Bool->O R)(c:LA)(p:Nat)(a:Bool)(b:LA)(k3:Int->Int->Lu->Bool->O R)(q4:LA->Nat->Int->Int->Lu->Bool->O R)(aj h:Int)(ab:Lu)(ac:Bool):O R:=(cond (decide (h<aj)) (cond (Ai h p) (cond (ble 9 ((c.drop (h.toNat*9)).length)) (cond ((beq 0 0)&&((beq (((c.drop (h.toNat*9)).take 9).length) 9)&&(beq 9 9))) (cond (ble (ab.length+5) 140737488355328) (Mj ((c.drop (h.toNat*9)).take 9) fun bz=>By 3 (b.drop 2) fun ca cb=>Bf .i64 (((c.drop (h.toNat*9)).take 9).drop 1) fun ax=>cond (Ai ax cb) (Mj (ca.drop (ax.toNat*3)) fun cc=>An N [.str bz,.str cc,.str ([99,97,112,97,99,105,116,121]:Lu)] 3 false true (ab++([115,116,111,114,101]:Lu)) ac fun cd=>Bf .i64 (((c.drop (h.toNat*9)).take 9).drop 2) fun ce=>Ag N [.int .i64 ce] 1 false true cd ac fun cf ay=>An N [.str ([108,101,118,101,108]:Lu)] 1 false true cf ay fun cg=>Bf .i64 (((c.drop (h.toNat*9)).take 9).drop 3) fun ch=>Bf .i64 (((c.drop (h.toNat*9)).take 9).drop 4) fun ci=>Ag N [.int .i64 ch,.int .i64 ci] 2 false true cg ay fun cj az=>An N [.str ([114,97,116,101]:Lu)] 1 false true cj az fun ck=>Bf .i64 (((c.drop (h.toNat*9)).take 9).drop 5) fun cl=>Bf .i64 (((c.drop (h.toNat*9)).take 9).drop 6) fun cm=>Ag N [.int .i64 cl,.int .i64 cm] 2 false true ck az fun cn ba=>An N [.str ([101,102,102,105,99,105,101,110,99,121]:Lu)] 1 false true cn ba fun co=>cond (ble 2 ((((c.drop (h.toNat*9)).take 9).drop 7).length)) (cond ((!a)||(Bg ((((c.drop (h.toNat*9)).take 9).drop 7).take 2))) (cond ((beq (((((c.drop (h.toNat*9)).take 9).drop 7).take 2).length) 2)&&(ble 2 2)) (Df N ((setCells [A09,A09] 0 ((((c.drop (h.toNat*9)).take 9).drop 7).take 2)).take 2) 1 false true co ba fun bb cp=>cond (ble (bb.length+1) 140737488355328) (k3 aj (wrap .i64 (h+1)) (bb++([10]:Lu)) cp) none) none) none) none) none) none) none) none) none) (By 5 (b.drop 6) fun d o=>q4 d o (o:Int) 0 ab ac))
def Ed(r0:Lu->Bool->O R)(c:LA)(p:Nat)(a:Bool)(b:LA):Nat->Int->Int->Lu->Bool->O R
|0=>fun _ _ _ _=>none
|n+1=>Kp N r0 c p a b (Ed r0 c p a b n) (fun d o=>Ec N r0 d o a b N)
def Kq(r0:Lu->Bool->O R)(i:LA)(q:Nat)(a:Bool)(b:LA)(k2:Int->Int->Lu->Bool->O R)(q3:LA->Nat->Int->Int->Lu->Bool->O R)(ak v:Int)(al:Lu)(am:Bool):O R:=(cond (decide (v<ak)) (cond (Ai v q) (cond (ble 22 ((i.drop (v.toNat*22)).length)) (cond ((beq 0 0)&&((beq (((i.drop (v.toNat*22)).take 22).length) 22)&&(beq 22 22))) (cond (ble 8 b.length) (cond (ble 22 (((i.drop (v.toNat*22)).take 22).length)) (Mv N (b.take 8) a (((i.drop (v.toNat*22)).take 22).take 22) a al am fun cq cr=>k2 ak (wrap .i64 (v+1)) cq cr) none) none) none) none) none) (By 9 (b.drop 5) fun c p=>q3 c p (p:Int) 0 al am))
def F0(r0:Lu->Bool->O R)(i:LA)(q:Nat)(a:Bool)(b:LA):Nat->Int->Int->Lu->Bool->O R
|0=>fun _ _ _ _=>none
|n+1=>Kq N r0 i q a b (F0 r0 i q a b n) (fun c p=>Ed N r0 c p a b N)
def Kr(r0:Lu->Bool->O R)(j:LA)(r:Nat)(a:Bool)(b:LA)(k1:Int->Int->Lu->Bool->O R)(q2:LA->Nat->Int->Int->Lu->Bool->O R)(an w:Int)(ao:Lu)(ap:Bool):O R:=(cond (decide (w<an)) (cond (Ai w r) (cond (ble 12 ((j.drop (w.toNat*12)).length)) (cond ((beq 0 0)&&((beq (((j.drop (w.toNat*12)).take 12).length) 12)&&(beq 12 12))) (cond (ble 8 b.length) (cond (ble 12 (((j.drop (w.toNat*12)).take 12).length)) (R2 N (b.take 8) a (((j.drop (w.toNat*12)).take 12).take 12) a ao ap fun cs ct=>k1 an (wrap .i64 (w+1)) cs ct) none) none) none) none) none) (By 22 (b.drop 4) fun i q=>q2 i q (q:Int) 0 ao ap))
def F1(r0:Lu->Bool->O R)(j:LA)(r:Nat)(a:Bool)(b:LA):Nat->Int->Int->Lu->Bool->O R
|0=>fun _ _ _ _=>none
|n+1=>Kr N r0 j r a b (F1 r0 j r a b n) (fun i q=>F0 N r0 i q a b N)
def Ks(r0:Lu->Bool->O R)(f:LA)(l:Nat)(a:Bool)(b:LA)(k0:Int->Int->Lu->Bool->O R)(q1:LA->Nat->Int->Int->Lu->Bool->O R)(aq t:Int)(ad:Lu)(ae:Bool):O R:=(cond (decide (t<aq)) (cond (Ai t l) (cond (ble 3 ((f.drop (t.toNat*3)).length)) (cond ((beq 0 0)&&((beq (((f.drop (t.toNat*3)).take 3).length) 3)&&(beq 3 3))) (cond (ble (ad.length+3) 140737488355328) (Mj ((f.drop (t.toNat*3)).take 3) fun cu=>An N [.str cu,.str ([100,101,109,97,110,100]:Lu)] 2 false true (ad++([98,117,115]:Lu)) ae fun cv=>By 1 (((f.drop (t.toNat*3)).take 3).drop 1) fun cw cx=>Ag N cw cx false a cv ae fun cy bc=>An N [.str ([115,104,101,100]:Lu)] 1 false true cy bc fun cz=>Bf .i64 (((f.drop (t.toNat*3)).take 3).drop 2) fun da=>Ag N [.int .i64 da] 1 false true cz bc fun bd db=>cond (ble (bd.length+1) 140737488355328) (k0 aq (wrap .i64 (t+1)) (bd++([10]:Lu)) db) none) none) none) none) none) (By 12 (b.drop 3) fun j r=>q1 j r (r:Int) 0 ad ae))
def Dh(r0:Lu->Bool->O R)(f:LA)(l:Nat)(a:Bool)(b:LA):Nat->Int->Int->Lu->Bool->O R
|0=>fun _ _ _ _=>none
|n+1=>Ks N r0 f l a b (Dh r0 f l a b n) (fun j r=>F1 N r0 j r a b N)
def Px(r0:Lu->Bool->O R)(q0:LA->Nat->Int->Int->Lu->Bool->O R)(b:LA)(a:Bool)(x:Lu)(y:Bool):O R:=(cond (ble (x.length+4) 140737488355328) (Bf .i64 b fun dc=>Ag N [.int .i64 dc] 1 false true (x++([99,97,115,101]:Lu)) y fun dd be=>An N [.str ([114,101,115,101,114,118,101]:Lu)] 1 false true dd be fun de=>By 1 (b.drop 1) fun df dg=>Ag N df dg false a de be fun bf dh=>cond (ble (bf.length+1) 140737488355328) (By 3 (b.drop 2) fun f l=>q0 f l (l:Int) 0 (bf++([10]:Lu)) dh) none) none)
def Im:=(Ae fun N b a x y r0=>Px (R:=R) N r0 (fun f l=>Dh N r0 f l a b N) b a x y).1
def Z6(b a x y r0):(@Im R N b a x y r0)=(Px N r0 (fun f l=>Dh N r0 f l a b N) b a x y):=by rw[Im,(Ae _).2]
def B_:Hints:={H:=hK 6 (hS (hK 1 (hS (hP [0,3,43,44,45] hL) hL)) (hS (hK 1 (hS (hP [0,3,82,83,84] hL) hL)) (hS (hK 1 (hS (hP [0,3,94,95,96] hL) hL)) (hS (hK 1 (hS (hP [0,3,106,107,108] hL) hL)) (hS (hK 1 (hS (hP [0,3,173,174,175] hL) hL)) (hK 1 (hS (hP [0,3,225,226,227] hL) hL)))))))}
def GC:AT:=[Kk N,Pu N,dM N,dN N,GA N,UT N]
def F2(F:KF R):=P9 Tryz.f51 B_ (GC N) [100000] N F
def ZK(g:LA)(m:Nat)(a:Bool)(b:LA)(K:St->O R):=fun af u ag ah=>K ⟨[(0,.optr 100000 0),(3,op 0),(225,.imm g m 4 false a),(226,iv af),(227,iv u)],[(100000,bN 0 [.str ag,.bool ah]),(300000,bP a 0 b)]⟩
def ZL(d:LA)(o:Nat)(a:Bool)(b:LA)(K:St->O R):=fun ai s z aa=>K ⟨[(0,.optr 100000 0),(3,op 0),(173,.imm d o 5 false a),(174,iv ai),(175,iv s)],[(100000,bN 0 [.str z,.bool aa]),(300000,bP a 0 b)]⟩
def ZM(c:LA)(p:Nat)(a:Bool)(b:LA)(K:St->O R):=fun aj h ab ac=>K ⟨[(0,.optr 100000 0),(3,op 0),(106,.imm c p 9 false a),(107,iv aj),(108,iv h)],[(100000,bN 0 [.str ab,.bool ac]),(300000,bP a 0 b)]⟩
def ZN(i:LA)(q:Nat)(a:Bool)(b:LA)(K:St->O R):=fun ak v al am=>K ⟨[(0,.optr 100000 0),(3,op 0),(94,.imm i q 22 false a),(95,iv ak),(96,iv v)],[(100000,bN 0 [.str al,.bool am]),(300000,bP a 0 b)]⟩
def ZO(j:LA)(r:Nat)(a:Bool)(b:LA)(K:St->O R):=fun an w ao ap=>K ⟨[(0,.optr 100000 0),(3,op 0),(82,.imm j r 12 false a),(83,iv an),(84,iv w)],[(100000,bN 0 [.str ao,.bool ap]),(300000,bP a 0 b)]⟩
def ZP(f:LA)(l:Nat)(a:Bool)(b:LA)(K:St->O R):=fun aq t ad ae=>K ⟨[(0,.optr 100000 0),(3,op 0),(43,.imm f l 3 false a),(44,iv aq),(45,iv t)],[(100000,bN 0 [.str ad,.bool ae]),(300000,bP a 0 b)]⟩
def PG(F:KF R)(g m a b):∀ n,ZK g m a b (Ao (F2 N F (pz 89478484) []) n)=(Fz N (Qe F) g m a b n):=Gv fun n e=>(Dc (Kn N (Qe F) g m a b) e:_)
def PH(F:KF R)(d o a b):∀ n,ZL d o a b (Ao (F2 N F (pz 89478468) []) n)=(Ec N (Qe F) d o a b n):=Gv fun n e=>(HG (Ko N (Qe F) d o a b) e (YS fun g m=>(lW ..).trans (PG ..)):_)
def PI(F:KF R)(c p a b):∀ n,ZM c p a b (Ao (F2 N F (pz 22369604) []) n)=(Ed N (Qe F) c p a b n):=Gv fun n e=>(HG (Kp N (Qe F) c p a b) e (YS fun d o=>(lW ..).trans (PH ..)):_)
def PJ(F:KF R)(i q a b):∀ n,ZN i q a b (Ao (F2 N F (pz 5592388) []) n)=(F0 N (Qe F) i q a b n):=Gv fun n e=>(HG (Kq N (Qe F) i q a b) e (YS fun c p=>(lW ..).trans (PI ..)):_)
def PK(F:KF R)(j r a b):∀ n,ZO j r a b (Ao (F2 N F (pz 1398084) []) n)=(F1 N (Qe F) j r a b n):=Gv fun n e=>(HG (Kr N (Qe F) j r a b) e (YS fun i q=>(lW ..).trans (PJ ..)):_)
def PL(F:KF R)(f l a b):∀ n,ZP f l a b (Ao (F2 N F (pz 349508) []) n)=(Dh N (Qe F) f l a b n):=Gv fun n e=>(HG (Ks N (Qe F) f l a b) e (YS fun j r=>(lW ..).trans (PK ..)):_)
def dO:=C8 N 51 (GC N) B_ (fun
|[.optr 100000 0,.pagg b a],[(100000,⟨false,false,false,false,0,[.str x,.bool y],false,none⟩)]=>some fun _ k=>Im N b a x y (Qe k)
| _,_=>none) fun _ _=>by split;intro R F;exact(Dc (Px N (Qe F) · _ _ _ _) (YS fun f l=>(lW ..).trans (PL ..)):_).trans (Z6 ..).symm;trivial
def Vy(k2:Bool->Int->O R)(r0:Lu->Int->O R)(c:Nat)(b:Bool)(a f:LA)(k3:Bool->Int->Int->O R)(p:Bool)(l h:Int):O R:=(cond (decide (h<(c:Int))) (cond (Ai h c) (Mj (f.drop (0+(h.toNat*1))) fun s=>LH N s fun t=>cond (!t) (r0 ([]:Lu) 9) (cond (p==false) (cond ((decide ((0:Int)<=(0:Int)))&&((decide (0<=h))&&((decide (h<=(c:Int)))&&(decide ((c:Int)<=(c:Int)))))) (cond (Ai h c) (Mj (f.drop (0+(h.toNat*1))) fun u=>fl N (f.take (h.toNat*1)) h.toNat false true u fun v=>k3 (cond false true (decide (v>=0))) l (wrap .i64 (h+1))) none) none) (k3 true l (wrap .i64 (h+1))))) none) (k2 p (wrap .i64 (l+1))))
def Lo(k2:Bool->Int->O R)(r0:Lu->Int->O R)(c:Nat)(b:Bool)(a f:LA):Nat->Bool->Int->Int->O R
|0=>fun _ _ _=>none
|n+1=>Vy N k2 r0 c b a f (Lo k2 r0 c b a f n)
def Vz(r0:Lu->Int->O R)(d:LA)(g:Nat)(b:Bool)(a:LA)(k4:Int->Int->O R)(m i:Int):O R:=(cond (decide (i<m)) (cond (Ai i g) (cond (ble 4 ((d.drop (i.toNat*4)).length)) (cond ((beq 0 0)&&((beq (((d.drop (i.toNat*4)).take 4).length) 4)&&(beq 4 4))) (HF (((d.drop (i.toNat*4)).take 4).drop 2) fun w=>cond ((!w)==true) (By 3 (((d.drop (i.toNat*4)).take 4).drop 3) fun af x=>cond (cond true (decide ((x:Int)>0)) false) (r0 ([]:Lu) 16) (k4 m (wrap .i64 (i+1)))) (k4 m (wrap .i64 (i+1)))) none) none) none) (cond (ble 8 a.length) (Im N (a.take 8) b ([]:Lu) false fun r y=>cond y (r0 ([]:Lu) 3) (cond (decide (((r.length:Nat):Int)>1048576)) (r0 ([]:Lu) 8) (r0 r 0))) none))
def Lp(r0:Lu->Int->O R)(d:LA)(g:Nat)(b:Bool)(a:LA):Nat->Int->Int->O R
|0=>fun _ _=>none
|n+1=>Vz N r0 d g b a (Lp r0 d g b a n)
def V0(r0:Lu->Int->O R)(b:Bool)(a:LA)(k2:Bool->Int->O R)(q3:Nat->LA->Bool->Int->Int->O R)(q4:LA->Nat->Int->Int->O R)(q:Bool)(o:Int):O R:=(cond (decide (o<=6)) (cond (ble 8 a.length) (Gf N (a.take 8) b o fun c f=>q3 c f q o 0) none) (cond q (r0 ([]:Lu) 10) (cond (ble 8 a.length) (DS N (a.take 8) b fun z=>cond (!z) (r0 ([]:Lu) 12) (By 4 (a.drop 7) fun d g=>q4 d g (g:Int) 0)) none)))
def Lq(r0:Lu->Int->O R)(b:Bool)(a:LA):Nat->Bool->Int->O R
|0=>fun _ _=>none
|n+1=>V0 N r0 b a (Lq r0 b a n) (fun c f=>Lo N (Lq r0 b a n) r0 c b a f N) (fun d g=>Lp N r0 d g b a N)
def GD(r0:Lu->Int->O R)(b:Bool)(a:LA)(q2:Bool->Int->O R):O R:=(cond (ble 8 a.length) (FS N (a.take 8) b fun aa=>cond (!aa) (r0 ([]:Lu) 4) (q2 false 1)) none)
def Zb(r0:Lu->Int->O R)(b:Bool)(a:LA):O R:=GD N r0 b a (Lq N r0 b a N)
def V1(r0:Lu->Int->O R)(b:Bool)(a:LA)(k0:Int->O R)(q1:O R)(j:Int):O R:=(cond (decide (j<=6)) (cond (ble 8 a.length) (Gf N (a.take 8) b j fun ab ag=>Qh N j fun ac=>cond (decide ((ab:Int)>ac)) (r0 ([]:Lu) 8) (k0 (wrap .i64 (j+1)))) none) (Bf .i64 a fun ad=>cond ((decide (ad<1))==false) (Bf .i64 a fun ae=>cond (cond false true (decide (ae>24))) (r0 ([]:Lu) 3) q1) (r0 ([]:Lu) 3)))
def Lr(r0:Lu->Int->O R)(b:Bool)(a:LA):Nat->Int->O R
|0=>fun _=>none
|n+1=>V1 N r0 b a (Lr r0 b a n) (Zb N r0 b a)
def IN(N:Nat)(r0:Lu->Int->O R)(q0:Int->O R)(a:LA)(b:Bool):O R:=(q0 1)
def GF:=(Ae fun N a b r0=>IN (R:=R) N r0 (Lr N r0 b a N) a b).1
def UU(a b r0):(@GF R N a b r0)=(IN N r0 (Lr N r0 b a N) a b):=by rw[GF,(Ae _).2]
def bC:Hints:={H:=hK 1 (hS (hK 1 (hS (hP [1,4] hL) hL)) (hJ [1] hL (hK 2 (hS (hK 1 (hS (hP [1,5,6] (hK 1 (hS (hS (hK 2 (hS (hP [1,5,6,7,8] hL) hL)) hL) hL))) hL)) (hK 2 (hS (hK 1 (hS (hP [1,70,71,72] hL) hL)) hL))))))}
def fu:AT:=[TT N,pN N,wl N,zQ N,pV N,Acr N,dO N]
def Tb(F:KF R):=P9 Tryz.f18 bC (fu N) [] N F
def sj(c:Nat)(b:Bool)(a f:LA)(K:St->O R):=fun p l h=>K ⟨[(1,op 0),(5,.bool p),(6,iv l),(7,A08 1 c),(8,iv h)],hq [bP b 0 a,bQ 1 f]⟩
def sk(d:LA)(g:Nat)(b:Bool)(a:LA)(K:St->O R):=fun m i=>K ⟨[(1,op 0),(70,.imm d g 4 false b),(71,iv m),(72,iv i)],hq [bP b 0 a]⟩
def KD(b:Bool)(a:LA)(K:St->O R):=fun q o=>K ⟨[(1,op 0),(5,.bool q),(6,iv o)],hq [bP b 0 a]⟩
def sr(b:Bool)(a:LA)(K:St->O R):=K ⟨[(1,op 0)],hq [bP b 0 a]⟩
def su(b:Bool)(a:LA)(K:St->O R):=fun j=>K ⟨[(1,op 0),(4,iv j)],hq [bP b 0 a]⟩
def jZ Q2 (F:KF R) (c b a f):∀ n,sj c b a f (Ao (Tb N F (pz 1431372820) [Q2]) n)=(Lo N (KD b a Q2) (Q_ F) c b a f n):=Gv fun n e=>(Dc (Vy N (KD b a Q2) (Q_ F) c b a f) e:_)
def j0(F:KF R)(d g b a):∀ n,sk d g b a (Ao (Tb N F (pz 5592388) []) n)=(Lp N (Q_ F) d g b a n):=Gv fun n e=>(Dc (Vz N (Q_ F) d g b a) e:_)
def j1(F:KF R)(b a):∀ n,KD b a (Ao (Tb N F (pz 87364) []) n)=(Lq N (Q_ F) b a n):=Gv fun n e=>(Aq5 (V0 N (Q_ F) b a) e (YS fun c f=>(lW ..).trans ((jZ ..).trans (xh (Lo _ · _ _ _ _ _ _) e))) (YS fun d g=>(lW ..).trans (j0 ..)):_)
def j2(F:KF R)(b a):sr b a (Cm (Tb N F (pz 85) []))=(Zb N (Q_ F) b a):=(Dc (GD N (Q_ F) b a) ((lW ..).trans (j1 ..)):_)
def j3(F:KF R)(b a):∀ n,su b a (Ao (Tb N F (pz 324) []) n)=(Lr N (Q_ F) b a n):=Gv fun n e=>(HG (V1 N (Q_ F) b a) e ((jW ..).trans (j2 ..)):_)
def wy:=C8 N 18 (fu N) bC (fun
|[.pagg a b],[]=>some fun _ k=>GF N a b (Q_ k)
| _,_=>none) fun _ _=>by split;intro R F;exact(Dc (IN N (Q_ F) · _ _) ((lW ..).trans (j3 ..)):_).trans (UU ..).symm;trivial
def UV(a:LA)(b:Nat)(d c:Bool)(r0:Lu->O R):O R:=(XX N a b false c fun e=>GF N e false fun f g=>r0 f)
def PM:=(Ae (@UV R)).1
def UW:@PM R=@UV R:=(Ae _).2
def wz:=C8 N 8 [Agx N,wy N] Cs (fun
|[.imm a b 1 d c],[]=>some fun _ k=>PM N a b d c (ep k)
| _,_=>none) fun _ _=>by split;intro R F;dsimp only;rw[UW];kernel_rfl;trivial
def Ub(a:Lu)(b:Int)(r0:Int->O R):O R:=(Gm N a b fun c=>r0 c)
def V2:=(Ae (@Ub R)).1
def Wu:@V2 R=@Ub R:=(Ae _).2
def ZQ:=C8 N 53 [Vp N] Cs (fun
|[.str a,.int .u8 b],[]=>some fun _ k=>V2 N a b (Jq k)
| _,_=>none) fun _ _=>by split;intro R F;dsimp only;rw[Wu];kernel_rfl;trivial
def KE(N:Nat)(a:Int)(r0:Bool->O R):O R:=(cond ((a==32)==false) (cond ((cond false true (a==9))==false) (r0 (cond false true (a==13))) (r0 true)) (r0 true))
def DE:=(Ae (@KE R)).1
def MF:@DE R=@KE R:=(Ae _).2
def qS:=C8 N 55 [] Cs (fun
|[.int .i32 a],[]=>some fun _ k=>DE N a (C5 k)
| _,_=>none) fun _ _=>by split;intro R F;dsimp only;rw[MF];kernel_rfl;trivial
def H7(N:Nat)(r0:Nat->LA->O R)(a:Lu)(b:Nat)(c:LA)(k2:Int->Int->LA->O R)(l g:Int)(j:LA):O R:=(cond (decide (g<l)) (cond (Ai g b) (cond (ble 2 ((c.drop (0+(g.toNat*2))).length)) (cond ((beq (((c.drop (0+(g.toNat*2))).take 2).length) 2)&&((ble 2 2)&&(!false))) (Bf .i64 (setCells [A09,A09] 0 ((c.drop (0+(g.toNat*2))).take 2)) fun m=>Bf .i64 ((setCells [A09,A09] 0 ((c.drop (0+(g.toNat*2))).take 2)).drop 1) fun o=>cond ((decide (0<=m))&&((decide (m<=o))&&((decide (o<=((a.length:Nat):Int)))&&(decide (((a.length:Nat):Int)<=((a.length:Nat):Int)))))) (cond (Ai g b) (cond ((beq 1 1)&&((ble ((0+(g.toNat*1))+1) j.length)&&(!false))) (k2 l (wrap .i64 (g+1)) (j.set (0+(g.toNat*1)) (.str (take (o.toNat - m.toNat) (drop m.toNat a))))) none) none) none) none) none) none) (r0 b j))
def Ek(r0:Nat->LA->O R)(a:Lu)(b:Nat)(c:LA):Nat->Int->Int->LA->O R
|0=>fun _ _ _=>none
|n+1=>H7 N r0 a b c (Ek r0 a b c n)
def N3(N:Nat)(r0:Nat->LA->O R)(a:Lu)(q2:Nat->LA->Int->Int->LA->O R)(b:Nat)(c:LA):O R:=(cond ((decide (0<=(b:Int)))&&((decide ((b:Int)<=(b:Int)))&&((decide ((b:Int)<=140737488355328))&&(decide (((b:Int)*((16:Nat):Int))<=140737488355328))))) (q2 b c (b:Int) 0 (replicate b (.str ([]:Lu)))) none)
def Jk(r0:Nat->LA->O R)(a:Lu)(b:Nat)(c:LA):O R:=N3 N r0 a (fun b c=>Ek N r0 a b c N) b c
def H8(r0:Nat->LA->O R)(a:Lu)(k0:Nat->Int->LA->Int->O R)(q1:Nat->LA->O R)(d:Nat)(h:Int)(i:LA)(f:Int):O R:=(cond (decide (f<((a.length:Nat):Int))) (DE N (((AU a f).1:Nat):Int) fun p=>cond p (cond (decide (h>=0)) (cond ((ble (d+1) 140737488355328)&&(ble ((d+1)*16) 140737488355328)) (k0 (d+1) (v_ .i64 (-1) h) ((i.take (d*2))++[.int .i64 h,.int .i64 f]) (f+(((AU a f).2:Nat):Int))) none) (k0 d h i (f+(((AU a f).2:Nat):Int)))) (cond (decide (h<0)) (k0 d f i (f+(((AU a f).2:Nat):Int))) (k0 d h i (f+(((AU a f).2:Nat):Int))))) (cond (decide (h>=0)) (cond ((ble (d+1) 140737488355328)&&(ble ((d+1)*16) 140737488355328)) (q1 (d+1) ((i.take (d*2))++[.int .i64 h,.int .i64 ((a.length:Nat):Int)])) none) (q1 d i)))
def Dk(r0:Nat->LA->O R)(a:Lu):Nat->Nat->Int->LA->Int->O R
|0=>fun _ _ _ _=>none
|n+1=>H8 N r0 a (Dk r0 a n) (Jk N r0 a)
def Md(N:Nat)(r0:Nat->LA->O R)(q0:Nat->Int->LA->Int->O R)(a:Lu):O R:=(q0 0 (-1) [] 0)
def Gn:=(Ae fun N a r0=>Md (R:=R) N r0 (Dk N r0 a N) a).1
def V3(a r0):(@Gn R N a r0)=(Md N r0 (Dk N r0 a N) a):=by rw[Gn,(Ae _).2]
def Wv:Hints:={H:=hK 3 (hS (hK 1 (hS (hP [0,1,5,6,14] hL) hL)) (hJ [0,5] hL (hK 1 (hS (hK 1 (hS (hP [0,9,47,48,49] hL) hL)) hL)))),nils:=[(4,1)],modes:=[(2,1)]}
def Z7:AT:=[qS N]
def Pc(F:KF R):=P9 Tryz.f54 Wv (Z7 N) [] N F
def SH(a:Lu)(b:Nat)(c:LA)(K:St->O R):=fun l g j=>K ⟨[(0,.str a),(9,A08 0 b),(47,A08 1 b),(48,iv l),(49,iv g)],hq [bQ 1 j,bQ 2 c]⟩
def SI(a:Lu)(K:St->O R):=fun b c=>K ⟨[(0,.str a),(5,A08 0 b)],hq [bQ 2 c]⟩
def SK(a:Lu)(K:St->O R):=fun d h i f=>K ⟨[(0,.str a),(1,.fn 55 []),(5,A08 0 d),(6,iv h),(14,.omap 300001)],hq [bQ 2 i,⟨false,false,true,false,1,[.str a,iv f],true,none⟩]⟩
def KG(F:KF R)(a b c):∀ n,SH a b c (Ao (Pc N F (pz 349508) []) n)=(Ek N (Fm F) a b c n):=Gv fun n e=>(Dc (H7 N (Fm F) a b c) e:_)
def KH(F:KF R)a:SI a (Cm (Pc N F (pz 1365) []))=(Jk N (Fm F) a):=(Dc (N3 N (Fm F) a) (YS fun b c=>(lW ..).trans (KG ..)):_)
def KI(F:KF R)a:∀ n,SK a (Ao (Pc N F (pz 5444) []) n)=(Dk N (Fm F) a n):=Gv fun n e=>(HG (H8 N (Fm F) a) e ((jW ..).trans (KH ..)):_)
def UX:=C8 N 54 (Z7 N) Wv (fun
|[.str a,.fn 55 []],[]=>some fun _ k=>Gn N a (Fm k)
| _,_=>none) fun _ _=>by split;intro R F;exact(Dc (Md N (Fm F) · _) ((lW ..).trans (KI ..)):_).trans (V3 ..).symm;trivial
def j4(a:Lu)(r0:Nat->LA->O R):O R:=(V2 N a 35 fun b=>cond (decide (b>=0)) (cond ((decide ((0:Int)<=(0:Int)))&&((decide (0<=b))&&((decide (b<=((a.length:Nat):Int)))&&(decide (((a.length:Nat):Int)<=((a.length:Nat):Int)))))) (Gn N (take b.toNat a) fun c d=>r0 c d) none) (Gn N a fun e f=>r0 e f))
def fv:=(Ae (@j4 R)).1
def fx:@fv R=@j4 R:=(Ae _).2
def Acs:=C8 N 22 [ZQ N,UX N] Aen (fun
|[.str a],[]=>some fun _ k=>fv N a (Fm k)
| _,_=>none) fun _ _=>by split;intro R F;dsimp only;rw[fx];kernel_rfl;trivial
def UY(N:Nat)(s:RB)(r0:Bool->O R):O R:=(r0 (s.er==0))
def Ih:=(Ae (@UY R)).1
def IP:@Ih R=@UY R:=(Ae _).2
def RR:=C8 N 25 [] Cs (NO fun
|[.optr 100000 0],s=>some fun _ k=>Ih N s (Ajd s k)
| _,_=>none) (RZ fun _ s=>by split;intro R F;dsimp only;rw[IP];kernel_rfl;trivial)
def Qy(s:RB)(r0:Bool->O R):O R:=(Ih N s fun a=>cond (a==true) (r0 (cond true (decide (s.nx<(s.nw:Int))) false)) (r0 false))
def Eo:=(Ae (@Qy R)).1
def Py:@Eo R=@Qy R:=(Ae _).2
def Oq:=C8 N 23 [RR N] Cs (NO fun
|[.optr 100000 0],s=>some fun _ k=>Eo N s (Ajd s k)
| _,_=>none) (RZ fun _ s=>by split;intro R F;dsimp only;rw[Py];kernel_rfl;trivial)
def V4(N:Nat)(a:Int)(s:RB)(r0:Int->O R):O R:=(cond (s.er==0) (r0 a) (r0 s.er))
def Ak:=(Ae (@V4 R)).1
def V5:@Ak R=@V4 R:=(Ae _).2
def Bo:=C8 N 57 [] Cs (NO fun
|[.optr 100000 0,.int .i64 a],s=>some fun _ k=>Ak N a s (An8 s k)
| _,_=>none) (RZ fun _ s=>by split;intro R F;dsimp only;rw[V5];kernel_rfl;trivial)
def Qz(s:RB)(r0:Lu->Bool->Int->Int->O R):O R:=(Eo N s fun a=>cond (!a) (Ak N 2 s fun b=>r0 ([]:Lu) false s.nx b) (cond (Ai (wrap .i64 ((wrap .i64 (s.nx+1)) - 1)) s.nw) (Mj (s.cw.drop (0+(((wrap .i64 ((wrap .i64 (s.nx+1)) - 1)).toNat)*1))) fun c=>r0 c true (wrap .i64 (s.nx+1)) s.er) none))
def Bq:=(Ae (@Qz R)).1
def Pz:@Bq R=@Qz R:=(Ae _).2
def j5(s:RB)(F:KF R):Lu->Bool->Int->Int->O R:=fun d e f g=>F (.tup [.str d,.bool e]) [(100000,bN 0 [.own 100001 0 s.nw,iv f,iv g,iv s.th,.own 100002 0 s.nR,.own 100003 0 s.nB,.own 100004 0 s.nL,.own 100005 0 s.nU,.own 100006 0 s.nS,.own 100007 0 s.nT,.own 100008 0 s.nO,.bool s.bg,.own 100009 0 s.zA,.own 100010 0 s.zB,.own 100011 0 s.zC,.own 100012 0 s.zD,.own 100013 0 s.zE,.own 100014 0 s.zF,.own 100015 0 s.zG]),(100001,bQ 1 s.cw),(100002,bQ 1 s.cR),(100003,bQ 3 s.cB),(100004,bQ 12 s.cL),(100005,bQ 22 s.cU),(100006,bQ 9 s.cS),(100007,bQ 5 s.cT),(100008,bQ 4 s.cO),(100009,bQ 1 s.yA),(100010,bQ 1 s.yB),(100011,bQ 1 s.yC),(100012,bQ 1 s.yD),(100013,bQ 1 s.yE),(100014,bQ 1 s.yF),(100015,bQ 1 s.yG)]
def Bz:=C8 N 56 [Oq N,Bo N] Cs (NO fun
|[.optr 100000 0],s=>some fun _ k=>Bq N s (j5 s k)
| _,_=>none) (RZ fun _ s=>by split;intro R F;dsimp only;rw[Pz];kernel_rfl;trivial)
def Dt(N:Nat)(a b:Lu)(r0:Bool->O R):O R:=(cond ((decide (((a.length:Nat):Int)>=((b.length:Nat):Int)))==true) (cond ((decide ((0:Int)<=(0:Int)))&&((decide (0<=((b.length:Nat):Int)))&&((decide (((b.length:Nat):Int)<=((a.length:Nat):Int)))&&(decide (((a.length:Nat):Int)<=((a.length:Nat):Int)))))) (r0 (cond true ((take b.length a)==b) false)) none) (r0 false))
def Gp:=(Ae (@Dt R)).1
def Ew:@Gp R=@Dt R:=(Ae _).2
def V6:=C8 N 219 [] Cs (fun
|[.str a,.str b],[]=>some fun _ k=>Gp N a b (C5 k)
| _,_=>none) fun _ _=>by split;intro R F;dsimp only;rw[Ew];kernel_rfl;trivial
def M4(N:Nat)(r0:Int->O R)(b:LA)(a:Nat)(c d:Bool)(k0:Int->Int->Int->O R)(g h f:Int):O R:=(cond (decide (f<h)) (cond (Ai f a) (Bf .u32 (b.drop (f.toNat*1)) fun i=>cond (decide ((wrap .i64 (32*f))<0)) none (k0 (kj .u64 g (wrap .u64 ((wrap .u64 i)*2 ^ (min ((wrap .i64 (32*f)).toNat) 64)))) h (wrap .i64 (f+1)))) none) (r0 g))
def Ls(r0:Int->O R)(b:LA)(a:Nat)(c d:Bool):Nat->Int->Int->Int->O R
|0=>fun _ _ _=>none
|n+1=>M4 N r0 b a c d (Ls r0 b a c d n)
def fy(N:Nat)(r0:Int->O R)(q0:Int->Int->Int->O R)(b:LA)(a:Nat)(c d:Bool):O R:=(q0 0 (a:Int) 0)
def gA:=(Ae fun N b a c d r0=>fy (R:=R) N r0 (Ls N r0 b a c d N) b a c d).1
def lP(b a c d r0):(@gA R N b a c d r0)=(fy N r0 (Ls N r0 b a c d N) b a c d):=by rw[gA,(Ae _).2]
def qT:Hints:={H:=hK 2 (hS (hK 1 (hS (hP [3,6,7,8] hL) hL)) hL)}
def Acu(F:KF R):=P9 Tryz.f225 qT [] [] N F
def PN(F:KF R):Int->O R:=fun j=>F (.int .u64 j) []
def Acv(b:LA)(a:Nat)(c d:Bool)(K:St->O R):=fun g h f=>K ⟨[(3,.int .u64 g),(6,.imm b a 1 c d),(7,iv h),(8,iv f)],[]⟩
def sv(F:KF R)(b a c d):∀ n,Acv b a c d (Ao (Acu N F (pz 1348) []) n)=(Ls N (PN F) b a c d n):=Gv fun n e=>(Dc (M4 N (PN F) b a c d) e:_)
def Agy:=C8 N 225 [] qT (fun
|[.imm b a 1 c d],[]=>some fun _ k=>gA N b a c d (PN k)
| _,_=>none) fun _ _=>by split;intro R F;exact(Dc (fy N (PN F) · _ _ _ _) ((lW ..).trans (sv ..)):_).trans (lP ..).symm;trivial
def dP(b:LA)(c:Nat)(d a:Bool)(r0:Int->Bool->O R):O R:=(Gj N b c d a fun f e=>cond (decide ((e:Int)>2)) (r0 0 false) (gA N f e false a fun g=>r0 g true))
def MG:=(Ae (@dP R)).1
def bD:@MG R=@dP R:=(Ae _).2
def zR:=C8 N 205 [Zv N,Agy N] Cs (fun
|[.imm b c 1 d a],[]=>some fun _ k=>MG N b c d a (yd k)
| _,_=>none) fun _ _=>by split;intro R F;dsimp only;rw[bD];kernel_rfl;trivial
def Z8(N:Nat)(r0:Int->Int->Bool->O R)(b a:Int)(d:Bool)(c:LA)(e:Bool):O R:=(cond e (r0 0 0 false) (cond (a==0) (r0 0 1 true) (HF c fun f=>cond f (r0 (wrap .i64 ((0:Int) - (wrap .i64 b))) (wrap .i64 a) true) (r0 (wrap .i64 b) (wrap .i64 a) true))))
def XZ(r0:Int->Int->Bool->O R)(q0:Int->Int->Bool->O R)(c:LA)(d:Bool):O R:=(By 1 (c.drop 1) fun g h=>MG N g h false d fun b i=>By 1 (c.drop 2) fun j l=>MG N j l false d fun a m=>cond ((!i)==false) (cond ((cond false true (!m))==false) (cond ((cond false true (decide (b>=2147483648)))==false) (q0 b a (cond false true (decide (a>=2147483648)))) (q0 b a true)) (q0 b a true)) (q0 b a true))
def GG:=(Ae fun N c d r0=>XZ (R:=R) N r0 (fun b a=>Z8 N r0 b a d c) c d).1
def gC(c d r0):(@GG R N c d r0)=(XZ N r0 (fun b a=>Z8 N r0 b a d c) c d):=by rw[GG,(Ae _).2]
def lR:Hints:={H:=hK 3 (hS (hS (hJ [1,5,6,21] hL hL) hL) hL)}
def qU:AT:=[zR N]
def zS(F:KF R):=P9 Tryz.f172 lR (qU N) [] N F
def UZ(F:KF R):Int->Int->Bool->O R:=fun n o p=>F (.tup [iv n,iv o,.bool p]) []
def zT(b a:Int)(d:Bool)(c:LA)(K:St->O R):=fun e=>K ⟨[(1,op 0),(5,.int .u64 b),(6,.int .u64 a),(21,.bool e)],hq [bP d 0 c]⟩
def qV(F:KF R)(b a d c):zT b a d c (Cm (zS N F (pz 5441) []))=(Z8 N (UZ F) b a d c):=by kernel_rfl
def qW:=C8 N 172 (qU N) lR (fun
|[.pagg c d],[]=>some fun _ k=>GG N c d (UZ k)
| _,_=>none) fun _ _=>by split;intro R F;exact(Dc (XZ N (UZ F) · _ _) (YS fun b a=>(jW ..).trans (qV ..)):_).trans (gC ..).symm;trivial
def Xr(N:Nat)(a:Int)(r0:Bool->O R):O R:=(r0 (a != a))
def Tr:=(Ae (@Xr R)).1
def B':@Tr R=@Xr R:=(Ae _).2
def gE:=C8 N 206 [] Cs (fun
|[.int .i64 a],[]=>some fun _ k=>Tr N a (C5 k)
| _,_=>none) fun _ _=>by split;intro R F;dsimp only;rw[B'];kernel_rfl;trivial
def Uc(a b:Int)(r0:Int->O R):O R:=(Tr N a fun d=>Tr N b fun c=>cond d (cond c (r0 0) (r0 (-1))) (cond c (r0 1) (cond (decide (a<b)) (r0 (-1)) (cond (decide (a>b)) (r0 1) (r0 0)))))
def P0:=(Ae (@Uc R)).1
def Ww:@P0 R=@Uc R:=(Ae _).2
def ZR:=C8 N 173 [gE N] Cs (fun
|[.int .i64 a,.int .i64 b],[]=>some fun _ k=>P0 N a b (Jq k)
| _,_=>none) fun _ _=>by split;intro R F;dsimp only;rw[Ww];kernel_rfl;trivial
def KJ(N:Nat)(r0:Int->O R)(c:Bool)(a:LA)(d:Bool)(b:LA):O R:=(cond (ble 3 a.length) none none)
def IQ(r0:Int->O R)(q0:O R)(a:LA)(c:Bool)(b:LA)(d:Bool):O R:=(cond (ble 3 a.length) (fb N (a.take 3) c fun e=>cond (ble 3 b.length) (fb N (b.take 3) d fun f=>cond (e != f) (Tq N e f fun g=>r0 g) (cond (ble 3 a.length) (GG N (a.take 3) c fun h i j=>cond (ble 3 b.length) (GG N (b.take 3) d fun l m n=>cond (j==true) (cond (cond true n false) (P0 N (wrap .i64 (h*m)) (wrap .i64 (l*i)) fun o=>r0 o) q0) q0) none) none)) none) none)
def Xs:=(Ae fun N a c b d r0=>IQ (R:=R) N r0 (KJ N r0 c a d b) a c b d).1
def U_(a c b d r0):(@Xs R N a c b d r0)=(IQ N r0 (KJ N r0 c a d b) a c b d):=by rw[Xs,(Ae _).2]
def bE:Hints:={H:=hK 4 (hJ [2,3] hL hL)}
def gF:AT:=[Ago N,fc N,qW N,ZR N]
def sx(F:KF R):=P9 Tryz.f151 bE (gF N) [] N F
def sy(c:Bool)(a:LA)(d:Bool)(b:LA)(K:St->O R):=K ⟨[(2,op 0),(3,op 1)],hq [bP c 0 a,bP d 0 b]⟩
def j6(F:KF R)(c a d b):sy c a d b (Cm (sx N F (pz 1365) []))=(KJ N (Jq F) c a d b):=by kernel_rfl
def xA:=C8 N 151 (gF N) bE (fun
|[.pagg a c,.pagg b d],[]=>some fun _ k=>Xs N a c b d (Jq k)
| _,_=>none) fun _ _=>by split;intro R F;exact(Dc (IQ N (Jq F) · _ _ _ _) ((jW ..).trans (j6 ..)):_).trans (U_ ..).symm;trivial
def Ot(r0:LA->O R)(a b c:Int)(k1:Int->Int->O R)(d f:Int):O R:=(cond (f != 0) (cond (f==0) none (k1 f (Int.tmod d f))) (cond (d==0) none (Lj N (wrap .u64 (Int.tdiv c d)) fun g i=>cond (d==0) none (Lj N (wrap .u64 (Int.tdiv (wrap .u64 b) d)) fun h j=>r0 [.bool (decide (a<0)),.imm (i.take (g*1)) g 1 false false,.imm (j.take (h*1)) h 1 false false]))))
def Dz(r0:LA->O R)(a b c:Int):Nat->Int->Int->O R
|0=>fun _ _=>none
|n+1=>Ot N r0 a b c (Dz r0 a b c n)
def BD(N:Nat)(r0:LA->O R)(a b:Int)(q1:Int->Int->Int->O R)(c:Int):O R:=(q1 c (wrap .u64 b) c)
def V7(r0:LA->O R)(a b:Int)(c:Int):O R:=BD N r0 a b (fun c=>Dz N r0 a b c N) c
def DF(N:Nat)(r0:LA->O R)(q0:Int->O R)(a b:Int):O R:=(cond (decide (a<0)) (q0 (wrap .u64 ((0:Int) - (wrap .u64 a)))) (q0 (wrap .u64 a)))
def Uv:=(Ae fun N a b r0=>DF (R:=R) N r0 (V7 N r0 a b) a b).1
def RS(a b r0):(@Uv R N a b r0)=(DF N r0 (V7 N r0 a b) a b):=by rw[Uv,(Ae _).2]
def U':Hints:={H:=hK 2 (hJ [0,1,4,5] hL (hK 1 (hS (hS (hP [0,1,4,5,6,7] hL) hL) hL))),modes:=[(3,0)]}
def bF:AT:=[RM N]
def VA(F:KF R):=P9 Tryz.f176 U' (bF N) [] N F
def qX(a b c:Int)(K:St->O R):=fun d f=>K ⟨[(0,iv a),(1,iv b),(4,op 0),(5,.int .u64 c),(6,.int .u64 d),(7,.int .u64 f)],hq [bN 0 [.bool false,.nsl,.nsl]]⟩
def qY(a b:Int)(K:St->O R):=fun c=>K ⟨[(0,iv a),(1,iv b),(4,op 0),(5,.int .u64 c)],hq [bN 0 [.bool false,.nsl,.nsl]]⟩
def gG(F:KF R)(a b c):∀ n,qX a b c (Ao (VA N F (pz 5456) []) n)=(Dz N (Qd F) a b c n):=Gv fun n e=>(Dc (Ot N (Qd F) a b c) e:_)
def gH(F:KF R)(a b):qY a b (Cm (VA N F (pz 85) []))=(V7 N (Qd F) a b):=(Dc (BD N (Qd F) a b) (Ai7 fun c=>(lW ..).trans (gG ..)):_)
def tA:=C8 N 176 (bF N) U' (fun
|[.int .i64 a,.int .i64 b],[]=>some fun _ k=>Uv N a b (Qd k)
| _,_=>none) fun _ _=>by split;intro R F;exact(Dc (DF N (Qd F) · _ _) ((jW ..).trans (gH ..)):_).trans (RS ..).symm;trivial
def qZ(a:LA)(b:Bool)(r0:LA->O R):O R:=(cond (ble 3 a.length) (GG N (a.take 3) b fun d e f=>cond f (Uv N d e fun c=>cond ((beq 0 0)&&((beq c.length 3)&&(beq 3 3))) (cond (ble 3 c.length) (r0 (c.take 3)) none) none) (cond (ble 3 a.length) none none)) none)
def X_:=(Ae (@qZ R)).1
def lS:@X_ R=@qZ R:=(Ae _).2
def j7:=C8 N 153 [qW N,tA N] ya (fun
|[.pagg a b],[]=>some fun _ k=>X_ N a b (Qd k)
| _,_=>none) fun _ _=>by split;intro R F;dsimp only;rw[lS];kernel_rfl;trivial
def xB(c:LA)(d:Bool)(r0:LA->O R):O R:=(HF c fun g=>By 1 (c.drop 1) fun h i=>By 1 (c.drop 2) fun j l=>cond (beq c.length 3) (X_ N [.bool g,.imm h i 1 false d,.imm j l 1 false d] (d||(d||false)) fun a=>cond ((beq 0 0)&&((beq a.length 3)&&(beq 3 3))) (cond (ble 2 a.length) (jI N (a.take 2) false fun e b f=>cond ((beq 2 2)&&((ble 2 a.length)&&(!false))) (cond (ble 3 ((Ga a 0 [.bool e,.imm (f.take (b*1)) b 1 false false]).length)) (cond ((beq 0 0)&&((beq (((Ga a 0 [.bool e,.imm (f.take (b*1)) b 1 false false]).take 3).length) 3)&&(beq 3 3))) (cond (ble 3 (((Ga a 0 [.bool e,.imm (f.take (b*1)) b 1 false false]).take 3).length)) (r0 (((Ga a 0 [.bool e,.imm (f.take (b*1)) b 1 false false]).take 3).take 3)) none) none) none) none) none) none) none)
def xC:=(Ae (@xB R)).1
def q_:@xC R=@xB R:=(Ae _).2
def Aj1:=C8 N 152 [j7 N,yw N] { H:=hL,modes:=[(3,0)],cob:=[1] } (fun
|[.pagg c d],[]=>some fun _ k=>xC N c d (Qd k)
| _,_=>none) fun _ _=>by split;intro R F;dsimp only;rw[q_];kernel_rfl;trivial
def xD(b:LA)(d:Bool)(c:LA)(a:Bool)(r0:LA->Bool->O R):O R:=(HF b fun i=>By 1 (b.drop 1) fun j l=>cond (beq b.length 2) (HF c fun f=>By 1 (c.drop 1) fun g h=>cond (beq c.length 2) (XV N [.bool f,.imm g h 1 false a] (a||false) fun m=>cond (m==0) (r0 [.bool false,.nsl,.nsl] false) (X_ N [.bool (!(i==f)),.imm j l 1 false d,.imm g h 1 false a] (d||(a||false)) fun e=>cond ((beq 0 0)&&((beq e.length 3)&&(beq 3 3))) (cond (ble 3 e.length) (r0 (e.take 3) true) none) none)) none) none)
def xE:=(Ae (@xD R)).1
def qa:@xE R=@xD R:=(Ae _).2
def Agz(F:KF R):LA->Bool->O R:=fun n o=>F (.tup [.pagg n false,.bool o]) []
def Aj2:=C8 N 179 [uA N,j7 N] { H:=hL,modes:=[(3,0),(0,0)],cob:=[2,3] } (fun
|[.pagg b d,.pagg c a],[]=>some fun _ k=>xE N b d c a (Agz k)
| _,_=>none) fun _ _=>by split;intro R F;dsimp only;rw[qa];kernel_rfl;trivial
def Du(a b:Lu)(r0:Lu->Bool->O R):O R:=(Gp N a b fun c=>cond (!c) (r0 a false) (cond ((decide (0<=((b.length:Nat):Int)))&&((decide (((b.length:Nat):Int)<=((a.length:Nat):Int)))&&((decide (((a.length:Nat):Int)<=((a.length:Nat):Int)))&&(decide (((a.length:Nat):Int)<=((a.length:Nat):Int)))))) (r0 (take (a.length - b.length) (drop b.length a)) true) none))
def Gq:=(Ae (@Du R)).1
def Ex:@Gq R=@Du R:=(Ae _).2
def V8:=C8 N 194 [V6 N] Cs (fun
|[.str a,.str b],[]=>some fun _ k=>Gq N a b (An9 k)
| _,_=>none) fun _ _=>by split;intro R F;dsimp only;rw[Ex];kernel_rfl;trivial
def N4(a b:Lu)(r0:Lu->Bool->O R):O R:=(Gq N a b fun c d=>r0 c d)
def Fv:=(Ae (@N4 R)).1
def Pd:@Fv R=@N4 R:=(Ae _).2
def Sj:=C8 N 162 [V8 N] Cs (fun
|[.str a,.str b],[]=>some fun _ k=>Fv N a b (An9 k)
| _,_=>none) fun _ _=>by split;intro R F;dsimp only;rw[Pd];kernel_rfl;trivial
def Ts(N:Nat)(r0:Bool->O R)(a:Lu)(k0:Int->O R)(b:Int):O R:=(cond (decide (b<((a.length:Nat):Int))) (cond ((decide ((((AU a b).1:Nat):Int)<48))==false) (cond (cond false true (decide ((((AU a b).1:Nat):Int)>57))) (r0 false) (k0 (b+(((AU a b).2:Nat):Int)))) (r0 false)) (r0 (!(a==([]:Lu)))))
def I7(r0:Bool->O R)(a:Lu):Nat->Int->O R
|0=>fun _=>none
|n+1=>Ts N r0 a (I7 r0 a n)
def DG(N:Nat)(r0:Bool->O R)(q0:Int->O R)(a:Lu):O R:=(q0 0)
def Uw:=(Ae fun N a r0=>DG (R:=R) N r0 (I7 N r0 a N) a).1
def RT(a r0):(@Uw R N a r0)=(DG N r0 (I7 N r0 a N) a):=by rw[Uw,(Ae _).2]
def VB:Hints:={H:=hK 1 (hS (hK 1 (hS (hP [0,6] hL) hL)) hL)}
def qb(F:KF R):=P9 Tryz.f195 VB [] [] N F
def qc(a:Lu)(K:St->O R):=fun b=>K ⟨[(0,.str a),(6,.omap 300000)],hq [⟨false,false,true,false,1,[.str a,iv b],true,none⟩]⟩
def gI(F:KF R)a:∀ n,qc a (Ao (qb N F (pz 324) []) n)=(I7 N (C5 F) a n):=Gv fun n e=>(Dc (Ts N (C5 F) a) e:_)
def bG:=C8 N 195 [] VB (fun
|[.str a],[]=>some fun _ k=>Uw N a (C5 k)
| _,_=>none) fun _ _=>by split;intro R F;exact(Dc (DG N (C5 F) · _) ((lW ..).trans (gI ..)):_).trans (RT ..).symm;trivial
def VC(a:Lu)(r0:Bool->O R):O R:=(Uw N a fun b=>cond (b==true) (cond ((a==([48]:Lu))==false) (cond (Ai 0 a.length) (r0 (cond true (cond false true (((UInt8.toNat (List.getD a 0 0):Nat):Int) != 48)) false)) none) (r0 true)) (r0 false))
def Xt:=(Ae (@VC R)).1
def VD:@Xt R=@VC R:=(Ae _).2
def gJ:=C8 N 163 [bG N] Cs (fun
|[.str a],[]=>some fun _ k=>Xt N a (C5 k)
| _,_=>none) fun _ _=>by split;intro R F;dsimp only;rw[VD];kernel_rfl;trivial
def PO(a:Lu)(r0:Bool->O R):O R:=(Fv N a ([45]:Lu) fun b c=>Xt N b fun d=>cond (d==true) (cond (c==true) (r0 (cond true (!(cond true (b==([48]:Lu)) false)) false)) (r0 true)) (r0 false))
def Ux:=(Ae (@PO R)).1
def RU:@Ux R=@PO R:=(Ae _).2
def bH:=C8 N 147 [Sj N,gJ N] Cs (fun
|[.str a],[]=>some fun _ k=>Ux N a (C5 k)
| _,_=>none) fun _ _=>by split;intro R F;dsimp only;rw[RU];kernel_rfl;trivial
def V9(N:Nat)(r0:Bool->O R)(a:Lu)(k0:Int->Int->O R)(c b:Int):O R:=(cond (decide (b<((a.length:Nat):Int))) (cond ((decide ((((AU a b).1:Nat):Int)>=48))==true) (cond (cond true (decide ((((AU a b).1:Nat):Int)<=57)) false) (k0 (wrap .i64 (c+1)) (b+(((AU a b).2:Nat):Int))) (k0 c (b+(((AU a b).2:Nat):Int)))) (k0 c (b+(((AU a b).2:Nat):Int)))) (r0 (decide (c>4096))))
def Lt(r0:Bool->O R)(a:Lu):Nat->Int->Int->O R
|0=>fun _ _=>none
|n+1=>V9 N r0 a (Lt r0 a n)
def IR(N:Nat)(r0:Bool->O R)(q0:Int->Int->O R)(a:Lu):O R:=(q0 0 0)
def Xu:=(Ae fun N a r0=>IR (R:=R) N r0 (Lt N r0 a N) a).1
def VE(a r0):(@Xu R N a r0)=(IR N r0 (Lt N r0 a N) a):=by rw[Xu,(Ae _).2]
def bI:Hints:={H:=hK 2 (hS (hK 1 (hS (hP [3,7] hL) hL)) hL)}
def tB(F:KF R):=P9 Tryz.f148 bI [] [] N F
def tC(a:Lu)(K:St->O R):=fun c b=>K ⟨[(3,iv c),(7,.omap 300000)],hq [⟨false,false,true,false,1,[.str a,iv b],true,none⟩]⟩
def j8(F:KF R)a:∀ n,tC a (Ao (tB N F (pz 1348) []) n)=(Lt N (C5 F) a n):=Gv fun n e=>(Dc (V9 N (C5 F) a) e:_)
def gK:=C8 N 148 [] bI (fun
|[.str a],[]=>some fun _ k=>Xu N a (C5 k)
| _,_=>none) fun _ _=>by split;intro R F;exact(Dc (IR N (C5 F) · _) ((lW ..).trans (j8 ..)):_).trans (VE ..).symm;trivial
def R3(r0:Bool->Nat->LA->O R)(k0:Int->Bool->LA->Bool->Nat->LA->O R)(c:Int)(b:Bool)(a:LA)(i:Bool)(h:Nat)(j:LA):O R:=(cond (decide (c>0)) (cond ((Int.tmod c 2)==1) (cond (ble 2 a.length) (UH N [.bool i,.imm (j.take (h*1)) h 1 false true] true (a.take 2) b fun l m o=>cond (decide (c>1)) (cond (ble 2 a.length) (cond (ble 2 a.length) (UH N (a.take 2) b (a.take 2) b fun r p s=>cond ((beq 2 2)&&((ble 2 a.length)&&(!false))) (k0 (wrap .i64 (Int.tdiv c 2)) (b||false) (Ga a 0 [.bool r,.imm (s.take (p*1)) p 1 false false]) l m o) none) none) none) (k0 (wrap .i64 (Int.tdiv c 2)) b a l m o)) none) (cond (decide (c>1)) (cond (ble 2 a.length) (cond (ble 2 a.length) (UH N (a.take 2) b (a.take 2) b fun t q u=>cond ((beq 2 2)&&((ble 2 a.length)&&(!false))) (k0 (wrap .i64 (Int.tdiv c 2)) (b||false) (Ga a 0 [.bool t,.imm (u.take (q*1)) q 1 false false]) i h j) none) none) none) (k0 (wrap .i64 (Int.tdiv c 2)) b a i h j))) (r0 i h j))
def Kt(r0:Bool->Nat->LA->O R):Nat->Int->Bool->LA->Bool->Nat->LA->O R
|0=>fun _ _ _ _ _ _=>none
|n+1=>R3 N r0 (Kt r0 n)
def X'(r0:Bool->Nat->LA->O R)(q0:Int->Bool->LA->Bool->Nat->LA->O R)(d:LA)(f:Bool)(g:Int):O R:=(Nn N 1 fun v w x=>q0 g f d v w x)
def VF:=(Ae fun N d f g r0=>X' (R:=R) N r0 (Kt N r0 N) d f g).1
def gM(d f g r0):(@VF R N d f g r0)=(X' N r0 (Kt N r0 N) d f g):=by rw[VF,(Ae _).2]
def lT:Hints:={H:=hK 2 (hS (hS (hP [1,2,4,5] hL) hL) hL)}
def qd:AT:=[ON N,yv N]
def zU(F:KF R):=P9 Tryz.f165 lT (qd N) [] N F
def zV(K:St->O R):=fun c b a i h j=>K ⟨[(1,iv c),(2,op 0),(4,op 1),(5,op 2)],hq [bP b 0 a,bN 0 [.bool false,.nsl],bN 0 [.bool i,A08 3 h],bQ 1 j]⟩
def qe(F:KF R):∀ n,zV (Ao (zU N F (pz 336) []) n)=(Kt N (yb F) n):=Gv fun n e=>(Dc (R3 N (yb F)) e:_)
def Acw:=C8 N 165 (qd N) lT (fun
|[.pagg d f,.int .i64 g],[]=>some fun _ k=>VF N d f g (yb k)
| _,_=>none) fun _ _=>by split;intro R F;exact(Dc (X' N (yb F) · _ _ _) ((lW ..).trans (qe ..)):_).trans (gM ..).symm;trivial
def Wa(k0:Lu->Bool->Nat->LA->O R)(r0:LA->O R)(b c:Bool)(a:Nat)(d:LA)(f:Lu)(g:Int)(p:Bool)(o:Nat)(q:LA):O R:=(cond ((decide ((0:Int)<=(0:Int)))&&((decide (0<=g))&&((decide (g<=((f.length:Nat):Int)))&&(decide (((f.length:Nat):Int)<=((f.length:Nat):Int)))))) (DB N (take g.toNat f) fun v=>UH N [.bool p,.imm (q.take (o*1)) o 1 false true] true [.bool c,.imm (d.take (a*1)) a 1 false true] true fun w r x=>Nn N v fun y s z=>wQ N [.bool w,.imm (x.take (r*1)) r 1 false true] true [.bool y,.imm (z.take (s*1)) s 1 false true] true fun aa ab ac=>cond ((decide (0<=g))&&((decide (g<=((f.length:Nat):Int)))&&((decide (((f.length:Nat):Int)<=((f.length:Nat):Int)))&&(decide (((f.length:Nat):Int)<=((f.length:Nat):Int)))))) (k0 (take (f.length - g.toNat) (drop g.toNat f)) aa ab ac) none) none)
def KL(r0:LA->O R)(b c:Bool)(a:Nat)(d:LA)(k0:Lu->Bool->Nat->LA->O R)(q1:Lu->Int->Bool->Nat->LA->O R)(j:Lu)(l:Bool)(h:Nat)(m:LA):O R:=(cond (!(j==([]:Lu))) (cond ((Int.tmod ((j.length:Nat):Int) 9)==0) (q1 j 9 l h m) (q1 j (Int.tmod ((j.length:Nat):Int) 9) l h m)) (cond b (jI N [.bool l,.imm (m.take (h*1)) h 1 false true] true fun ad t ae=>r0 [.bool ad,.imm (ae.take (t*1)) t 1 false false]) (r0 [.bool l,.imm (m.take (h*1)) h 1 false false])))
def Ku(r0:LA->O R)(b c:Bool)(a:Nat)(d:LA):Nat->Lu->Bool->Nat->LA->O R
|0=>fun _ _ _ _=>none
|n+1=>KL N r0 b c a d (Ku r0 b c a d n) (Wa N (Ku r0 b c a d n) r0 b c a d)
def PP(r0:LA->O R)(q0:Bool->Bool->Nat->LA->Lu->Bool->Nat->LA->O R)(i:Lu):O R:=(Fv N i ([45]:Lu) fun af b=>Nn N 0 fun ag ah ai=>Nn N 10 fun aj u ak=>VF N [.bool aj,.imm (ak.take (u*1)) u 1 false true] true 9 fun c a d=>q0 b c a d af ag ah ai)
def Xv:=(Ae fun N i r0=>PP (R:=R) N r0 (fun b c a d=>Ku N r0 b c a d N) i).1
def bJ(i r0):(@Xv R N i r0)=(PP N r0 (fun b c a d=>Ku N r0 b c a d N) i):=by rw[Xv,(Ae _).2]
def gN:Hints:={H:=hK 4 (hS (hS (hP [0,2,3,4,5] (hK 1 (hS (hK 1 (hJ [0,2,3,4,5,6] hL hL)) hL))) hL) hL),modes:=[(3,0)]}
def lU:AT:=[Sj N,ON N,Acw N,yw N,qM N,yv N,Ajp N]
def gP(F:KF R):=P9 Tryz.f149 gN (lU N) [] N F
def xF(b c:Bool)(a:Nat)(d:LA)(K:St->O R):=fun f g p o q=>K ⟨[(0,.str f),(2,op 0),(3,.bool b),(4,op 1),(5,op 2),(6,iv g)],hq [bN 0 [.bool false,.nsl],bN 0 [.bool p,A08 3 o],bN 0 [.bool c,A08 4 a],bQ 1 q,bQ 1 d]⟩
def gQ(b c:Bool)(a:Nat)(d:LA)(K:St->O R):=fun j l h m=>K ⟨[(0,.str j),(2,op 0),(3,.bool b),(4,op 1),(5,op 2)],hq [bN 0 [.bool false,.nsl],bN 0 [.bool l,A08 3 h],bN 0 [.bool c,A08 4 a],bQ 1 m,bQ 1 d]⟩
def nN Q0 (F:KF R) (b c a d):xF b c a d (Cm (gP N F (pz 5587013) [Q0]))=(Wa N (gQ b c a d Q0) (Qd F) b c a d):=by kernel_rfl
def nP(F:KF R)(b c a d):∀ n,gQ b c a d (Ao (gP N F (pz 5456) []) n)=(Ku N (Qd F) b c a d n):=Gv fun n e=>(HG (KL N (Qd F) b c a d) e ((jW ..).trans ((nN ..).trans (xh (Wa _ · _ _ _ _ _) e))):_)
def lV:=C8 N 149 (lU N) gN (fun
|[.str i],[]=>some fun _ k=>Xv N i (Qd k)
| _,_=>none) fun _ _=>by split;intro R F;exact(Dc (PP N (Qd F) · _) (Abu fun b c a d=>(lW ..).trans (nP ..)):_).trans (bJ ..).symm;trivial
def DH(a:Lu)(r0:LA->Int->O R):O R:=(Ux N a fun c=>cond (!c) (r0 [.bool false,.nsl] 2) (Xu N a fun d=>cond d (r0 [.bool false,.nsl] 8) (Xv N a fun b=>cond ((beq 0 0)&&((beq b.length 2)&&(beq 2 2))) (cond (ble 2 b.length) (r0 (b.take 2) 0) none) none)))
def Z9:=(Ae (@DH R)).1
def BE:@Z9 R=@DH R:=(Ae _).2
def tD:=C8 N 136 [bH N,gK N,lV N] { H:=hL,modes:=[(3,0),(0,0)] } (fun
|[.str a],[]=>some fun _ k=>Z9 N a (Oi k)
| _,_=>none) fun _ _=>by split;intro R F;dsimp only;rw[BE];kernel_rfl;trivial
def DI(N:Nat)(r0:Int->Bool->O R)(g:LA)(f:Nat)(d:Bool)(c:LA)(k2:Int->Int->Int->O R)(j l h:Int):O R:=(cond (decide (h<l)) (cond (Ai h f) (Bf .u32 (g.drop (h.toNat*1)) fun o=>k2 (wrap .i64 o) l (wrap .i64 (h+1))) none) (HF c fun p=>cond p (r0 (wrap .i64 ((0:Int) - j)) true) (r0 j true)))
def Q3(r0:Int->Bool->O R)(g:LA)(f:Nat)(d:Bool)(c:LA):Nat->Int->Int->Int->O R
|0=>fun _ _ _=>none
|n+1=>DI N r0 g f d c (Q3 r0 g f d c n)
def PQ(N:Nat)(r0:Int->Bool->O R)(q2:LA->Nat->Bool->LA->Int->Int->Int->O R)(d:Bool)(c:LA):O R:=(By 1 (c.drop 1) fun g f=>q2 g f d c 0 (f:Int) 0)
def IS(r0:Int->Bool->O R)(d:Bool)(c:LA):O R:=PQ N r0 (fun g f d c=>Q3 N r0 g f d c N) d c
def PR(r0:Int->Bool->O R)(b:Bool)(a:LA)(q1:Bool->LA->O R):O R:=(cond (ble 3 a.length) (X_ N (a.take 3) b fun m=>cond ((beq m.length 3)&&((ble 3 a.length)&&(!false))) (By 1 ((setCells a 0 m).drop 2) fun z q=>cond (((q:Int) != 1)==false) (By 1 ((setCells a 0 m).drop 2) fun r s=>cond (Ai 0 s) (Bf .u32 r fun t=>cond (cond false true (t != 1)) (r0 0 false) (q1 (b||false) (setCells a 0 m))) none) (r0 0 false)) none) none)
def IT(r0:Int->Bool->O R)(b:Bool)(a:LA):O R:=PR N r0 b a (IS N r0)
def MH(r0:Int->Bool->O R)(q0:O R)(a:LA)(b:Bool):O R:=(OS N 1073741824 fun i=>cond ((beq 0 0)&&((beq i.length 3)&&(beq 3 3))) (cond (ble 3 a.length) (cond (ble 3 i.length) (Xs N (a.take 3) b (i.take 3) false fun u=>cond ((decide (u>0))==false) (cond (ble 3 a.length) (cond (ble 3 i.length) (xC N (i.take 3) false fun v=>Xs N (a.take 3) b v false fun w=>cond (cond false true (decide (w<0))) (r0 0 false) q0) none) none) (r0 0 false)) none) none) none)
def Wb:=(Ae fun N a b r0=>MH (R:=R) N r0 (IT N r0 b a) a b).1
def PS(a b r0):(@Wb R N a b r0)=(MH N r0 (IT N r0 b a) a b):=by rw[Wb,(Ae _).2]
def lX:Hints:={H:=hK 2 (hJ [1] hL (hK 1 (hJ [1] hL (hK 1 (hS (hK 1 (hS (hP [1,5,35,36,37] hL) hL)) hL)))))}
def qf:AT:=[wR N,xA N,Aj1 N,j7 N]
def VG(F:KF R):=P9 Tryz.f137 lX (qf N) [] N F
def M5(F:KF R):Int->Bool->O R:=fun x y=>F (.tup [iv x,.bool y]) []
def zW(g:LA)(f:Nat)(d:Bool)(c:LA)(K:St->O R):=fun j l h=>K ⟨[(1,op 0),(5,iv j),(35,.imm g f 1 false d),(36,iv l),(37,iv h)],hq [bP d 0 c]⟩
def zX(K:St->O R):=fun d c=>K ⟨[(1,op 0)],hq [bP d 0 c]⟩
def zY(b:Bool)(a:LA)(K:St->O R):=K ⟨[(1,op 0)],hq [bP b 0 a]⟩
def qg(F:KF R)(g f d c):∀ n,zW g f d c (Ao (VG N F (pz 349508) []) n)=(Q3 N (M5 F) g f d c n):=Gv fun n e=>(Dc (DI N (M5 F) g f d c) e:_)
def qh(F:KF R):zX (Cm (VG N F (pz 1365) []))=(IS N (M5 F)):=(Dc (PQ N (M5 F)) (Abu fun g f d c=>(lW ..).trans (qg ..)):_)
def qi(F:KF R)(b a):zY b a (Cm (VG N F (pz 85) []))=(IT N (M5 F) b a):=(Dc (PR N (M5 F) b a) ((jW ..).trans (qh ..)):_)
def ql:=C8 N 137 (qf N) lX (fun
|[.pagg a b],[]=>some fun _ k=>Wb N a b (M5 k)
| _,_=>none) fun _ _=>by split;intro R F;exact(Dc (MH N (M5 F) · _ _) ((jW ..).trans (qi ..)):_).trans (PS ..).symm;trivial
def VH(b:Lu)(r0:Int->Bool->Int->O R):O R:=(Z9 N b fun a c=>cond ((beq 0 0)&&((beq a.length 2)&&(beq 2 2))) (cond (c==0) (cond (ble 2 a.length) (cond ((beq ((a.take 2).length) 2)&&(ble 2 3)) (cond ((beq 1 1)&&(ble 3 ((setCells [.bool false,.nsl,.nsl] 0 (a.take 2)).length))) (Wb N ((setCells [.bool false,.nsl,.nsl] 0 (a.take 2)).set 2 (.imm [.int .u32 1] 1 1 false false)) false fun d e=>r0 d e 0) none) none) none) (cond (c==2) (r0 0 false c) (r0 0 false 0))) none)
def Tt:=(Ae (@VH R)).1
def IU:@Tt R=@VH R:=(Ae _).2
def Acx(F:KF R):Int->Bool->Int->O R:=fun f g h=>F (.tup [iv f,.bool g,iv h]) []
def uI:=C8 N 106 [tD N,ql N] { H:=hL,cob:=[4000020] } (fun
|[.str b],[]=>some fun _ k=>Tt N b (Acx k)
| _,_=>none) fun _ _=>by split;intro R F;dsimp only;rw[IU];kernel_rfl;trivial
def Mw(c d:Int)(s:RB)(r0:Int->Int->Int->O R):O R:=(Bq N s fun g h a b=>cond (!h) (r0 0 a b) (Tt N g fun e i f=>cond (f != 0) (Ak N f {s with nx:=a,er:=b} (fun j=>r0 0 a j)) (cond ((!i)==false) (cond ((cond false true (decide (e<c)))==false) (cond (cond false true (decide (e>d))) (Ak N 3 {s with nx:=a,er:=b} (fun l=>r0 0 a l)) (r0 e a b)) (Ak N 3 {s with nx:=a,er:=b} (fun m=>r0 0 a m))) (Ak N 3 {s with nx:=a,er:=b} (fun n=>r0 0 a n)))))
def Ou:=(Ae (@Mw R)).1
def Me:@Ou R=@Mw R:=(Ae _).2
def IV:=C8 N 58 [Bz N,uI N,Bo N] Cs (NO fun
|[.optr 100000 0,.int .i64 c,.int .i64 d],s=>some fun _ k=>Ou N c d s (YR s k)
| _,_=>none) (RZ fun _ s=>by split;intro R F;dsimp only;rw[Me];kernel_rfl;trivial)
def Tu(b:Lu)(s:RB)(r0:Int->Int->O R):O R:=(Bq N s fun d e a c=>cond (e==true) (cond (cond true (!(d==b)) false) (Ak N 2 {s with nx:=a,er:=c} (fun f=>r0 a f)) (r0 a c)) (r0 a c))
def Aj:=(Ae (@Tu R)).1
def Ud:@Aj R=@Tu R:=(Ae _).2
def gR(s:RB)(F:KF R):Int->Int->O R:=fun g h=>F (.tup []) [(100000,bN 0 [.own 100001 0 s.nw,iv g,iv h,iv s.th,.own 100002 0 s.nR,.own 100003 0 s.nB,.own 100004 0 s.nL,.own 100005 0 s.nU,.own 100006 0 s.nS,.own 100007 0 s.nT,.own 100008 0 s.nO,.bool s.bg,.own 100009 0 s.zA,.own 100010 0 s.zB,.own 100011 0 s.zC,.own 100012 0 s.zD,.own 100013 0 s.zE,.own 100014 0 s.zF,.own 100015 0 s.zG]),(100001,bQ 1 s.cw),(100002,bQ 1 s.cR),(100003,bQ 3 s.cB),(100004,bQ 12 s.cL),(100005,bQ 22 s.cU),(100006,bQ 9 s.cS),(100007,bQ 5 s.cT),(100008,bQ 4 s.cO),(100009,bQ 1 s.yA),(100010,bQ 1 s.yB),(100011,bQ 1 s.yC),(100012,bQ 1 s.yD),(100013,bQ 1 s.yE),(100014,bQ 1 s.yF),(100015,bQ 1 s.yG)]
def Gr:=C8 N 59 [Bz N,Bo N] Cs (NO fun
|[.optr 100000 0,.str b],s=>some fun _ k=>Aj N b s (gR s k)
| _,_=>none) (RZ fun _ s=>by split;intro R F;dsimp only;rw[Ud];kernel_rfl;trivial)
def KM(N:Nat)(r0:Int->O R)(a:Lu)(k1:Int->O R)(c:Int):O R:=(cond ((decide (c>0))==true) (cond (Ai (wrap .i64 (c - 1)) a.length) (cond (cond true (((UInt8.toNat (List.getD a ((wrap .i64 (c - 1)).toNat) 0):Nat):Int)==47) false) (k1 (wrap .i64 (c - 1))) (r0 c)) none) (r0 c))
def R4(r0:Int->O R)(a:Lu):Nat->Int->O R
|0=>fun _=>none
|n+1=>KM N r0 a (R4 r0 a n)
def Zc(N:Nat)(r0:Int->O R)(a:Lu)(k0:Int->O R)(q1:Int->O R)(b:Int):O R:=(cond ((decide (b<((a.length:Nat):Int)))==true) (cond (Ai b a.length) (cond ((decide (((UInt8.toNat (List.getD a b.toNat 0):Nat):Int)>=48))==true) (cond (Ai b a.length) (cond ((cond true (decide (((UInt8.toNat (List.getD a b.toNat 0):Nat):Int)<=57)) false)==false) (cond (Ai b a.length) (cond ((cond false true (((UInt8.toNat (List.getD a b.toNat 0):Nat):Int)==45))==false) (cond (Ai b a.length) (cond ((cond false true (((UInt8.toNat (List.getD a b.toNat 0):Nat):Int)==46))==false) (cond (Ai b a.length) (cond (cond true (cond false true (((UInt8.toNat (List.getD a b.toNat 0):Nat):Int)==47)) false) (k0 (wrap .i64 (b+1))) (q1 b)) none) (k0 (wrap .i64 (b+1)))) none) (k0 (wrap .i64 (b+1)))) none) (k0 (wrap .i64 (b+1)))) none) (cond (Ai b a.length) (cond ((cond false true (((UInt8.toNat (List.getD a b.toNat 0):Nat):Int)==45))==false) (cond (Ai b a.length) (cond ((cond false true (((UInt8.toNat (List.getD a b.toNat 0):Nat):Int)==46))==false) (cond (Ai b a.length) (cond (cond true (cond false true (((UInt8.toNat (List.getD a b.toNat 0):Nat):Int)==47)) false) (k0 (wrap .i64 (b+1))) (q1 b)) none) (k0 (wrap .i64 (b+1)))) none) (k0 (wrap .i64 (b+1)))) none)) none) (q1 b))
def G7(r0:Int->O R)(a:Lu):Nat->Int->O R
|0=>fun _=>none
|n+1=>Zc N r0 a (G7 r0 a n) (R4 N r0 a N)
def PT(N:Nat)(r0:Int->O R)(q0:Int->O R)(a:Lu):O R:=(q0 0)
def MI:=(Ae fun N a r0=>PT (R:=R) N r0 (G7 N r0 a N) a).1
def bK(a r0):(@MI R N a r0)=(PT N r0 (G7 N r0 a N) a):=by rw[MI,(Ae _).2]
def gV:Hints:={H:=hK 2 (hS (hS (hP [0,3] hL) hL) (hS (hS (hP [0,3] hL) hL) hL))}
def gW(F:KF R):=P9 Tryz.f154 gV [] [] N F
def xG(a:Lu)(K:St->O R):=fun c=>K ⟨[(0,.str a),(3,iv c)],[]⟩
def xH(a:Lu)(K:St->O R):=fun b=>K ⟨[(0,.str a),(3,iv b)],[]⟩
def nQ(F:KF R)a:∀ n,xG a (Ao (gW N F (pz 1360) []) n)=(R4 N (Jq F) a n):=Gv fun n e=>(Dc (KM N (Jq F) a) e:_)
def nV(F:KF R)a:∀ n,xH a (Ao (gW N F (pz 336) []) n)=(G7 N (Jq F) a n):=Gv fun n e=>(HG (Zc N (Jq F) a) e ((lW ..).trans (nQ ..)):_)
def zZ:=C8 N 154 [] gV (fun
|[.str a],[]=>some fun _ k=>MI N a (Jq k)
| _,_=>none) fun _ _=>by split;intro R F;exact(Dc (PT N (Jq F) · _) ((lW ..).trans (nV ..)):_).trans (bK ..).symm;trivial
def VI(r0:Lu->Lu->Bool->O R)(d:Bool)(c a b:Lu):O R:=(cond (ble (c.length+a.length) 140737488355328) (cond d (cond (ble (1+(List.length (c++a))) 140737488355328) (strings_Repeat N ([48]:Lu) ((a.length:Nat):Int) fun g=>cond (ble (1+g.length) 140737488355328) (r0 (([45]:Lu)++(c++a)) (([49]:Lu)++g) true) none) none) (strings_Repeat N ([48]:Lu) ((a.length:Nat):Int) fun h=>cond (ble (1+h.length) 140737488355328) (r0 (c++a) (([49]:Lu)++h) true) none)) none)
def YA(r0:Lu->Lu->Bool->O R)(q0:Bool->Lu->Lu->O R)(b:Lu):O R:=(Ux N b fun i=>cond i (r0 b ([49]:Lu) true) (strings_Cut N b ([47]:Lu) fun e f j=>cond j (Ux N e fun l=>cond (l==true) (Xt N f fun m=>r0 e f (cond true m false)) (r0 e f false)) (Fv N b ([45]:Lu) fun n d=>strings_Cut N n ([46]:Lu) fun c a t=>Xt N c fun o=>cond ((!o)==false) (Uw N a fun p=>cond (cond false true (!p)) (r0 ([]:Lu) ([]:Lu) false) (q0 d c a)) (r0 ([]:Lu) ([]:Lu) false))))
def VJ:=(Ae fun N b r0=>YA (R:=R) N r0 (fun d c a=>VI N r0 d c a b) b).1
def gX(b r0):(@VJ R N b r0)=(YA N r0 (fun d c a=>VI N r0 d c a b) b):=by rw[VJ,(Ae _).2]
def lY:Hints:={H:=hK 5 (hJ [6,7,8] hL hL)}
def qn:AT:=[bH N,JZ N,gJ N,Sj N,bG N,jP N]
def z6(F:KF R):=P9 Tryz.f178 lY (qn N) [] N F
def VK(F:KF R):Lu->Lu->Bool->O R:=fun q r s=>F (.tup [.str q,.str r,.bool s]) []
def z7(d:Bool)(c a b:Lu)(K:St->O R):=K ⟨[(6,.bool d),(7,.str c),(8,.str a)],[]⟩
def qo(F:KF R)(d c a b):z7 d c a b (Cm (z6 N F (pz 5461) []))=(VI N (VK F) d c a b):=by kernel_rfl
def Acy:=C8 N 178 (qn N) lY (fun
|[.str b],[]=>some fun _ k=>VJ N b (VK k)
| _,_=>none) fun _ _=>by split;intro R F;exact(Dc (YA N (VK F) · _) (Al7 fun d c a=>(jW ..).trans (qo ..)):_).trans (gX ..).symm;trivial
def PU(b:Lu)(r0:LA->Int->O R):O R:=(VJ N b fun c d e=>cond (!e) (r0 [.bool false,.nsl,.nsl] 2) (Xu N b fun f=>cond f (r0 [.bool false,.nsl,.nsl] 8) (Xv N c fun g=>Xv N d fun h=>xE N g false h false fun a i=>cond ((beq 0 0)&&((beq a.length 3)&&(beq 3 3))) (cond (!i) (r0 [.bool false,.nsl,.nsl] 5) (cond (ble 3 a.length) (cond ((beq 0 0)&&((beq ((a.take 3).length) 3)&&(beq 3 3))) (cond (ble 3 ((a.take 3).length)) (r0 ((a.take 3).take 3) 0) none) none) none)) none)))
def IW:=(Ae (@PU R)).1
def RV:@IW R=@PU R:=(Ae _).2
def tE:=C8 N 155 [Acy N,gK N,lV N,Aj2 N] { H:=hL,modes:=[(3,0),(0,0)] } (fun
|[.str b],[]=>some fun _ k=>IW N b (Oi k)
| _,_=>none) fun _ _=>by split;intro R F;dsimp only;rw[RV];kernel_rfl;trivial
def VL(N:Nat)(r0:LA->LA->Int->O R)(c:LA)(d:Lu):O R:=none
def YB(r0:LA->LA->Int->O R)(q0:LA->Lu->O R)(a:Lu):O R:=(MI N a fun b=>cond ((decide ((0:Int)<=(0:Int)))&&((decide (0<=b))&&((decide (b<=((a.length:Nat):Int)))&&(decide (((a.length:Nat):Int)<=((a.length:Nat):Int)))))) (IW N (take b.toNat a) fun c e=>cond ((beq 0 0)&&((beq c.length 3)&&(beq 3 3))) (cond (e != 0) (r0 [.bool false,.nsl,.nsl] [A09,A09,A09,A09] e) (cond ((decide (0<=b))&&((decide (b<=((a.length:Nat):Int)))&&((decide (((a.length:Nat):Int)<=((a.length:Nat):Int)))&&(decide (((a.length:Nat):Int)<=((a.length:Nat):Int)))))) (cond ((take (a.length - b.toNat) (drop b.toNat a))==([]:Lu)) (cond (ble 3 c.length) (cond ((beq 0 0)&&((beq ((c.take 3).length) 3)&&(beq 3 3))) (cond (ble 3 ((c.take 3).length)) (r0 ((c.take 3).take 3) [A09,A09,A09,A09] 0) none) none) none) (cond ((take (a.length - b.toNat) (drop b.toNat a))==([32]:Lu)) (r0 [.bool false,.nsl,.nsl] [A09,A09,A09,A09] 2) (cond (Ai 0 (List.length (take (a.length - b.toNat) (drop b.toNat a)))) (cond (((UInt8.toNat (List.getD (take (a.length - b.toNat) (drop b.toNat a)) 0 0):Nat):Int)==32) (cond ((decide ((0:Int)<=(1:Int)))&&((decide (1<=(((List.length (take (a.length - b.toNat) (drop b.toNat a))):Nat):Int)))&&((decide ((((List.length (take (a.length - b.toNat) (drop b.toNat a))):Nat):Int)<=(((List.length (take (a.length - b.toNat) (drop b.toNat a))):Nat):Int)))&&(decide ((((List.length (take (a.length - b.toNat) (drop b.toNat a))):Nat):Int)<=(((List.length (take (a.length - b.toNat) (drop b.toNat a))):Nat):Int)))))) (q0 c (take ((List.length (take (a.length - b.toNat) (drop b.toNat a))) - 1) (drop 1 (take (a.length - b.toNat) (drop b.toNat a))))) none) (q0 c (take (a.length - b.toNat) (drop b.toNat a)))) none))) none)) none) none)
def MJ:=(Ae fun N a r0=>YB (R:=R) N r0 (fun c=>VL N r0 c) a).1
def gY(a r0):(@MJ R N a r0)=(YB N r0 (fun c=>VL N r0 c) a):=by rw[MJ,(Ae _).2]
def lZ:Hints:={H:=hK 7 (hJ [2,3,6,8] hL hL),modes:=[(3,0),(3,0),(0,0)]}
def qp:AT:=[zZ N,tE N]
def z8(F:KF R):=P9 Tryz.f138 lZ (qp N) [] N F
def VM(F:KF R):LA->LA->Int->O R:=fun f g h=>F (.tup [.pagg f false,.pagg g false,iv h]) []
def z_(c:LA)(K:St->O R):=fun d=>K ⟨[(2,op 0),(3,op 1),(6,op 2),(8,.str d)],hq [bN 0 [.bool false,.nsl,.nsl],bQ 0 [iv 0,iv 0,iv 0,iv 0],bQ 0 c]⟩
def qq(F:KF R)c:z_ c (Cm (z8 N F (pz 87381) []))=(VL N (VM F) c):=by kernel_rfl
def Acz:=C8 N 138 (qp N) lZ (fun
|[.str a],[]=>some fun _ k=>MJ N a (VM k)
| _,_=>none) fun _ _=>by split;intro R F;exact(Dc (YB N (VM F) · _) (Ai7 fun c=>(jW ..).trans (qq ..)):_).trans (gY ..).symm;trivial
def Hx(r0:Int->Int->Int->O R)(s:RB)(a c:Int)(d:LA):O R:=(cond (ble 3 d.length) (Wb N (d.take 3) false fun i j=>cond (!j) (Ak N 3 {s with nx:=a,er:=c} (fun l=>r0 0 a l)) (r0 i a c)) none)
def Hk(r0:Int->Int->Int->O R)(q0:Int->Int->LA->O R)(b:LA)(f:Bool)(s:RB):O R:=(Bq N s fun g m a c=>cond (!m) (r0 0 a c) (MJ N g fun d e h=>cond ((beq 0 0)&&((beq d.length 3)&&(beq 3 3))) (cond ((beq e.length 4)&&((ble 4 4)&&(!false))) (cond (h != 0) (Ak N h {s with nx:=a,er:=c} (fun n=>r0 0 a n)) (cond (Ai (wrap .i64 (((g.length:Nat):Int) - 1)) g.length) (cond ((decide (((UInt8.toNat (List.getD g ((wrap .i64 (((g.length:Nat):Int) - 1)).toNat) 0):Nat):Int)<48))==false) (cond ((cond false true (decide (((UInt8.toNat (List.getD g ((wrap .i64 (((g.length:Nat):Int) - 1)).toNat) 0):Nat):Int)>57)))==true) (cond (ble 4 ((setCells [A09,A09,A09,A09] 0 e).length)) (cond (ble 4 b.length) (cond ((!f)||(Bg (b.take 4))) (cond ((ble 1 4)&&((beq (((setCells [A09,A09,A09,A09] 0 e).take 4).length) 4)&&((beq ((b.take 4).length) 4)&&(true&&(!false))))) (Bf .i64 ((setCells [A09,A09,A09,A09] 0 e).take 4) fun o=>Bf .i64 (b.take 4) fun p=>Bf .i64 (((setCells [A09,A09,A09,A09] 0 e).take 4).drop 1) fun q=>Bf .i64 ((b.take 4).drop 1) fun r=>Bf .i64 (((setCells [A09,A09,A09,A09] 0 e).take 4).drop 2) fun t=>Bf .i64 ((b.take 4).drop 2) fun u=>Bf .i64 (((setCells [A09,A09,A09,A09] 0 e).take 4).drop 3) fun v=>Bf .i64 ((b.take 4).drop 3) fun w=>cond (cond true (!((o==p)&&((q==r)&&((t==u)&&((v==w)&&true))))) false) (Ak N 15 {s with nx:=a,er:=c} (fun x=>r0 0 a x)) (q0 a c d)) none) none) none) none) (q0 a c d)) (cond (ble 4 ((setCells [A09,A09,A09,A09] 0 e).length)) (cond (ble 4 b.length) (cond ((!f)||(Bg (b.take 4))) (cond ((ble 1 4)&&((beq (((setCells [A09,A09,A09,A09] 0 e).take 4).length) 4)&&((beq ((b.take 4).length) 4)&&(true&&(!false))))) (Bf .i64 ((setCells [A09,A09,A09,A09] 0 e).take 4) fun y=>Bf .i64 (b.take 4) fun z=>Bf .i64 (((setCells [A09,A09,A09,A09] 0 e).take 4).drop 1) fun aa=>Bf .i64 ((b.take 4).drop 1) fun ab=>Bf .i64 (((setCells [A09,A09,A09,A09] 0 e).take 4).drop 2) fun ac=>Bf .i64 ((b.take 4).drop 2) fun ad=>Bf .i64 (((setCells [A09,A09,A09,A09] 0 e).take 4).drop 3) fun ae=>Bf .i64 ((b.take 4).drop 3) fun af=>cond (cond true (!((y==z)&&((aa==ab)&&((ac==ad)&&((ae==af)&&true))))) false) (Ak N 15 {s with nx:=a,er:=c} (fun ag=>r0 0 a ag)) (q0 a c d)) none) none) none) none)) none)) none) none))
def C0:=(Ae fun N b f s r0=>Hk (R:=R) N r0 (fun a c d=>Hx N r0 s a c d) b f s).1
def Kv(b f s r0):(@C0 R N b f s r0)=(Hk N r0 (fun a c d=>Hx N r0 s a c d) b f s):=by rw[C0,(Ae _).2]
def CA:Hints:={H:=hK 5 (hJ [0,7] hL hL)}
def GH:AT:=[Bz N,Acz N,Bo N,ql N]
def ZS(F:KF R):=P9 Tryz.f107 CA (GH N) [100000,100001,100002,100003,100004,100005,100006,100007,100008,100009,100010,100011,100012,100013,100014,100015] N F
def ZT(s:RB)(a c:Int)(d:LA)(K:St->O R):=K ⟨[(0,.optr 100000 0),(7,op 0)],[(100000,bN 0 [.own 100001 0 s.nw,iv a,iv c,iv s.th,.own 100002 0 s.nR,.own 100003 0 s.nB,.own 100004 0 s.nL,.own 100005 0 s.nU,.own 100006 0 s.nS,.own 100007 0 s.nT,.own 100008 0 s.nO,.bool s.bg,.own 100009 0 s.zA,.own 100010 0 s.zB,.own 100011 0 s.zC,.own 100012 0 s.zD,.own 100013 0 s.zE,.own 100014 0 s.zF,.own 100015 0 s.zG]),(100001,bQ 1 s.cw),(100002,bQ 1 s.cR),(100003,bQ 3 s.cB),(100004,bQ 12 s.cL),(100005,bQ 22 s.cU),(100006,bQ 9 s.cS),(100007,bQ 5 s.cT),(100008,bQ 4 s.cO),(100009,bQ 1 s.yA),(100010,bQ 1 s.yB),(100011,bQ 1 s.yC),(100012,bQ 1 s.yD),(100013,bQ 1 s.yE),(100014,bQ 1 s.yF),(100015,bQ 1 s.yG),(300000,bQ 0 d)]⟩
def PV(F:KF R)(s a c d):ZT s a c d (Cm (ZS N F (pz 5461) []))=(Hx N (YR s F) s a c d):=by kernel_rfl
def Gs:=C8 N 107 (GH N) CA (NO fun
|[.optr 100000 0,.pagg b f],s=>some fun _ k=>C0 N b f s (YR s k)
| _,_=>none) (RZ fun _ s=>by split;rename_i b f;intro R F;exact(Dc (Hk N (YR s F) · b f s) (Al7 fun a c d=>(jW ..).trans (PV ..)):_).trans (Kv ..).symm;trivial)
def Ov(s:RB)(r0:Int->Int->Int->O R):O R:=(C0 N [.int .i64 1,A09,A09,A09] false s fun a b c=>r0 a b c)
def A3:=(Ae (@Ov R)).1
def N5:@A3 R=@Ov R:=(Ae _).2
def Mx:=C8 N 61 [Gs N] Cs (NO fun
|[.optr 100000 0],s=>some fun _ k=>A3 N s (YR s k)
| _,_=>none) (RZ fun _ s=>by split;intro R F;dsimp only;rw[N5];kernel_rfl;trivial)
def Fd(r0:Nat->Int->Int->LA->O R)(s:RB)(k0:Nat->Int->Int->Int->LA->O R)(a:Nat)(b c d:Int)(f:LA):O R:=(cond (decide (b<s.th)) (A3 N {s with nx:=c,er:=d} (fun g h i=>cond ((ble (a+1) 140737488355328)&&(ble ((a+1)*8) 140737488355328)) (k0 (a+1) (wrap .i64 (b+1)) h i ((f.take (a*1))++[.int .i64 g])) none)) (r0 a c d f))
def B0(r0:Nat->Int->Int->LA->O R)(s:RB):Nat->Nat->Int->Int->Int->LA->O R
|0=>fun _ _ _ _ _=>none
|n+1=>Fd N r0 s (B0 r0 s n)
def Kw(N:Nat)(r0:Nat->Int->Int->LA->O R)(q0:Nat->Int->Int->Int->LA->O R)(s:RB):O R:=(q0 0 0 s.nx s.er [])
def Ch:=(Ae fun N s r0=>Kw (R:=R) N r0 (B0 N r0 s N) s).1
def Q5(s r0):(@Ch R N s r0)=(Kw N r0 (B0 N r0 s N) s):=by rw[Ch,(Ae _).2]
def CB:Hints:={H:=hK 2 (hS (hK 1 (hS (hP [1,5,10,11] hL) hL)) hL),nils:=[(4,1),(5,1)],modes:=[(2,1)]}
def GI:AT:=[Mx N]
def ZU(F:KF R):=P9 Tryz.f60 CB (GI N) [100000,100001,100002,100003,100004,100005,100006,100007,100008,100009,100010,100011,100012,100013,100014,100015] N F
def ZV(s:RB)(K:St->O R):=fun a b c d f=>K ⟨[(1,.fn 1000061 [.optr 100000 0]),(5,A08 0 a),(10,iv s.th),(11,iv b)],[(100000,bN 0 [.own 100001 0 s.nw,iv c,iv d,iv s.th,.own 100002 0 s.nR,.own 100003 0 s.nB,.own 100004 0 s.nL,.own 100005 0 s.nU,.own 100006 0 s.nS,.own 100007 0 s.nT,.own 100008 0 s.nO,.bool s.bg,.own 100009 0 s.zA,.own 100010 0 s.zB,.own 100011 0 s.zC,.own 100012 0 s.zD,.own 100013 0 s.zE,.own 100014 0 s.zF,.own 100015 0 s.zG]),(100001,bQ 1 s.cw),(100002,bQ 1 s.cR),(100003,bQ 3 s.cB),(100004,bQ 12 s.cL),(100005,bQ 22 s.cU),(100006,bQ 9 s.cS),(100007,bQ 5 s.cT),(100008,bQ 4 s.cO),(100009,bQ 1 s.yA),(100010,bQ 1 s.yB),(100011,bQ 1 s.yC),(100012,bQ 1 s.yD),(100013,bQ 1 s.yE),(100014,bQ 1 s.yF),(100015,bQ 1 s.yG),(300000,bQ 1 f)]⟩
def PW(F:KF R)s:∀ n,ZV s (Ao (ZU N F (pz 1348) []) n)=(B0 N (QZ s F) s n):=Gv fun n e=>(Dc (Fd N (QZ s F) s) e:_)
def Ue:=C8 N 60 (GI N) CB (NO fun
|[.optr 100000 0,.fn 1000061 [.optr 100000 0]],s=>some fun _ k=>Ch N s (QZ s k)
| _,_=>none) (RZ fun _ s=>by split;intro R F;exact(Dc (Kw N (QZ s F) · s) ((lW ..).trans (PW ..)):_).trans (Q5 ..).symm;trivial)
def Tc(s:RB)(r0:Int->O R):O R:=(Eo N s fun a=>cond a (Ak N 2 s fun b=>r0 b) (r0 s.er))
def D8:=(Ae (@Tc R)).1
def R5:@D8 R=@Tc R:=(Ae _).2
def qr:=C8 N 68 [Oq N,Bo N] Cs (NO fun
|[.optr 100000 0],s=>some fun _ k=>D8 N s (An8 s k)
| _,_=>none) (RZ fun _ s=>by split;intro R F;dsimp only;rw[R5];kernel_rfl;trivial)
def IX(N:Nat)(r0:Bool->O R)(a:Lu)(k1:Int->Int->O R)(c b:Int):O R:=(cond (decide (b<c)) (cond (Ai b a.length) (cond ((decide (((UInt8.toNat (List.getD a b.toNat 0):Nat):Int)<97))==false) (cond ((cond false true (decide (((UInt8.toNat (List.getD a b.toNat 0):Nat):Int)>122)))==true) (cond ((decide (((UInt8.toNat (List.getD a b.toNat 0):Nat):Int)<48))==false) (cond ((cond true (cond false true (decide (((UInt8.toNat (List.getD a b.toNat 0):Nat):Int)>57))) false)==true) (cond (cond true (((UInt8.toNat (List.getD a b.toNat 0):Nat):Int) != 95) false) (r0 false) (k1 c (wrap .i64 (b+1)))) (k1 c (wrap .i64 (b+1)))) (cond (cond true (((UInt8.toNat (List.getD a b.toNat 0):Nat):Int) != 95) false) (r0 false) (k1 c (wrap .i64 (b+1))))) (k1 c (wrap .i64 (b+1)))) (cond ((decide (((UInt8.toNat (List.getD a b.toNat 0):Nat):Int)<48))==false) (cond ((cond true (cond false true (decide (((UInt8.toNat (List.getD a b.toNat 0):Nat):Int)>57))) false)==true) (cond (cond true (((UInt8.toNat (List.getD a b.toNat 0):Nat):Int) != 95) false) (r0 false) (k1 c (wrap .i64 (b+1)))) (k1 c (wrap .i64 (b+1)))) (cond (cond true (((UInt8.toNat (List.getD a b.toNat 0):Nat):Int) != 95) false) (r0 false) (k1 c (wrap .i64 (b+1)))))) none) (r0 true))
def Xw(r0:Bool->O R)(a:Lu):Nat->Int->Int->O R
|0=>fun _ _=>none
|n+1=>IX N r0 a (Xw r0 a n)
def VN(N:Nat)(r0:Bool->O R)(a:Lu)(q1:Int->Int->O R):O R:=(q1 ((a.length:Nat):Int) 0)
def PX(r0:Bool->O R)(a:Lu):O R:=VN N r0 a (Xw N r0 a N)
def gZ(N:Nat)(r0:Bool->O R)(q0:O R)(a:Lu):O R:=(cond ((decide (((a.length:Nat):Int)<1))==false) (cond ((cond false true (decide (((a.length:Nat):Int)>16)))==false) (cond ((cond false true (a==([99,111,114,114,101,99,116,105,118,101]:Lu)))==false) (cond (Ai 0 a.length) (cond ((cond false true (decide (((UInt8.toNat (List.getD a 0 0):Nat):Int)<97)))==false) (cond (Ai 0 a.length) (cond (cond false true (decide (((UInt8.toNat (List.getD a 0 0):Nat):Int)>122))) (r0 false) q0) none) (r0 false)) none) (r0 false)) (r0 false)) (r0 false))
def Mf:=(Ae fun N a r0=>gZ (R:=R) N r0 (PX N r0 a) a).1
def l7(a r0):(@Mf R N a r0)=(gZ N r0 (PX N r0 a) a):=by rw[Mf,(Ae _).2]
def qs:Hints:={H:=hK 1 (hJ [0] hL (hS (hK 1 (hS (hP [0,28,29] hL) hL)) hL))}
def qt(F:KF R):=P9 Tryz.f86 qs [] [] N F
def Ac0(a:Lu)(K:St->O R):=fun c b=>K ⟨[(0,.str a),(28,iv c),(29,iv b)],[]⟩
def Ac1(a:Lu)(K:St->O R):=K ⟨[(0,.str a)],[]⟩
def tF(F:KF R)a:∀ n,Ac0 a (Ao (qt N F (pz 1348) []) n)=(Xw N (C5 F) a n):=Gv fun n e=>(Dc (IX N (C5 F) a) e:_)
def tG(F:KF R)a:Ac1 a (Cm (qt N F (pz 21) []))=(PX N (C5 F) a):=(Dc (VN N (C5 F) a) ((lW ..).trans (tF ..)):_)
def DT:=C8 N 86 [] qs (fun
|[.str a],[]=>some fun _ k=>Mf N a (C5 k)
| _,_=>none) fun _ _=>by split;intro R F;exact(Dc (gZ N (C5 F) · _) ((jW ..).trans (tG ..)):_).trans (l7 ..).symm;trivial
def Bp(N:Nat)(r0:Int->O R)(b:LA)(a:Nat)(d f:Bool)(c:Lu)(k0:Int->Int->O R)(h g:Int):O R:=(cond (decide (g<h)) (cond (Ai g a) (Mj (b.drop (g.toNat*1)) fun i=>cond (c==i) (r0 g) (k0 h (wrap .i64 (g+1)))) none) (r0 (-1)))
def A4(r0:Int->O R)(b:LA)(a:Nat)(d f:Bool)(c:Lu):Nat->Int->Int->O R
|0=>fun _ _=>none
|n+1=>Bp N r0 b a d f c (A4 r0 b a d f c n)
def Ci(N:Nat)(r0:Int->O R)(q0:Int->Int->O R)(b:LA)(a:Nat)(d f:Bool)(c:Lu):O R:=(q0 (a:Int) 0)
def Av:=(Ae fun N b a d f c r0=>Ci (R:=R) N r0 (A4 N r0 b a d f c N) b a d f c).1
def Dv(b a d f c r0):(@Av R N b a d f c r0)=(Ci N r0 (A4 N r0 b a d f c N) b a d f c):=by rw[Av,(Ae _).2]
def My:Hints:={H:=hK 1 (hS (hK 1 (hS (hP [0,1,7,8] hL) hL)) hL)}
def Xx(F:KF R):=P9 Tryz.f128 My [] [] N F
def Xy(b:LA)(a:Nat)(d f:Bool)(c:Lu)(K:St->O R):=fun h g=>K ⟨[(0,.imm b a 1 d f),(1,.str c),(7,iv h),(8,iv g)],[]⟩
def U2(F:KF R)(b a d f c):∀ n,Xy b a d f c (Ao (Xx N F (pz 324) []) n)=(A4 N (Jq F) b a d f c n):=Gv fun n e=>(Dc (Bp N (Jq F) b a d f c) e:_)
def Ee:=C8 N 128 [] My (fun
|[.imm b a 1 d f,.str c],[]=>some fun _ k=>Av N b a d f c (Jq k)
| _,_=>none) fun _ _=>by split;intro R F;exact(Dc (Ci N (Jq F) · _ _ _ _ _) ((lW ..).trans (U2 ..)):_).trans (Dv ..).symm;trivial
def Gc(a:LA)(b:Nat)(e c:Bool)(d:Lu)(r0:Bool->O R):O R:=(Av N a b false c d fun f=>r0 (decide (f>=0)))
def Ap:=(Ae (@Gc R)).1
def I8:@Ap R=@Gc R:=(Ae _).2
def Bw:=C8 N 87 [Ee N] Cs (fun
|[.imm a b 1 e c,.str d],[]=>some fun _ k=>Ap N a b e c d (C5 k)
| _,_=>none) fun _ _=>by split;intro R F;dsimp only;rw[I8];kernel_rfl;trivial
def za(N:Nat)(a:Int)(r0:Int->O R):O R:=(cond (a==1) (r0 32) (cond (a==2) (r0 64) (cond (a==3) (r0 16) (cond (a==4) (r0 8) (cond (a==5) (r0 8) (r0 64))))))
def IY:=(Ae (@za R)).1
def Q6:@IY R=@za R:=(Ae _).2
def DU:=C8 N 139 [] Cs (fun
|[.int .i64 a],[]=>some fun _ k=>IY N a (Jq k)
| _,_=>none) fun _ _=>by split;intro R F;dsimp only;rw[Q6];kernel_rfl;trivial
def Tv(s:RB)(r0:Int->Int->O R)(r1:Lu->Int->Int->Nat->LA->O R):O R:=(Bq N s fun c d a b=>cond (!d) (r0 a b) (Mf N c fun e=>cond (!e) (Ak N 9 {s with nx:=a,er:=b} (fun f=>r0 a f)) (Ap N (s.yB.take (s.zB*1)) s.zB false true c fun g=>cond g (Ak N 10 {s with nx:=a,er:=b} (fun h=>r0 a h)) (IY N 1 fun i=>cond (decide ((s.zB:Int)>=i)) (Ak N 8 {s with nx:=a,er:=b} (fun j=>r0 a j)) (cond ((ble (s.zB+1) 140737488355328)&&(ble ((s.zB+1)*16) 140737488355328)) (r1 c a b (s.zB+1) ((s.yB.take (s.zB*1))++[.str c])) none)))))
def Q8:=(Ae (@Tv R)).1
def Uf:@Q8 R=@Tv R:=(Ae _).2
def g8(s:RB)(F:KF R):Lu->Int->Int->Nat->LA->O R:=fun l m n o p=>F (.str l) [(100000,bN 0 [A08 0 s.nw,iv m,iv n,iv s.th,A08 1 s.nR,A08 2 s.nB,A08 3 s.nL,A08 4 s.nU,A08 5 s.nS,A08 6 s.nT,A08 7 s.nO,.bool s.bg,A08 8 s.zA,.own 300014 0 o,A08 9 s.zC,.own 300010 0 s.zD,.own 300011 0 s.zE,.own 300012 0 s.zF,.own 300013 0 s.zG]),(300000,bQ 1 s.cw),(300001,bQ 1 s.cR),(300002,bQ 3 s.cB),(300003,bQ 12 s.cL),(300004,bQ 22 s.cU),(300005,bQ 9 s.cS),(300006,bQ 5 s.cT),(300007,bQ 4 s.cO),(300008,bQ 1 s.yA),(300009,bQ 1 s.yC),(300010,bQ 1 s.yD),(300011,bQ 1 s.yE),(300012,bQ 1 s.yF),(300013,bQ 1 s.yG),(300014,bQ 1 p)]
def j9:=C8 N 108 [Bz N,DT N,Bo N,Bw N,DU N] pE (NO fun
|[.optr 100000 0,.int .i64 1],s=>some fun _ k=>Q8 N s (Ajc s k) (g8 s k)
| _,_=>none) (RZ fun _ s=>by split;intro R F;dsimp only;rw[Uf];kernel_rfl;trivial)
def Tx(s:RB)(r0:Int->Int->Int->O R):O R:=(C0 N [.int .i64 (-1),.int .i64 (-1),.int .i64 1,A09] false s fun a b c=>r0 a b c)
def Fw:=(Ae (@Tx R)).1
def Ug:@Fw R=@Tx R:=(Ae _).2
def Xz:=C8 N 109 [Gs N] Cs (NO fun
|[.optr 100000 0],s=>some fun _ k=>Fw N s (YR s k)
| _,_=>none) (RZ fun _ s=>by split;intro R F;dsimp only;rw[Ug];kernel_rfl;trivial)
def Wc(s:RB)(r0:Int->Int->Nat->Nat->LA->LA->O R):O R:=(Q8 N s (fun e f=>Aj N ([100,101,109,97,110,100]:Lu) {s with nx:=e,er:=f} (fun g h=>Ch N {s with nx:=g,er:=h} (fun c i j l=>Aj N ([115,104,101,100]:Lu) {s with nx:=i,er:=j} (fun m n=>Fw N {s with nx:=m,er:=n} (fun o p q=>cond ((ble (s.nB+1) 140737488355328)&&(ble ((s.nB+1)*48) 140737488355328)) (r0 p q (s.nB+1) s.zB ((s.cB.take (s.nB*3))++[.str ([]:Lu),.imm (l.take (c*1)) c 1 false false,.int .i64 o]) s.yB) none))))) fun r t u a b=>Aj N ([100,101,109,97,110,100]:Lu) {s with nx:=t,er:=u,zB:=a,yB:=b} (fun v w=>Ch N {s with nx:=v,er:=w,zB:=a,yB:=b} (fun d x y z=>Aj N ([115,104,101,100]:Lu) {s with nx:=x,er:=y,zB:=a,yB:=b} (fun aa ab=>Fw N {s with nx:=aa,er:=ab,zB:=a,yB:=b} (fun ac ad ae=>cond ((ble (s.nB+1) 140737488355328)&&(ble ((s.nB+1)*48) 140737488355328)) (r0 ad ae (s.nB+1) a ((s.cB.take (s.nB*3))++[.str r,.imm (z.take (d*1)) d 1 false false,.int .i64 ac]) b) none)))))
def Td:=(Ae (@Wc R)).1
def Wd:@Td R=@Wc R:=(Ae _).2
def j_(s:RB)(F:KF R):Int->Int->Nat->Nat->LA->LA->O R:=fun af ag ah ai aj ak=>F (.tup []) [(100000,bN 0 [A08 0 s.nw,iv af,iv ag,iv s.th,A08 1 s.nR,A08 2 ah,A08 3 s.nL,A08 4 s.nU,A08 5 s.nS,A08 6 s.nT,A08 7 s.nO,.bool s.bg,A08 8 s.zA,A08 9 ai,.own 300010 0 s.zC,.own 300011 0 s.zD,.own 300012 0 s.zE,.own 300013 0 s.zF,.own 300014 0 s.zG]),(300000,bQ 1 s.cw),(300001,bQ 1 s.cR),(300002,bQ 3 aj),(300003,bQ 12 s.cL),(300004,bQ 22 s.cU),(300005,bQ 9 s.cS),(300006,bQ 5 s.cT),(300007,bQ 4 s.cO),(300008,bQ 1 s.yA),(300009,bQ 1 ak),(300010,bQ 1 s.yC),(300011,bQ 1 s.yD),(300012,bQ 1 s.yE),(300013,bQ 1 s.yF),(300014,bQ 1 s.yG)]
def nW:=C8 N 62 [j9 N,Gr N,Ue N,Xz N] Aeo (NO fun
|[.optr 100000 0],s=>some fun _ k=>Td N s (j_ s k)
| _,_=>none) (RZ fun _ s=>by split;intro R F;dsimp only;rw[Wd];kernel_rfl;trivial)
def N6(s:RB)(r0:Int->Int->O R)(r1:Lu->Int->Int->Nat->LA->O R):O R:=(Bq N s fun c d a b=>cond (!d) (r0 a b) (Mf N c fun e=>cond (!e) (Ak N 9 {s with nx:=a,er:=b} (fun f=>r0 a f)) (Ap N (s.yC.take (s.zC*1)) s.zC false true c fun g=>cond g (Ak N 10 {s with nx:=a,er:=b} (fun h=>r0 a h)) (IY N 2 fun i=>cond (decide ((s.zC:Int)>=i)) (Ak N 8 {s with nx:=a,er:=b} (fun j=>r0 a j)) (cond ((ble (s.zC+1) 140737488355328)&&(ble ((s.zC+1)*16) 140737488355328)) (r1 c a b (s.zC+1) ((s.yC.take (s.zC*1))++[.str c])) none)))))
def Kx:=(Ae (@N6 R)).1
def Pe:@Kx R=@N6 R:=(Ae _).2
def VO(s:RB)(F:KF R):Lu->Int->Int->Nat->LA->O R:=fun l m n o p=>F (.str l) [(100000,bN 0 [A08 0 s.nw,iv m,iv n,iv s.th,A08 1 s.nR,A08 2 s.nB,A08 3 s.nL,A08 4 s.nU,A08 5 s.nS,A08 6 s.nT,A08 7 s.nO,.bool s.bg,A08 8 s.zA,A08 9 s.zB,.own 300014 0 o,.own 300010 0 s.zD,.own 300011 0 s.zE,.own 300012 0 s.zF,.own 300013 0 s.zG]),(300000,bQ 1 s.cw),(300001,bQ 1 s.cR),(300002,bQ 3 s.cB),(300003,bQ 12 s.cL),(300004,bQ 22 s.cU),(300005,bQ 9 s.cS),(300006,bQ 5 s.cT),(300007,bQ 4 s.cO),(300008,bQ 1 s.yA),(300009,bQ 1 s.yB),(300010,bQ 1 s.yD),(300011,bQ 1 s.yE),(300012,bQ 1 s.yF),(300013,bQ 1 s.yG),(300014,bQ 1 p)]
def ZW:=C8 N 108 [Bz N,DT N,Bo N,Bw N,DU N] pE (NO fun
|[.optr 100000 0,.int .i64 2],s=>some fun _ k=>Kx N s (Ajc s k) (VO s k)
| _,_=>none) (RZ fun _ s=>by split;intro R F;dsimp only;rw[Pe];kernel_rfl;trivial)
def R6(s:RB)(r0:Int->Int->Int->O R):O R:=(Bq N s fun d e a b=>cond (!e) (r0 0 a b) (Av N (s.yB.take (s.zB*1)) s.zB false true d fun c=>cond (decide (c<0)) (Ak N 12 {s with nx:=a,er:=b} (fun f=>r0 0 a f)) (r0 c a b)))
def B8:=(Ae (@R6 R)).1
def Sk:@B8 R=@R6 R:=(Ae _).2
def P1:=C8 N 110 [Bz N,Ee N,Bo N] Cs (NO fun
|[.optr 100000 0,.int .i64 1],s=>some fun _ k=>B8 N s (YR s k)
| _,_=>none) (RZ fun _ s=>by split;intro R F;dsimp only;rw[Sk];kernel_rfl;trivial)
def Ky(r0:LA->Int->Int->O R)(c:Int)(d:Bool)(e:Int)(f:Bool)(s:RB)(a b:Int):O R:=(cond ((!d)==false) (cond ((cond false true (!f))==false) (cond (cond false true (decide (e<1))) (Ak N 3 {s with nx:=a,er:=b} (fun i=>r0 [A09,A09] a i)) (r0 [.int .i64 c,.int .i64 e] a b)) (Ak N 3 {s with nx:=a,er:=b} (fun j=>r0 [A09,A09] a j))) (Ak N 3 {s with nx:=a,er:=b} (fun l=>r0 [A09,A09] a l)))
def Pf(r0:LA->Int->Int->O R)(c:Int)(d:Bool)(s:RB)(a b:Int)(q1:Int->Bool->O R)(g:Lu):O R:=(Tt N g fun e f m=>cond ((m != 0)==false) (cond (Ai 0 g.length) (cond (cond false true (((UInt8.toNat (List.getD g 0 0):Nat):Int)==45)) (Ak N 2 {s with nx:=a,er:=b} (fun n=>r0 [A09,A09] a n)) (q1 e f)) none) (Ak N 2 {s with nx:=a,er:=b} (fun o=>r0 [A09,A09] a o)))
def Hc(r0:LA->Int->Int->O R)(c:Int)(d:Bool)(s:RB)(a b:Int)(g:Lu):O R:=Pf N r0 c d s a b (fun e f=>Ky N r0 c d e f s a b) g
def I9(r0:LA->Int->Int->O R)(q0:Int->Bool->Int->Int->Lu->O R)(s:RB):O R:=(Bq N s fun p q a b=>cond (!q) (r0 [A09,A09] a b) (strings_Cut N p ([47]:Lu) fun r t u=>Tt N r fun c d h=>cond (h != 0) (Ak N h {s with nx:=a,er:=b} (fun v=>r0 [A09,A09] a v)) (cond (!u) (q0 c d a b ([49]:Lu)) (q0 c d a b t))))
def Bx:=(Ae fun N s r0=>I9 (R:=R) N r0 (fun c d a b=>Hc N r0 c d s a b) s).1
def Pg(s r0):(@Bx R N s r0)=(I9 N r0 (fun c d a b=>Hc N r0 c d s a b) s):=by rw[Bx,(Ae _).2]
def AA:Hints:={H:=hK 6 (hJ [0,2,6,8,9] hL (hK 1 (hJ [0,2,8,9,11,12] hL hL))),modes:=[(3,0)]}
def CC:AT:=[Bz N,JZ N,uI N,Bo N]
def AB(F:KF R):=P9 Tryz.f111 AA (CC N) [100000,100001,100002,100003,100004,100005,100006,100007,100008,100009,100010,100011,100012,100013,100014,100015] N F
def Hd(s:RB)(F:KF R):LA->Int->Int->O R:=fun w x y=>F (.pagg w false) [(100000,bN 0 [.own 100001 0 s.nw,iv x,iv y,iv s.th,.own 100002 0 s.nR,.own 100003 0 s.nB,.own 100004 0 s.nL,.own 100005 0 s.nU,.own 100006 0 s.nS,.own 100007 0 s.nT,.own 100008 0 s.nO,.bool s.bg,.own 100009 0 s.zA,.own 100010 0 s.zB,.own 100011 0 s.zC,.own 100012 0 s.zD,.own 100013 0 s.zE,.own 100014 0 s.zF,.own 100015 0 s.zG]),(100001,bQ 1 s.cw),(100002,bQ 1 s.cR),(100003,bQ 3 s.cB),(100004,bQ 12 s.cL),(100005,bQ 22 s.cU),(100006,bQ 9 s.cS),(100007,bQ 5 s.cT),(100008,bQ 4 s.cO),(100009,bQ 1 s.yA),(100010,bQ 1 s.yB),(100011,bQ 1 s.yC),(100012,bQ 1 s.yD),(100013,bQ 1 s.yE),(100014,bQ 1 s.yF),(100015,bQ 1 s.yG)]
def VP(c:Int)(d:Bool)(e:Int)(f:Bool)(s:RB)(a b:Int)(K:St->O R):=K ⟨[(0,.optr 100000 0),(2,op 0),(8,iv c),(9,.bool d),(11,iv e),(12,.bool f)],[(100000,bN 0 [.own 100001 0 s.nw,iv a,iv b,iv s.th,.own 100002 0 s.nR,.own 100003 0 s.nB,.own 100004 0 s.nL,.own 100005 0 s.nU,.own 100006 0 s.nS,.own 100007 0 s.nT,.own 100008 0 s.nO,.bool s.bg,.own 100009 0 s.zA,.own 100010 0 s.zB,.own 100011 0 s.zC,.own 100012 0 s.zD,.own 100013 0 s.zE,.own 100014 0 s.zF,.own 100015 0 s.zG]),(100001,bQ 1 s.cw),(100002,bQ 1 s.cR),(100003,bQ 3 s.cB),(100004,bQ 12 s.cL),(100005,bQ 22 s.cU),(100006,bQ 9 s.cS),(100007,bQ 5 s.cT),(100008,bQ 4 s.cO),(100009,bQ 1 s.yA),(100010,bQ 1 s.yB),(100011,bQ 1 s.yC),(100012,bQ 1 s.yD),(100013,bQ 1 s.yE),(100014,bQ 1 s.yF),(100015,bQ 1 s.yG),(300000,bQ 0 [iv 0,iv 0])]⟩
def VQ(c:Int)(d:Bool)(s:RB)(a b:Int)(K:St->O R):=fun g=>K ⟨[(0,.optr 100000 0),(2,op 0),(6,.str g),(8,iv c),(9,.bool d)],[(100000,bN 0 [.own 100001 0 s.nw,iv a,iv b,iv s.th,.own 100002 0 s.nR,.own 100003 0 s.nB,.own 100004 0 s.nL,.own 100005 0 s.nU,.own 100006 0 s.nS,.own 100007 0 s.nT,.own 100008 0 s.nO,.bool s.bg,.own 100009 0 s.zA,.own 100010 0 s.zB,.own 100011 0 s.zC,.own 100012 0 s.zD,.own 100013 0 s.zE,.own 100014 0 s.zF,.own 100015 0 s.zG]),(100001,bQ 1 s.cw),(100002,bQ 1 s.cR),(100003,bQ 3 s.cB),(100004,bQ 12 s.cL),(100005,bQ 22 s.cU),(100006,bQ 9 s.cS),(100007,bQ 5 s.cT),(100008,bQ 4 s.cO),(100009,bQ 1 s.yA),(100010,bQ 1 s.yB),(100011,bQ 1 s.yC),(100012,bQ 1 s.yD),(100013,bQ 1 s.yE),(100014,bQ 1 s.yF),(100015,bQ 1 s.yG),(300000,bQ 0 [iv 0,iv 0])]⟩
def MK(F:KF R)(c d e f s a b):VP c d e f s a b (Cm (AB N F (pz 349525) []))=(Ky N (Hd s F) c d e f s a b):=by kernel_rfl
def ML(F:KF R)(c d s a b):VQ c d s a b (Cm (AB N F (pz 21845) []))=(Hc N (Hd s F) c d s a b):=(Dc (Pf N (Hd s F) c d s a b) (YS fun e f=>(jW ..).trans (MK ..)):_)
def CD:=C8 N 111 (CC N) AA (NO fun
|[.optr 100000 0],s=>some fun _ k=>Bx N s (Hd s k)
| _,_=>none) (RZ fun _ s=>by split;intro R F;exact(Dc (I9 N (Hd s F) · s) (Abu fun c d a b=>(jW ..).trans (ML ..)):_).trans (Pg ..).symm;trivial)
def Kz(a:Lu)(s:RB)(r0:Bool->O R):O R:=(Eo N s fun b=>cond (b==true) (cond (Ai s.nx s.nw) (Mj (s.cw.drop (0+(s.nx.toNat*1))) fun c=>r0 (cond true (!(c==a)) false)) none) (r0 false))
def Fe:=(Ae (@Kz R)).1
def K0:@Fe R=@Kz R:=(Ae _).2
def Uh:=C8 N 113 [Oq N] Cs (NO fun
|[.optr 100000 0,.str a],s=>some fun _ k=>Fe N a s (Ajd s k)
| _,_=>none) (RZ fun _ s=>by split;intro R F;dsimp only;rw[K0];kernel_rfl;trivial)
def Ra(s:RB)(r0:Int->Int->Int->O R):O R:=(Ou N (-1073741824) 1073741824 s fun a b c=>r0 a b c)
def Te:=(Ae (@Ra R)).1
def P2:@Te R=@Ra R:=(Ae _).2
def nX:=C8 N 140 [IV N] Cs (NO fun
|[.optr 100000 0],s=>some fun _ k=>Te N s (YR s k)
| _,_=>none) (RZ fun _ s=>by split;intro R F;dsimp only;rw[P2];kernel_rfl;trivial)
def D0(r0:Nat->Int->Int->LA->O R)(a:Lu)(s:RB)(k0:Nat->Int->Int->LA->O R)(b:Nat)(c d:Int)(f:LA):O R:=(Fe N a {s with nx:=c,er:=d} (fun g=>cond g (Te N {s with nx:=c,er:=d} (fun h i j=>cond ((ble (b+1) 140737488355328)&&(ble ((b+1)*8) 140737488355328)) (k0 (b+1) i j ((f.take (b*1))++[.int .i64 h])) none)) (r0 b c d f)))
def B9(r0:Nat->Int->Int->LA->O R)(a:Lu)(s:RB):Nat->Nat->Int->Int->LA->O R
|0=>fun _ _ _ _=>none
|n+1=>D0 N r0 a s (B9 r0 a s n)
def J3(N:Nat)(r0:Nat->Int->Int->LA->O R)(q0:Nat->Int->Int->LA->O R)(a:Lu)(s:RB):O R:=(q0 0 s.nx s.er [])
def Ja:=(Ae fun N a s r0=>J3 (R:=R) N r0 (B9 N r0 a s N) a s).1
def N7(a s r0):(@Ja R N a s r0)=(J3 N r0 (B9 N r0 a s N) a s):=by rw[Ja,(Ae _).2]
def IZ:Hints:={H:=hK 2 (hS (hS (hP [0,1,5] hL) hL) hL),nils:=[(4,1),(5,1)],modes:=[(2,1)]}
def MM:AT:=[Uh N,nX N]
def g9(F:KF R):=P9 Tryz.f112 IZ (MM N) [100000,100001,100002,100003,100004,100005,100006,100007,100008,100009,100010,100011,100012,100013,100014,100015] N F
def g_(a:Lu)(s:RB)(K:St->O R):=fun b c d f=>K ⟨[(0,.optr 100000 0),(1,.str a),(5,A08 0 b)],[(100000,bN 0 [.own 100001 0 s.nw,iv c,iv d,iv s.th,.own 100002 0 s.nR,.own 100003 0 s.nB,.own 100004 0 s.nL,.own 100005 0 s.nU,.own 100006 0 s.nS,.own 100007 0 s.nT,.own 100008 0 s.nO,.bool s.bg,.own 100009 0 s.zA,.own 100010 0 s.zB,.own 100011 0 s.zC,.own 100012 0 s.zD,.own 100013 0 s.zE,.own 100014 0 s.zF,.own 100015 0 s.zG]),(100001,bQ 1 s.cw),(100002,bQ 1 s.cR),(100003,bQ 3 s.cB),(100004,bQ 12 s.cL),(100005,bQ 22 s.cU),(100006,bQ 9 s.cS),(100007,bQ 5 s.cT),(100008,bQ 4 s.cO),(100009,bQ 1 s.yA),(100010,bQ 1 s.yB),(100011,bQ 1 s.yC),(100012,bQ 1 s.yD),(100013,bQ 1 s.yE),(100014,bQ 1 s.yF),(100015,bQ 1 s.yG),(300000,bQ 1 f)]⟩
def VR(F:KF R)(a s):∀ n,g_ a s (Ao (g9 N F (pz 336) []) n)=(B9 N (QZ s F) a s n):=Gv fun n e=>(Dc (D0 N (QZ s F) a s) e:_)
def MN:=C8 N 112 (MM N) IZ (NO fun
|[.optr 100000 0,.str a],s=>some fun _ k=>Ja N a s (QZ s k)
| _,_=>none) (RZ fun _ s=>by split;rename_i a;intro R F;exact(Dc (J3 N (QZ s F) · a s) ((lW ..).trans (VR ..)):_).trans (N7 ..).symm;trivial)
def Ow(s:RB)(r0:Int->Int->Nat->Nat->LA->LA->O R):O R:=(Kx N s (fun x y=>B8 N {s with nx:=x,er:=y} (fun e z aa=>B8 N {s with nx:=z,er:=aa} (fun f ab ac=>Aj N ([120]:Lu) {s with nx:=ab,er:=ac} (fun ad ae=>Bx N {s with nx:=ad,er:=ae} (fun c af ag=>cond ((beq c.length 2)&&((ble 5 12)&&(!false))) (Aj N ([115,104,105,102,116]:Lu) {s with nx:=af,er:=ag} (fun ah ai=>Bx N {s with nx:=ah,er:=ai} (fun g aj ak=>cond ((beq g.length 2)&&((ble 7 ((setCells [.str ([]:Lu),.int .i64 e,.int .i64 f,A09,A09,A09,A09,A09,A09,A09,A09,.nsl] 3 c).length))&&(!false))) (Bx N {s with nx:=aj,er:=ak} (fun m al am=>cond ((beq m.length 2)&&((ble 9 ((setCells (setCells [.str ([]:Lu),.int .i64 e,.int .i64 f,A09,A09,A09,A09,A09,A09,A09,A09,.nsl] 3 c) 5 g).length))&&(!false))) (Aj N ([108,105,109,105,116]:Lu) {s with nx:=al,er:=am} (fun an ao=>A3 N {s with nx:=an,er:=ao} (fun q ap aq=>cond ((beq 1 1)&&((ble 10 ((setCells (setCells (setCells [.str ([]:Lu),.int .i64 e,.int .i64 f,A09,A09,A09,A09,A09,A09,A09,A09,.nsl] 3 c) 5 g) 7 m).length))&&(!false))) (A3 N {s with nx:=ap,er:=aq} (fun t ar au=>cond ((beq 1 1)&&((ble 11 (((setCells (setCells (setCells [.str ([]:Lu),.int .i64 e,.int .i64 f,A09,A09,A09,A09,A09,A09,A09,A09,.nsl] 3 c) 5 g) 7 m).set 9 (.int .i64 q)).length))&&(!false))) (Aj N ([97,119,97,121]:Lu) {s with nx:=ar,er:=au} (fun av aw=>Ja N ([]:Lu) {s with nx:=av,er:=aw} (fun o ax ay v=>cond ((beq 1 1)&&((ble 12 ((((setCells (setCells (setCells [.str ([]:Lu),.int .i64 e,.int .i64 f,A09,A09,A09,A09,A09,A09,A09,A09,.nsl] 3 c) 5 g) 7 m).set 9 (.int .i64 q)).set 10 (.int .i64 t)).length))&&(!false))) (cond (ble 12 (((((setCells (setCells (setCells [.str ([]:Lu),.int .i64 e,.int .i64 f,A09,A09,A09,A09,A09,A09,A09,A09,.nsl] 3 c) 5 g) 7 m).set 9 (.int .i64 q)).set 10 (.int .i64 t)).set 11 (.imm (v.take (o*1)) o 1 false false)).length)) (cond ((beq ((((((setCells (setCells (setCells [.str ([]:Lu),.int .i64 e,.int .i64 f,A09,A09,A09,A09,A09,A09,A09,A09,.nsl] 3 c) 5 g) 7 m).set 9 (.int .i64 q)).set 10 (.int .i64 t)).set 11 (.imm (v.take (o*1)) o 1 false false)).take 12).length) 12)&&(ble 12 12)) (cond ((ble (s.nL+1) 140737488355328)&&(ble ((s.nL+1)*120) 140737488355328)) (r0 ax ay (s.nL+1) s.zC ((s.cL.take (s.nL*12))++((setCells [.str ([]:Lu),A09,A09,A09,A09,A09,A09,A09,A09,A09,A09,.nsl] 0 (((((setCells (setCells (setCells [.str ([]:Lu),.int .i64 e,.int .i64 f,A09,A09,A09,A09,A09,A09,A09,A09,.nsl] 3 c) 5 g) 7 m).set 9 (.int .i64 q)).set 10 (.int .i64 t)).set 11 (.imm (v.take (o*1)) o 1 false false)).take 12)).take 12)) s.yC) none) none) none) none))) none)) none))) none)) none))) none))))) fun h az ba a b=>B8 N {s with nx:=az,er:=ba,zC:=a,yC:=b} (fun i bb bc=>B8 N {s with nx:=bb,er:=bc,zC:=a,yC:=b} (fun j bd be=>Aj N ([120]:Lu) {s with nx:=bd,er:=be,zC:=a,yC:=b} (fun bf bh=>Bx N {s with nx:=bf,er:=bh,zC:=a,yC:=b} (fun d bi bj=>cond ((beq d.length 2)&&((ble 5 12)&&(!false))) (Aj N ([115,104,105,102,116]:Lu) {s with nx:=bi,er:=bj,zC:=a,yC:=b} (fun bk bl=>Bx N {s with nx:=bk,er:=bl,zC:=a,yC:=b} (fun l bm bn=>cond ((beq l.length 2)&&((ble 7 ((setCells [.str h,.int .i64 i,.int .i64 j,A09,A09,A09,A09,A09,A09,A09,A09,.nsl] 3 d).length))&&(!false))) (Bx N {s with nx:=bm,er:=bn,zC:=a,yC:=b} (fun n bo bp=>cond ((beq n.length 2)&&((ble 9 ((setCells (setCells [.str h,.int .i64 i,.int .i64 j,A09,A09,A09,A09,A09,A09,A09,A09,.nsl] 3 d) 5 l).length))&&(!false))) (Aj N ([108,105,109,105,116]:Lu) {s with nx:=bo,er:=bp,zC:=a,yC:=b} (fun bq br=>A3 N {s with nx:=bq,er:=br,zC:=a,yC:=b} (fun r bs bt=>cond ((beq 1 1)&&((ble 10 ((setCells (setCells (setCells [.str h,.int .i64 i,.int .i64 j,A09,A09,A09,A09,A09,A09,A09,A09,.nsl] 3 d) 5 l) 7 n).length))&&(!false))) (A3 N {s with nx:=bs,er:=bt,zC:=a,yC:=b} (fun u bu bv=>cond ((beq 1 1)&&((ble 11 (((setCells (setCells (setCells [.str h,.int .i64 i,.int .i64 j,A09,A09,A09,A09,A09,A09,A09,A09,.nsl] 3 d) 5 l) 7 n).set 9 (.int .i64 r)).length))&&(!false))) (Aj N ([97,119,97,121]:Lu) {s with nx:=bu,er:=bv,zC:=a,yC:=b} (fun bw bx=>Ja N ([]:Lu) {s with nx:=bw,er:=bx,zC:=a,yC:=b} (fun p bz ca w=>cond ((beq 1 1)&&((ble 12 ((((setCells (setCells (setCells [.str h,.int .i64 i,.int .i64 j,A09,A09,A09,A09,A09,A09,A09,A09,.nsl] 3 d) 5 l) 7 n).set 9 (.int .i64 r)).set 10 (.int .i64 u)).length))&&(!false))) (cond (ble 12 (((((setCells (setCells (setCells [.str h,.int .i64 i,.int .i64 j,A09,A09,A09,A09,A09,A09,A09,A09,.nsl] 3 d) 5 l) 7 n).set 9 (.int .i64 r)).set 10 (.int .i64 u)).set 11 (.imm (w.take (p*1)) p 1 false false)).length)) (cond ((beq ((((((setCells (setCells (setCells [.str h,.int .i64 i,.int .i64 j,A09,A09,A09,A09,A09,A09,A09,A09,.nsl] 3 d) 5 l) 7 n).set 9 (.int .i64 r)).set 10 (.int .i64 u)).set 11 (.imm (w.take (p*1)) p 1 false false)).take 12).length) 12)&&(ble 12 12)) (cond ((ble (s.nL+1) 140737488355328)&&(ble ((s.nL+1)*120) 140737488355328)) (r0 bz ca (s.nL+1) a ((s.cL.take (s.nL*12))++((setCells [.str ([]:Lu),A09,A09,A09,A09,A09,A09,A09,A09,A09,A09,.nsl] 0 (((((setCells (setCells (setCells [.str h,.int .i64 i,.int .i64 j,A09,A09,A09,A09,A09,A09,A09,A09,.nsl] 3 d) 5 l) 7 n).set 9 (.int .i64 r)).set 10 (.int .i64 u)).set 11 (.imm (w.take (p*1)) p 1 false false)).take 12)).take 12)) b) none) none) none) none))) none)) none))) none)) none))) none)))))
def Mz:=(Ae (@Ow R)).1
def N8:@Mz R=@Ow R:=(Ae _).2
def gd(s:RB)(F:KF R):Int->Int->Nat->Nat->LA->LA->O R:=fun cb cc cd ce cf cg=>F (.tup []) [(100000,bN 0 [A08 0 s.nw,iv cb,iv cc,iv s.th,A08 1 s.nR,A08 2 s.nB,A08 3 cd,A08 4 s.nU,A08 5 s.nS,A08 6 s.nT,A08 7 s.nO,.bool s.bg,A08 8 s.zA,A08 9 s.zB,.own 300010 0 ce,.own 300011 0 s.zD,.own 300012 0 s.zE,.own 300013 0 s.zF,.own 300014 0 s.zG]),(300000,bQ 1 s.cw),(300001,bQ 1 s.cR),(300002,bQ 3 s.cB),(300003,bQ 12 cf),(300004,bQ 22 s.cU),(300005,bQ 9 s.cS),(300006,bQ 5 s.cT),(300007,bQ 4 s.cO),(300008,bQ 1 s.yA),(300009,bQ 1 s.yB),(300010,bQ 1 cg),(300011,bQ 1 s.yD),(300012,bQ 1 s.yE),(300013,bQ 1 s.yF),(300014,bQ 1 s.yG)]
def ja:=C8 N 63 [ZW N,P1 N,Gr N,CD N,Mx N,MN N] Aeo (NO fun
|[.optr 100000 0],s=>some fun _ k=>Mz N s (gd s k)
| _,_=>none) (RZ fun _ s=>by split;intro R F;dsimp only;rw[N8];kernel_rfl;trivial)
def Ui(s:RB)(r0:Int->Int->O R)(r1:Lu->Int->Int->Nat->LA->O R):O R:=(Bq N s fun c d a b=>cond (!d) (r0 a b) (Mf N c fun e=>cond (!e) (Ak N 9 {s with nx:=a,er:=b} (fun f=>r0 a f)) (Ap N (s.yD.take (s.zD*1)) s.zD false true c fun g=>cond g (Ak N 10 {s with nx:=a,er:=b} (fun h=>r0 a h)) (IY N 3 fun i=>cond (decide ((s.zD:Int)>=i)) (Ak N 8 {s with nx:=a,er:=b} (fun j=>r0 a j)) (cond ((ble (s.zD+1) 140737488355328)&&(ble ((s.zD+1)*16) 140737488355328)) (r1 c a b (s.zD+1) ((s.yD.take (s.zD*1))++[.str c])) none)))))
def P3:=(Ae (@Ui R)).1
def Wx:@P3 R=@Ui R:=(Ae _).2
def VS(s:RB)(F:KF R):Lu->Int->Int->Nat->LA->O R:=fun l m n o p=>F (.str l) [(100000,bN 0 [A08 0 s.nw,iv m,iv n,iv s.th,A08 1 s.nR,A08 2 s.nB,A08 3 s.nL,A08 4 s.nU,A08 5 s.nS,A08 6 s.nT,A08 7 s.nO,.bool s.bg,A08 8 s.zA,A08 9 s.zB,.own 300010 0 s.zC,.own 300014 0 o,.own 300011 0 s.zE,.own 300012 0 s.zF,.own 300013 0 s.zG]),(300000,bQ 1 s.cw),(300001,bQ 1 s.cR),(300002,bQ 3 s.cB),(300003,bQ 12 s.cL),(300004,bQ 22 s.cU),(300005,bQ 9 s.cS),(300006,bQ 5 s.cT),(300007,bQ 4 s.cO),(300008,bQ 1 s.yA),(300009,bQ 1 s.yB),(300010,bQ 1 s.yC),(300011,bQ 1 s.yE),(300012,bQ 1 s.yF),(300013,bQ 1 s.yG),(300014,bQ 1 p)]
def ZX:=C8 N 108 [Bz N,DT N,Bo N,Bw N,DU N] pE (NO fun
|[.optr 100000 0,.int .i64 3],s=>some fun _ k=>P3 N s (Ajc s k) (VS s k)
| _,_=>none) (RZ fun _ s=>by split;intro R F;dsimp only;rw[Wx];kernel_rfl;trivial)
def GJ(s:RB)(r0:Int->Int->Int->O R):O R:=(C0 N [A09,.int .i64 (-1),.int .i64 1,A09] false s fun a b c=>r0 a b c)
def Zd:=(Ae (@GJ R)).1
def I_:@Zd R=@GJ R:=(Ae _).2
def nY:=C8 N 114 [Gs N] Cs (NO fun
|[.optr 100000 0],s=>some fun _ k=>Zd N s (YR s k)
| _,_=>none) (RZ fun _ s=>by split;intro R F;dsimp only;rw[I_];kernel_rfl;trivial)
def GK(s:RB)(r0:Int->Int->Int->O R):O R:=(C0 N [A09,.int .i64 1,A09,A09] false s fun a b c=>r0 a b c)
def Ii:=(Ae (@GK R)).1
def JA:@Ii R=@GK R:=(Ae _).2
def nZ:=C8 N 115 [Gs N] Cs (NO fun
|[.optr 100000 0],s=>some fun _ k=>Ii N s (YR s k)
| _,_=>none) (RZ fun _ s=>by split;intro R F;dsimp only;rw[JA];kernel_rfl;trivial)
def BF(s:RB)(r0:Int->Int->Int->O R):O R:=(C0 N [A09,A09,.int .i64 1,A09] false s fun a b c=>r0 a b c)
def Rb:=(Ae (@BF R)).1
def GL:@Rb R=@BF R:=(Ae _).2
def jb:=C8 N 116 [Gs N] Cs (NO fun
|[.optr 100000 0],s=>some fun _ k=>Rb N s (YR s k)
| _,_=>none) (RZ fun _ s=>by split;intro R F;dsimp only;rw[GL];kernel_rfl;trivial)
def X0(s:RB)(r0:Int->Int->Int->O R):O R:=(Bq N s fun c e a b=>cond (c==([111,102,102]:Lu)) (r0 0 a b) (cond (c==([115,116,97,114,116,105,110,103]:Lu)) (r0 1 a b) (cond (c==([111,110]:Lu)) (r0 2 a b) (Ak N 2 {s with nx:=a,er:=b} (fun d=>r0 0 a d)))))
def Ty:=(Ae (@X0 R)).1
def CE:@Ty R=@X0 R:=(Ae _).2
def ge:=C8 N 117 [Bz N,Bo N] Cs (NO fun
|[.optr 100000 0],s=>some fun _ k=>Ty N s (YR s k)
| _,_=>none) (RZ fun _ s=>by split;intro R F;dsimp only;rw[CE];kernel_rfl;trivial)
def N9(r0:Int->Int->Nat->Nat->LA->LA->O R)(s:RB)(k0:Int->Int->Nat->Lu->Int->Int->Int->Nat->LA->LA->O R)(g h:Int)(a:Nat)(i:Lu)(j l m:Int)(c:Nat)(b o:LA):O R:=(Fe N ([110,111,108,111,97,100]:Lu) {s with nx:=g,er:=h,zD:=a,yD:=b} (fun q=>cond q (A3 N {s with nx:=g,er:=h,zD:=a,yD:=b} (fun r t u=>Fw N {s with nx:=t,er:=u,zD:=a,yD:=b} (fun v w x=>cond ((ble (c+1) 140737488355328)&&(ble ((c+1)*16) 140737488355328)) (k0 w x a i j l m (c+1) b ((o.take (c*2))++[.int .i64 r,.int .i64 v])) none))) (Aj N ([110,111,108,111,97,100]:Lu) {s with nx:=g,er:=h,zD:=a,yD:=b} (fun y z=>Zd N {s with nx:=y,er:=z,zD:=a,yD:=b} (fun aa ab ac=>Aj N ([114,97,109,112]:Lu) {s with nx:=ab,er:=ac,zD:=a,yD:=b} (fun ad ae=>A3 N {s with nx:=ad,er:=ae,zD:=a,yD:=b} (fun af ag ah=>A3 N {s with nx:=ag,er:=ah,zD:=a,yD:=b} (fun ai aj ak=>Aj N ([115,116,97,114,116]:Lu) {s with nx:=aj,er:=ak,zD:=a,yD:=b} (fun al am=>A3 N {s with nx:=al,er:=am,zD:=a,yD:=b} (fun an ao ap=>Aj N ([115,116,111,112]:Lu) {s with nx:=ao,er:=ap,zD:=a,yD:=b} (fun aq ar=>A3 N {s with nx:=aq,er:=ar,zD:=a,yD:=b} (fun au av aw=>Aj N ([116,105,109,101,115]:Lu) {s with nx:=av,er:=aw,zD:=a,yD:=b} (fun ax ay=>Ii N {s with nx:=ax,er:=ay,zD:=a,yD:=b} (fun az ba bb=>Ii N {s with nx:=ba,er:=bb,zD:=a,yD:=b} (fun bc bd be=>Ii N {s with nx:=bd,er:=be,zD:=a,yD:=b} (fun bf bh bi=>Aj N ([99,111,115,116]:Lu) {s with nx:=bh,er:=bi,zD:=a,yD:=b} (fun bj bk=>Rb N {s with nx:=bj,er:=bk,zD:=a,yD:=b} (fun bl bm bn=>Rb N {s with nx:=bm,er:=bn,zD:=a,yD:=b} (fun bo bp bq=>Ii N {s with nx:=bp,er:=bq,zD:=a,yD:=b} (fun br bs bt=>Aj N ([114,101,115,101,114,118,101]:Lu) {s with nx:=bs,er:=bt,zD:=a,yD:=b} (fun bu bv=>A3 N {s with nx:=bu,er:=bv,zD:=a,yD:=b} (fun bw bx bz=>Fw N {s with nx:=bx,er:=bz,zD:=a,yD:=b} (fun ca cb cc=>Aj N ([97,119,97,121]:Lu) {s with nx:=cb,er:=cc,zD:=a,yD:=b} (fun cd ce=>Ja N ([115,116,97,116,101]:Lu) {s with nx:=cd,er:=ce,zD:=a,yD:=b} (fun p cf cg ch=>Aj N ([115,116,97,116,101]:Lu) {s with nx:=cf,er:=cg,zD:=a,yD:=b} (fun ci cj=>Ty N {s with nx:=ci,er:=cj,zD:=a,yD:=b} (fun ck cl cm=>Ii N {s with nx:=cl,er:=cm,zD:=a,yD:=b} (fun cn co cp=>A3 N {s with nx:=co,er:=cp,zD:=a,yD:=b} (fun cq cr cs=>cond ((ble (s.nU+1) 140737488355328)&&(ble ((s.nU+1)*216) 140737488355328)) (r0 cr cs (s.nU+1) a ((s.cU.take (s.nU*22))++[.str i,.int .i64 j,.int .i64 l,.int .i64 m,.imm (o.take (c*2)) c 2 false false,.int .i64 aa,.int .i64 af,.int .i64 ai,.int .i64 an,.int .i64 au,.int .i64 az,.int .i64 bc,.int .i64 bf,.int .i64 bl,.int .i64 bo,.int .i64 br,.int .i64 bw,.int .i64 ca,.imm (ch.take (p*1)) p 1 false false,.int .i64 ck,.int .i64 cn,.int .i64 cq]) b) none)))))))))))))))))))))))))))))
def Ef(r0:Int->Int->Nat->Nat->LA->LA->O R)(s:RB):Nat->Int->Int->Nat->Lu->Int->Int->Int->Nat->LA->LA->O R
|0=>fun _ _ _ _ _ _ _ _ _ _=>none
|n+1=>N9 N r0 s (Ef r0 s n)
def Tz(r0:Int->Int->Nat->Nat->LA->LA->O R)(q0:Int->Int->Nat->Lu->Int->Int->Int->Nat->LA->LA->O R)(s:RB):O R:=(P3 N s (fun ct cu=>B8 N {s with nx:=ct,er:=cu} (fun cv cx cy=>Aj N ([109,105,110]:Lu) {s with nx:=cx,er:=cy} (fun cz da=>A3 N {s with nx:=cz,er:=da} (fun db dc dd=>Aj N ([109,97,120]:Lu) {s with nx:=dc,er:=dd} (fun de df=>A3 N {s with nx:=de,er:=df} (fun dg dh di=>Aj N ([115,101,103,109,101,110,116,115]:Lu) {s with nx:=dh,er:=di} (fun dj dk=>q0 dj dk s.zD ([]:Lu) cv db dg 0 s.yD []))))))) fun dl dm dn d f=>B8 N {s with nx:=dm,er:=dn,zD:=d,yD:=f} (fun dp dq dr=>Aj N ([109,105,110]:Lu) {s with nx:=dq,er:=dr,zD:=d,yD:=f} (fun ds dt=>A3 N {s with nx:=ds,er:=dt,zD:=d,yD:=f} (fun du dv dw=>Aj N ([109,97,120]:Lu) {s with nx:=dv,er:=dw,zD:=d,yD:=f} (fun dx dy=>A3 N {s with nx:=dx,er:=dy,zD:=d,yD:=f} (fun dz ea eb=>Aj N ([115,101,103,109,101,110,116,115]:Lu) {s with nx:=ea,er:=eb,zD:=d,yD:=f} (fun ec ed=>q0 ec ed d dl dp du dz 0 f [])))))))
def Rc:=(Ae fun N s r0=>Tz (R:=R) N r0 (Ef N r0 s N) s).1
def GM(s r0):(@Rc R N s r0)=(Tz N r0 (Ef N r0 s N) s):=by rw[Rc,(Ae _).2]
def JB:Hints:={H:=hK 8 (hS (hS (hP [0,2] hL) hL) hL),free:=[100001,100002,100003,100004,100005,100006,100007,100008,100009,100010,100011,100012,100013,100014,100015,100016,100017],cob:=[1000002]}
def MO:AT:=[ZX N,P1 N,Gr N,Mx N,Uh N,Xz N,nY N,nZ N,jb N,MN N,ge N]
def gf(F:KF R):=P9 Tryz.f64 JB (MO N) [100000,100001,100002,100003,100004,100005,100006,100007,100008,100009,100010,100011,100012,100013,100014,100015] N F
def P4(s:RB)(F:KF R):Int->Int->Nat->Nat->LA->LA->O R:=fun ee ef eg eh ei ej=>F (.tup []) [(100000,bN 0 [A08 0 s.nw,iv ee,iv ef,iv s.th,A08 1 s.nR,A08 2 s.nB,A08 3 s.nL,A08 4 eg,A08 5 s.nS,A08 6 s.nT,A08 7 s.nO,.bool s.bg,A08 8 s.zA,A08 9 s.zB,.own 300010 0 s.zC,.own 300011 0 eh,.own 300012 0 s.zE,.own 300013 0 s.zF,.own 300014 0 s.zG]),(300000,bQ 1 s.cw),(300001,bQ 1 s.cR),(300002,bQ 3 s.cB),(300003,bQ 12 s.cL),(300004,bQ 22 ei),(300005,bQ 9 s.cS),(300006,bQ 5 s.cT),(300007,bQ 4 s.cO),(300008,bQ 1 s.yA),(300009,bQ 1 s.yB),(300010,bQ 1 s.yC),(300011,bQ 1 ej),(300012,bQ 1 s.yE),(300013,bQ 1 s.yF),(300014,bQ 1 s.yG)]
def gg(s:RB)(K:St->O R):=fun g h a i j l m c b o=>K ⟨[(0,.optr 100000 0),(2,op 0)],[(100000,bN 0 [A08 1 s.nw,iv g,iv h,iv s.th,A08 2 s.nR,A08 3 s.nB,A08 4 s.nL,A08 5 s.nU,A08 6 s.nS,A08 7 s.nT,A08 8 s.nO,.bool s.bg,A08 9 s.zA,.own 300010 0 s.zB,.own 300011 0 s.zC,.own 300012 0 a,.own 300013 0 s.zE,.own 300014 0 s.zF,.own 300015 0 s.zG]),(300000,bN 0 [.str i,iv j,iv l,iv m,.own 300016 0 c,iv 0,iv 0,iv 0,iv 0,iv 0,iv 0,iv 0,iv 0,iv 0,iv 0,iv 0,iv 0,iv 0,.own 300017 0 0,iv 0,iv 0,iv 0]),(300001,bQ 1 s.cw),(300002,bQ 1 s.cR),(300003,bQ 3 s.cB),(300004,bQ 12 s.cL),(300005,bQ 22 s.cU),(300006,bQ 9 s.cS),(300007,bQ 5 s.cT),(300008,bQ 4 s.cO),(300009,bQ 1 s.yA),(300010,bQ 1 s.yB),(300011,bQ 1 s.yC),(300012,bQ 1 b),(300013,bQ 1 s.yE),(300014,bQ 1 s.yF),(300015,bQ 1 s.yG),(300016,bQ 2 o),(300017,bQ 1 [])]⟩
def VT(F:KF R)s:∀ n,gg s (Ao (gf N F (pz 1398096) []) n)=(Ef N (P4 s F) s n):=Gv fun n e=>(Dc (N9 N (P4 s F) s) e:_)
def jc:=C8 N 64 (MO N) JB (NO fun
|[.optr 100000 0],s=>some fun _ k=>Rc N s (P4 s k)
| _,_=>none) (RZ fun _ s=>by split;intro R F;exact(Dc (Tz N (P4 s F) · s) ((lW ..).trans (VT ..)):_).trans (GM ..).symm;trivial)
def Uj(s:RB)(r0:Int->Int->O R)(r1:Lu->Int->Int->Nat->LA->O R):O R:=(Bq N s fun c d a b=>cond (!d) (r0 a b) (Mf N c fun e=>cond (!e) (Ak N 9 {s with nx:=a,er:=b} (fun f=>r0 a f)) (Ap N (s.yE.take (s.zE*1)) s.zE false true c fun g=>cond g (Ak N 10 {s with nx:=a,er:=b} (fun h=>r0 a h)) (IY N 4 fun i=>cond (decide ((s.zE:Int)>=i)) (Ak N 8 {s with nx:=a,er:=b} (fun j=>r0 a j)) (cond ((ble (s.zE+1) 140737488355328)&&(ble ((s.zE+1)*16) 140737488355328)) (r1 c a b (s.zE+1) ((s.yE.take (s.zE*1))++[.str c])) none)))))
def P5:=(Ae (@Uj R)).1
def Wy:@P5 R=@Uj R:=(Ae _).2
def VU(s:RB)(F:KF R):Lu->Int->Int->Nat->LA->O R:=fun l m n o p=>F (.str l) [(100000,bN 0 [A08 0 s.nw,iv m,iv n,iv s.th,A08 1 s.nR,A08 2 s.nB,A08 3 s.nL,A08 4 s.nU,A08 5 s.nS,A08 6 s.nT,A08 7 s.nO,.bool s.bg,A08 8 s.zA,A08 9 s.zB,.own 300010 0 s.zC,.own 300011 0 s.zD,.own 300014 0 o,.own 300012 0 s.zF,.own 300013 0 s.zG]),(300000,bQ 1 s.cw),(300001,bQ 1 s.cR),(300002,bQ 3 s.cB),(300003,bQ 12 s.cL),(300004,bQ 22 s.cU),(300005,bQ 9 s.cS),(300006,bQ 5 s.cT),(300007,bQ 4 s.cO),(300008,bQ 1 s.yA),(300009,bQ 1 s.yB),(300010,bQ 1 s.yC),(300011,bQ 1 s.yD),(300012,bQ 1 s.yF),(300013,bQ 1 s.yG),(300014,bQ 1 p)]
def ZY:=C8 N 108 [Bz N,DT N,Bo N,Bw N,DU N] pE (NO fun
|[.optr 100000 0,.int .i64 4],s=>some fun _ k=>P5 N s (Ajc s k) (VU s k)
| _,_=>none) (RZ fun _ s=>by split;intro R F;dsimp only;rw[Wy];kernel_rfl;trivial)
def X7(s:RB)(r0:Int->Int->Int->O R):O R:=(C0 N [.int .i64 1,.int .i64 1,A09,A09] false s fun a b c=>r0 a b c)
def Et:=(Ae (@X7 R)).1
def CF:@Et R=@X7 R:=(Ae _).2
def gh:=C8 N 118 [Gs N] Cs (NO fun
|[.optr 100000 0],s=>some fun _ k=>Et N s (YR s k)
| _,_=>none) (RZ fun _ s=>by split;intro R F;dsimp only;rw[CF];kernel_rfl;trivial)
def X8(s:RB)(r0:Int->Int->Nat->Nat->LA->LA->O R):O R:=(P5 N s (fun t u=>B8 N {s with nx:=t,er:=u} (fun e v w=>Aj N ([99,97,112,97,99,105,116,121]:Lu) {s with nx:=v,er:=w} (fun x y=>Et N {s with nx:=x,er:=y} (fun f z aa=>Aj N ([108,101,118,101,108]:Lu) {s with nx:=z,er:=aa} (fun ab ac=>Et N {s with nx:=ab,er:=ac} (fun g ad ae=>Et N {s with nx:=ad,er:=ae} (fun h af ag=>Aj N ([114,97,116,101]:Lu) {s with nx:=af,er:=ag} (fun ah ai=>A3 N {s with nx:=ah,er:=ai} (fun i aj ak=>A3 N {s with nx:=aj,er:=ak} (fun j al am=>Aj N ([101,102,102,105,99,105,101,110,99,121]:Lu) {s with nx:=al,er:=am} (fun an ao=>Bx N {s with nx:=an,er:=ao} (fun c ap aq=>cond ((beq c.length 2)&&((ble 9 9)&&(!false))) (cond (ble 9 ((setCells [.str ([]:Lu),.int .i64 e,.int .i64 f,.int .i64 g,.int .i64 h,.int .i64 i,.int .i64 j,A09,A09] 7 c).length)) (cond ((beq (((setCells [.str ([]:Lu),.int .i64 e,.int .i64 f,.int .i64 g,.int .i64 h,.int .i64 i,.int .i64 j,A09,A09] 7 c).take 9).length) 9)&&(ble 9 9)) (cond ((ble (s.nS+1) 140737488355328)&&(ble ((s.nS+1)*80) 140737488355328)) (r0 ap aq (s.nS+1) s.zE ((s.cS.take (s.nS*9))++((setCells [.str ([]:Lu),A09,A09,A09,A09,A09,A09,A09,A09] 0 ((setCells [.str ([]:Lu),.int .i64 e,.int .i64 f,.int .i64 g,.int .i64 h,.int .i64 i,.int .i64 j,A09,A09] 7 c).take 9)).take 9)) s.yE) none) none) none) none)))))))))))) fun l ar au a b=>B8 N {s with nx:=ar,er:=au,zE:=a,yE:=b} (fun m av aw=>Aj N ([99,97,112,97,99,105,116,121]:Lu) {s with nx:=av,er:=aw,zE:=a,yE:=b} (fun ax ay=>Et N {s with nx:=ax,er:=ay,zE:=a,yE:=b} (fun n az ba=>Aj N ([108,101,118,101,108]:Lu) {s with nx:=az,er:=ba,zE:=a,yE:=b} (fun bb bc=>Et N {s with nx:=bb,er:=bc,zE:=a,yE:=b} (fun o bd be=>Et N {s with nx:=bd,er:=be,zE:=a,yE:=b} (fun p bf bh=>Aj N ([114,97,116,101]:Lu) {s with nx:=bf,er:=bh,zE:=a,yE:=b} (fun bi bj=>A3 N {s with nx:=bi,er:=bj,zE:=a,yE:=b} (fun q bk bl=>A3 N {s with nx:=bk,er:=bl,zE:=a,yE:=b} (fun r bm bn=>Aj N ([101,102,102,105,99,105,101,110,99,121]:Lu) {s with nx:=bm,er:=bn,zE:=a,yE:=b} (fun bo bp=>Bx N {s with nx:=bo,er:=bp,zE:=a,yE:=b} (fun d bq br=>cond ((beq d.length 2)&&((ble 9 9)&&(!false))) (cond (ble 9 ((setCells [.str l,.int .i64 m,.int .i64 n,.int .i64 o,.int .i64 p,.int .i64 q,.int .i64 r,A09,A09] 7 d).length)) (cond ((beq (((setCells [.str l,.int .i64 m,.int .i64 n,.int .i64 o,.int .i64 p,.int .i64 q,.int .i64 r,A09,A09] 7 d).take 9).length) 9)&&(ble 9 9)) (cond ((ble (s.nS+1) 140737488355328)&&(ble ((s.nS+1)*80) 140737488355328)) (r0 bq br (s.nS+1) a ((s.cS.take (s.nS*9))++((setCells [.str ([]:Lu),A09,A09,A09,A09,A09,A09,A09,A09] 0 ((setCells [.str l,.int .i64 m,.int .i64 n,.int .i64 o,.int .i64 p,.int .i64 q,.int .i64 r,A09,A09] 7 d).take 9)).take 9)) b) none) none) none) none))))))))))))
def T0:=(Ae (@X8 R)).1
def CG:@T0 R=@X8 R:=(Ae _).2
def dQ(s:RB)(F:KF R):Int->Int->Nat->Nat->LA->LA->O R:=fun bs bt bu bv bw bx=>F (.tup []) [(100000,bN 0 [A08 0 s.nw,iv bs,iv bt,iv s.th,A08 1 s.nR,A08 2 s.nB,A08 3 s.nL,A08 4 s.nU,A08 5 bu,A08 6 s.nT,A08 7 s.nO,.bool s.bg,A08 8 s.zA,A08 9 s.zB,.own 300010 0 s.zC,.own 300011 0 s.zD,.own 300012 0 bv,.own 300013 0 s.zF,.own 300014 0 s.zG]),(300000,bQ 1 s.cw),(300001,bQ 1 s.cR),(300002,bQ 3 s.cB),(300003,bQ 12 s.cL),(300004,bQ 22 s.cU),(300005,bQ 9 bw),(300006,bQ 5 s.cT),(300007,bQ 4 s.cO),(300008,bQ 1 s.yA),(300009,bQ 1 s.yB),(300010,bQ 1 s.yC),(300011,bQ 1 s.yD),(300012,bQ 1 bx),(300013,bQ 1 s.yF),(300014,bQ 1 s.yG)]
def gi:=C8 N 65 [ZY N,P1 N,Gr N,gh N,Mx N,CD N] Aeo (NO fun
|[.optr 100000 0],s=>some fun _ k=>T0 N s (dQ s k)
| _,_=>none) (RZ fun _ s=>by split;intro R F;dsimp only;rw[CG];kernel_rfl;trivial)
def Uk(s:RB)(r0:Int->Int->O R)(r1:Lu->Int->Int->Nat->LA->O R):O R:=(Bq N s fun c d a b=>cond (!d) (r0 a b) (Mf N c fun e=>cond (!e) (Ak N 9 {s with nx:=a,er:=b} (fun f=>r0 a f)) (Ap N (s.yF.take (s.zF*1)) s.zF false true c fun g=>cond g (Ak N 10 {s with nx:=a,er:=b} (fun h=>r0 a h)) (IY N 5 fun i=>cond (decide ((s.zF:Int)>=i)) (Ak N 8 {s with nx:=a,er:=b} (fun j=>r0 a j)) (cond ((ble (s.zF+1) 140737488355328)&&(ble ((s.zF+1)*16) 140737488355328)) (r1 c a b (s.zF+1) ((s.yF.take (s.zF*1))++[.str c])) none)))))
def P6:=(Ae (@Uk R)).1
def Wz:@P6 R=@Uk R:=(Ae _).2
def VV(s:RB)(F:KF R):Lu->Int->Int->Nat->LA->O R:=fun l m n o p=>F (.str l) [(100000,bN 0 [A08 0 s.nw,iv m,iv n,iv s.th,A08 1 s.nR,A08 2 s.nB,A08 3 s.nL,A08 4 s.nU,A08 5 s.nS,A08 6 s.nT,A08 7 s.nO,.bool s.bg,A08 8 s.zA,A08 9 s.zB,.own 300010 0 s.zC,.own 300011 0 s.zD,.own 300012 0 s.zE,.own 300014 0 o,.own 300013 0 s.zG]),(300000,bQ 1 s.cw),(300001,bQ 1 s.cR),(300002,bQ 3 s.cB),(300003,bQ 12 s.cL),(300004,bQ 22 s.cU),(300005,bQ 9 s.cS),(300006,bQ 5 s.cT),(300007,bQ 4 s.cO),(300008,bQ 1 s.yA),(300009,bQ 1 s.yB),(300010,bQ 1 s.yC),(300011,bQ 1 s.yD),(300012,bQ 1 s.yE),(300013,bQ 1 s.yG),(300014,bQ 1 p)]
def ZZ:=C8 N 108 [Bz N,DT N,Bo N,Bw N,DU N] pE (NO fun
|[.optr 100000 0,.int .i64 5],s=>some fun _ k=>P6 N s (Ajc s k) (VV s k)
| _,_=>none) (RZ fun _ s=>by split;intro R F;dsimp only;rw[Wz];kernel_rfl;trivial)
def Hl(r0:Nat->Int->Int->LA->O R)(s:RB)(k0:Nat->Int->Int->Int->LA->O R)(a:Nat)(b c d:Int)(f:LA):O R:=(cond (decide (b<s.th)) (Fw N {s with nx:=c,er:=d} (fun g h i=>cond ((ble (a+1) 140737488355328)&&(ble ((a+1)*8) 140737488355328)) (k0 (a+1) (wrap .i64 (b+1)) h i ((f.take (a*1))++[.int .i64 g])) none)) (r0 a c d f))
def Cj(r0:Nat->Int->Int->LA->O R)(s:RB):Nat->Nat->Int->Int->Int->LA->O R
|0=>fun _ _ _ _ _=>none
|n+1=>Hl N r0 s (Cj r0 s n)
def K3(N:Nat)(r0:Nat->Int->Int->LA->O R)(q0:Nat->Int->Int->Int->LA->O R)(s:RB):O R:=(q0 0 0 s.nx s.er [])
def F3:=(Ae fun N s r0=>K3 (R:=R) N r0 (Cj N r0 s N) s).1
def Uy(s r0):(@F3 R N s r0)=(K3 N r0 (Cj N r0 s N) s):=by rw[F3,(Ae _).2]
def We:Hints:={H:=hK 2 (hS (hK 1 (hS (hP [1,5,10,11] hL) hL)) hL),nils:=[(4,1),(5,1)],modes:=[(2,1)]}
def W0:AT:=[Xz N]
def PY(F:KF R):=P9 Tryz.f60 We (W0 N) [100000,100001,100002,100003,100004,100005,100006,100007,100008,100009,100010,100011,100012,100013,100014,100015] N F
def PZ(s:RB)(K:St->O R):=fun a b c d f=>K ⟨[(1,.fn 1000109 [.optr 100000 0]),(5,A08 0 a),(10,iv s.th),(11,iv b)],[(100000,bN 0 [.own 100001 0 s.nw,iv c,iv d,iv s.th,.own 100002 0 s.nR,.own 100003 0 s.nB,.own 100004 0 s.nL,.own 100005 0 s.nU,.own 100006 0 s.nS,.own 100007 0 s.nT,.own 100008 0 s.nO,.bool s.bg,.own 100009 0 s.zA,.own 100010 0 s.zB,.own 100011 0 s.zC,.own 100012 0 s.zD,.own 100013 0 s.zE,.own 100014 0 s.zF,.own 100015 0 s.zG]),(100001,bQ 1 s.cw),(100002,bQ 1 s.cR),(100003,bQ 3 s.cB),(100004,bQ 12 s.cL),(100005,bQ 22 s.cU),(100006,bQ 9 s.cS),(100007,bQ 5 s.cT),(100008,bQ 4 s.cO),(100009,bQ 1 s.yA),(100010,bQ 1 s.yB),(100011,bQ 1 s.yC),(100012,bQ 1 s.yD),(100013,bQ 1 s.yE),(100014,bQ 1 s.yF),(100015,bQ 1 s.yG),(300000,bQ 1 f)]⟩
def G'(F:KF R)s:∀ n,PZ s (Ao (PY N F (pz 1348) []) n)=(Cj N (QZ s F) s n):=Gv fun n e=>(Dc (Hl N (QZ s F) s) e:_)
def SL:=C8 N 60 (W0 N) We (NO fun
|[.optr 100000 0,.fn 1000109 [.optr 100000 0]],s=>some fun _ k=>F3 N s (QZ s k)
| _,_=>none) (RZ fun _ s=>by split;intro R F;exact(Dc (K3 N (QZ s F) · s) ((lW ..).trans (G' ..)):_).trans (Uy ..).symm;trivial)
def GN(s:RB)(r0:Int->Int->Nat->Nat->LA->LA->O R):O R:=(P6 N s (fun i j=>B8 N {s with nx:=i,er:=j} (fun l m n=>Aj N ([105,109,112,111,114,116]:Lu) {s with nx:=m,er:=n} (fun o p=>Ch N {s with nx:=o,er:=p} (fun c q r t=>Aj N ([101,120,112,111,114,116]:Lu) {s with nx:=q,er:=r} (fun u v=>Ch N {s with nx:=u,er:=v} (fun d w x y=>Aj N ([112,114,105,99,101]:Lu) {s with nx:=w,er:=x} (fun z aa=>F3 N {s with nx:=z,er:=aa} (fun e ab ac ad=>cond ((ble (s.nT+1) 140737488355328)&&(ble ((s.nT+1)*96) 140737488355328)) (r0 ab ac (s.nT+1) s.zF ((s.cT.take (s.nT*5))++[.str ([]:Lu),.int .i64 l,.imm (t.take (c*1)) c 1 false false,.imm (y.take (d*1)) d 1 false false,.imm (ad.take (e*1)) e 1 false false]) s.yF) none)))))))) fun ae af ag a b=>B8 N {s with nx:=af,er:=ag,zF:=a,yF:=b} (fun ah ai aj=>Aj N ([105,109,112,111,114,116]:Lu) {s with nx:=ai,er:=aj,zF:=a,yF:=b} (fun ak al=>Ch N {s with nx:=ak,er:=al,zF:=a,yF:=b} (fun f am an ao=>Aj N ([101,120,112,111,114,116]:Lu) {s with nx:=am,er:=an,zF:=a,yF:=b} (fun ap aq=>Ch N {s with nx:=ap,er:=aq,zF:=a,yF:=b} (fun g ar au av=>Aj N ([112,114,105,99,101]:Lu) {s with nx:=ar,er:=au,zF:=a,yF:=b} (fun aw ax=>F3 N {s with nx:=aw,er:=ax,zF:=a,yF:=b} (fun h ay az ba=>cond ((ble (s.nT+1) 140737488355328)&&(ble ((s.nT+1)*96) 140737488355328)) (r0 ay az (s.nT+1) a ((s.cT.take (s.nT*5))++[.str ae,.int .i64 ah,.imm (ao.take (f*1)) f 1 false false,.imm (av.take (g*1)) g 1 false false,.imm (ba.take (h*1)) h 1 false false]) b) none))))))))
def Ze:=(Ae (@GN R)).1
def JC:@Ze R=@GN R:=(Ae _).2
def Oa:=Aq4 (Ue N) (SL N) (Eq.refl 60)
def jd(s:RB)(F:KF R):Int->Int->Nat->Nat->LA->LA->O R:=fun bb bc bd be bf bh=>F (.tup []) [(100000,bN 0 [A08 0 s.nw,iv bb,iv bc,iv s.th,A08 1 s.nR,A08 2 s.nB,A08 3 s.nL,A08 4 s.nU,A08 5 s.nS,A08 6 bd,A08 7 s.nO,.bool s.bg,A08 8 s.zA,A08 9 s.zB,.own 300010 0 s.zC,.own 300011 0 s.zD,.own 300012 0 s.zE,.own 300013 0 be,.own 300014 0 s.zG]),(300000,bQ 1 s.cw),(300001,bQ 1 s.cR),(300002,bQ 3 s.cB),(300003,bQ 12 s.cL),(300004,bQ 22 s.cU),(300005,bQ 9 s.cS),(300006,bQ 5 bf),(300007,bQ 4 s.cO),(300008,bQ 1 s.yA),(300009,bQ 1 s.yB),(300010,bQ 1 s.yC),(300011,bQ 1 s.yD),(300012,bQ 1 s.yE),(300013,bQ 1 bh),(300014,bQ 1 s.yG)]
def n0:=C8 N 66 [ZZ N,P1 N,Gr N,Oa N] Aeo (NO fun
|[.optr 100000 0],s=>some fun _ k=>Ze N s (jd s k)
| _,_=>none) (RZ fun _ s=>by split;intro R F;dsimp only;rw[JC];kernel_rfl;trivial)
def Ul(s:RB)(r0:Lu->Int->Int->Nat->LA->O R):O R:=(Bq N s fun c d a b=>cond (!d) (r0 ([]:Lu) a b s.zG s.yG) (Mf N c fun e=>cond (!e) (Ak N 9 {s with nx:=a,er:=b} (fun f=>r0 ([]:Lu) a f s.zG s.yG)) (Ap N (s.yG.take (s.zG*1)) s.zG false true c fun g=>cond g (Ak N 10 {s with nx:=a,er:=b} (fun h=>r0 ([]:Lu) a h s.zG s.yG)) (IY N 6 fun i=>cond (decide ((s.zG:Int)>=i)) (Ak N 8 {s with nx:=a,er:=b} (fun j=>r0 ([]:Lu) a j s.zG s.yG)) (cond ((ble (s.zG+1) 140737488355328)&&(ble ((s.zG+1)*16) 140737488355328)) (r0 c a b (s.zG+1) ((s.yG.take (s.zG*1))++[.str c])) none)))))
def P7:=(Ae (@Ul R)).1
def W1:@P7 R=@Ul R:=(Ae _).2
def VW(s:RB)(F:KF R):Lu->Int->Int->Nat->LA->O R:=fun l m n o p=>F (.str l) [(100000,bN 0 [A08 0 s.nw,iv m,iv n,iv s.th,A08 1 s.nR,A08 2 s.nB,A08 3 s.nL,A08 4 s.nU,A08 5 s.nS,A08 6 s.nT,A08 7 s.nO,.bool s.bg,A08 8 s.zA,A08 9 s.zB,.own 300010 0 s.zC,.own 300011 0 s.zD,.own 300012 0 s.zE,.own 300013 0 s.zF,.own 300014 0 o]),(300000,bQ 1 s.cw),(300001,bQ 1 s.cR),(300002,bQ 3 s.cB),(300003,bQ 12 s.cL),(300004,bQ 22 s.cU),(300005,bQ 9 s.cS),(300006,bQ 5 s.cT),(300007,bQ 4 s.cO),(300008,bQ 1 s.yA),(300009,bQ 1 s.yB),(300010,bQ 1 s.yC),(300011,bQ 1 s.yD),(300012,bQ 1 s.yE),(300013,bQ 1 s.yF),(300014,bQ 1 p)]
def Z_:=C8 N 108 [Bz N,DT N,Bo N,Bw N,DU N] pE (NO fun
|[.optr 100000 0,.int .i64 6],s=>some fun _ k=>P7 N s (VW s k)
| _,_=>none) (RZ fun _ s=>by split;intro R F;dsimp only;rw[W1];kernel_rfl;trivial)
def Mg(s:RB)(r0:Int->Int->Int->O R):O R:=(Bq N s fun d e a b=>cond (!e) (r0 0 a b) (Av N (s.yC.take (s.zC*1)) s.zC false true d fun c=>cond (decide (c<0)) (Ak N 12 {s with nx:=a,er:=b} (fun f=>r0 0 a f)) (r0 c a b)))
def Jb:=(Ae (@Mg R)).1
def Ob:@Jb R=@Mg R:=(Ae _).2
def VX:=C8 N 110 [Bz N,Ee N,Bo N] Cs (NO fun
|[.optr 100000 0,.int .i64 2],s=>some fun _ k=>Jb N s (YR s k)
| _,_=>none) (RZ fun _ s=>by split;intro R F;dsimp only;rw[Ob];kernel_rfl;trivial)
def Mh(s:RB)(r0:Int->Int->Int->O R):O R:=(Bq N s fun d e a b=>cond (!e) (r0 0 a b) (Av N (s.yD.take (s.zD*1)) s.zD false true d fun c=>cond (decide (c<0)) (Ak N 12 {s with nx:=a,er:=b} (fun f=>r0 0 a f)) (r0 c a b)))
def Jc:=(Ae (@Mh R)).1
def Oc:@Jc R=@Mh R:=(Ae _).2
def VY:=C8 N 110 [Bz N,Ee N,Bo N] Cs (NO fun
|[.optr 100000 0,.int .i64 3],s=>some fun _ k=>Jc N s (YR s k)
| _,_=>none) (RZ fun _ s=>by split;intro R F;dsimp only;rw[Oc];kernel_rfl;trivial)
end
end Gx
