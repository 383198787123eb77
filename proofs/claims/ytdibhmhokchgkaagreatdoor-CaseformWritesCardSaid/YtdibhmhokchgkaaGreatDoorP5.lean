/- A part of the proof; each theorem says what it holds. -/
import Derived.Test.YtdibhmhokchgkaaGreatDoorRows
import Derived.ChangeSame
import Derived.Test.YtdibhmhokchgkaaGreatDoorP4
set_option linter.unusedVariables false
set_option linter.defProp false
set_option linter.unusedSimpArgs false
open Nat (ble beq)
open List (take drop replicate)
open Go.IntKind (wrap)
namespace Gx.Ct
open Go Go.Proofs Gx.Cf
section
variable{R:Type}{N:Nat}
def A1x(c:CaseD):(c.lines.l.map EW).map LineD.name=D5 c:=fg (f:=LineD.name) (re:=EW) (fun _=>rfl) c.lines.l
def A1y(c:CaseD):(c.units.l.map Acy).map UnitD.name=Di c:=fg (f:=UnitD.name) (re:=Acy) (fun _=>rfl) c.units.l
def A2e(c:CaseD)(p:List UnitD):Rd:=⟨true,c.hours,c.reserve.l,c.buses.l.map Acx,c.lines.l.map EW,p.map Acy,[],[],[]⟩
def Aua{c:CaseD}(m:fit 2000 N)(hN:1000000000<N)(hB:iK c)(hn:(c.units.l.map UnitD.name).Nodup)(n:∀ u∈c.units.l,A1 u.name=true/\(0<=u.bus/\u.bus<(c.buses.l.length:Int))/\(∀ z∈ff u,smallI z)/\(∀ z∈u.away.l,smallI z)/\(u.state=0\/u.state=1\/u.state=2)/\(∀ g∈u.segs.l,smallI g.width/\smallI g.price)/\u.segs.l.length<=1000000/\(Ps (Ci c) u).length<=2000000)(D:c.units.l.length<=16):Chain N R (A2e c []) (c.units.l.map (Ps (Ci c))) (A2e c c.units.l):=by
 refine Vk c.units.l [] fun p a q e _=>?_
 rw[A9t]at e
 obtain⟨s,t,w3,v,x,y,A,B⟩:=n a (by rw[e];simp)
 have j:p.length<c.units.l.length:=by rw[e];simp
 have eb:(A2e c p).bs.map BusD.name=Ci c:=fi c
 have k:(A2e c p).bs.length=c.buses.l.length:=A85 _
 skip
 have:=Ayo (R:=R) (d:=A2e c p) m hN rfl s (by show a.name∉(p.map Acy).map UnitD.name;rw[fg (f:=UnitD.name) (re:=Acy) (fun _=>rfl)];exact IR hn e) (by show(p.map Acy).length<16;rw[A85];omega) (by rw[eb];exact hB.1) (by rw[k];have:=hB.2;omega) (by rw[k];exact t) w3 v x y A (by rw[eb];exact B)
 rw[eb]at this
 have C:A2e c (p++[a])={A2e c p with us:=(A2e c p).us++[Acy a]}:=by simp[A2e]
 rw[C];exact this
def Km(c:CaseD)(p:List StoreD):Rd:=⟨true,c.hours,c.reserve.l,c.buses.l.map Acx,c.lines.l.map EW,c.units.l.map Acy,p,[],[]⟩
def Aqu{c:CaseD}(k:fit 2000 N)(hN:1000000000<N)(hB:iK c)(hn:(c.stores.l.map StoreD.name).Nodup)(m:∀ u∈c.stores.l,A1 u.name=true/\(0<=u.bus/\u.bus<(c.buses.l.length:Int))/\smallI u.capacity/\smallI u.initial/\smallI u.final/\smallI u.charge/\smallI u.discharge/\J7 u.eff/\(Kk (Ci c) u).length<=2000000)(C:c.stores.l.length<=8):Chain N R (Km c []) (c.stores.l.map (Kk (Ci c))) (Km c c.stores.l):=by
 refine Vk c.stores.l [] fun p a q e _=>?_
 rw[A9t]at e
 obtain⟨n,s,w3,t,v,x,y,z,A⟩:=m a (by rw[e];simp)
 have f:p.length<c.stores.l.length:=by rw[e];simp
 have eb:(Km c p).bs.map BusD.name=Ci c:=fi c
 have j:(Km c p).bs.length=c.buses.l.length:=A85 _
 skip
 have:=At8 (R:=R) (d:=Km c p) k hN rfl n (by show a.name∉p.map StoreD.name;exact IR hn e) (by show p.length<8;omega) (by rw[eb];exact hB.1) (by rw[j];have:=hB.2;omega) (by rw[j];exact s) w3 t v x y z (by rw[eb];exact A)
 rw[eb]at this
 have B:Km c (p++[a])={Km c p with ss:=(Km c p).ss++[a]}:=by simp[Km]
 rw[B];exact this
def A2f(c:CaseD)(p:List TieD):Rd:=⟨true,c.hours,c.reserve.l,c.buses.l.map Acx,c.lines.l.map EW,c.units.l.map Acy,c.stores.l,p.map Aqn,[]⟩
def Ayr{c:CaseD}(s:fit 2000 N)(hN:1000000000<N)(hB:iK c)(A:1<=c.hours/\c.hours<=24)(hn:(c.ties.l.map TieD.name).Nodup)(u:∀ t∈c.ties.l,A1 t.name=true/\(0<=t.bus/\t.bus<(c.buses.l.length:Int))/\kM c t.imp/\kM c t.exp/\kM c t.price/\(GK (Ci c) t).length<=2000000)(B:c.ties.l.length<=8):Chain N R (A2f c []) (c.ties.l.map (GK (Ci c))) (A2f c c.ties.l):=by
 refine Vk c.ties.l [] fun p a q e _=>?_
 rw[A9t]at e
 obtain⟨v,x,w3,j,k,y⟩:=u a (by rw[e];simp)
 have m:p.length<c.ties.l.length:=by rw[e];simp
 have eb:(A2f c p).bs.map BusD.name=Ci c:=fi c
 have n:(A2f c p).bs.length=c.buses.l.length:=A85 _
 skip
 have:=A1w (R:=R) (d:=A2f c p) s hN rfl v (by show a.name∉(p.map Aqn).map TieD.name;rw[fg (f:=TieD.name) (re:=Aqn) (fun _=>rfl)];exact IR hn e) (by show(p.map Aqn).length<8;rw[A85];omega) (by rw[eb];exact hB.1) (by rw[n];have:=hB.2;omega) (by rw[n];exact x) ⟨w3.1,by have:=w3.1;omega,w3.2⟩ ⟨j.1,by have:=j.1;omega,j.2⟩ ⟨k.1,by have:=k.1;omega,k.2⟩ (by rw[eb];exact y)
 rw[eb]at this
 have z:A2f c (p++[a])={A2f c p with ts:=(A2f c p).ts++[Aqn a]}:=by simp[A2f]
 rw[z];exact this
def Aub(c:CaseD)(p:List OutD):Rd:=⟨true,c.hours,c.reserve.l,c.buses.l.map Acx,c.lines.l.map EW,c.units.l.map Acy,c.stores.l,c.ties.l.map Aqn,p.map Alt⟩
def Aln{c:CaseD}(k:fit 2000 N)(hN:1000000000<N)(hB:iK c)(hU:(Di c).Nodup/\c.units.l.length<=16)(hL:(D5 c).Nodup/\c.lines.l.length<=64/\Cr∉D5 c)(hn:(c.outs.l.map OutD.name).Nodup)(n:∀ o∈c.outs.l,A1 o.name=true/\(o.corr||o.moves.l.isEmpty)=true/\(∀ m∈o.moves.l,(0<=m.unit/\m.unit<(c.units.l.length:Int))/\smallI m.up/\smallI m.down)/\o.moves.l.length<=1000000/\(∀ i∈o.lines.l,0<=i/\i<(c.lines.l.length:Int))/\o.lines.l.length<=1000000/\(U3 (D5 c) (Di c) o).length<=2000000)(A:c.outs.l.length<=64):Chain N R (Aub c []) (c.outs.l.map (U3 (D5 c) (Di c))) (Aub c c.outs.l):=by
 refine Vk c.outs.l [] fun p a q e _=>?_
 rw[A9t]at e
 obtain⟨s,t,w3,u,v,x,y⟩:=n a (by rw[e];simp)
 have j:p.length<c.outs.l.length:=by rw[e];simp
 have eb:(Aub c p).bs.map BusD.name=Ci c:=fi c
 have B:(Aub c p).bs.length=c.buses.l.length:=A85 _
 have eu:(Aub c p).us.map UnitD.name=Di c:=A1y c
 have eL:(Aub c p).ls.map LineD.name=D5 c:=A1x c
 have eul:(Aub c p).us.length=c.units.l.length:=A85 _
 have ell:(Aub c p).ls.length=c.lines.l.length:=A85 _
 have:=Aqt (R:=R) (d:=Aub c p) k hN rfl s (by show a.name∉(p.map Alt).map OutD.name;rw[fg (f:=OutD.name) (re:=Alt) (fun _=>rfl)];exact IR hn e) (by show(p.map Alt).length<64;rw[A85];omega) (by rw[eu];exact hU.1) (by rw[eul];have:=hU.2;omega) (by rw[eL];exact hL.1) (by rw[ell];have:=hL.2.1;omega) (by rw[eL];exact hL.2.2) t (by rw[eul];exact w3) u (by rw[ell];exact v) x (by rw[eL,eu];exact y)
 rw[eL,eu]at this
 have z:Aub c (p++[a])={Aub c p with os:=(Aub c p).os++[Alt a]}:=by simp[Aub]
 rw[z];exact this
structure GoodC(c:CaseD):Prop where
 hh:1<=c.hours/\c.hours<=24
 hr:kM c c.reserve
 hB:iK c
 hL:(D5 c).Nodup/\c.lines.l.length<=64/\Cr∉D5 c
 hU:(Di c).Nodup/\c.units.l.length<=16
 hS:(Y0 c).Nodup/\c.stores.l.length<=8
 hT:(rM c).Nodup/\c.ties.l.length<=8
 hO:(rN c).Nodup/\c.outs.l.length<=64
 gB:∀ b∈c.buses.l,A1 b.name=true/\kM c b.demand/\smallI b.shed
 gL:∀ l∈c.lines.l,A1 l.name=true/\(0<=l.fr/\l.fr<(c.buses.l.length:Int))/\(0<=l.tl/\l.tl<(c.buses.l.length:Int))/\(J7 l.re/\J7 l.smin/\J7 l.smax)/\smallI l.limit/\smallI l.emer/\(∀ z∈l.away.l,smallI z)/\(Vp (Ci c) l).length<=2000000
 gU:∀ u∈c.units.l,A1 u.name=true/\(0<=u.bus/\u.bus<(c.buses.l.length:Int))/\(∀ z∈ff u,smallI z)/\(∀ z∈u.away.l,smallI z)/\(u.state=0\/u.state=1\/u.state=2)/\(∀ g∈u.segs.l,smallI g.width/\smallI g.price)/\u.segs.l.length<=1000000/\(Ps (Ci c) u).length<=2000000
 gS:∀ u∈c.stores.l,A1 u.name=true/\(0<=u.bus/\u.bus<(c.buses.l.length:Int))/\smallI u.capacity/\smallI u.initial/\smallI u.final/\smallI u.charge/\smallI u.discharge/\J7 u.eff/\(Kk (Ci c) u).length<=2000000
 gT:∀ t∈c.ties.l,A1 t.name=true/\(0<=t.bus/\t.bus<(c.buses.l.length:Int))/\kM c t.imp/\kM c t.exp/\kM c t.price/\(GK (Ci c) t).length<=2000000
 gO:∀ o∈c.outs.l,A1 o.name=true/\(o.corr||o.moves.l.isEmpty)=true/\(∀ m∈o.moves.l,(0<=m.unit/\m.unit<(c.units.l.length:Int))/\smallI m.up/\smallI m.down)/\o.moves.l.length<=1000000/\(∀ i∈o.lines.l,0<=i/\i<(c.lines.l.length:Int))/\o.lines.l.length<=1000000/\(U3 (D5 c) (Di c) o).length<=2000000
def A7z:Rd:=⟨false,0,[],[],[],[],[],[],[]⟩
def QX(c:CaseD):CaseD:=⟨c.hours,A2d c.reserve,.of (c.buses.l.map Acx) false false,.of (c.lines.l.map EW) false false,.of (c.units.l.map Acy) false false,.of c.stores.l false false,.of (c.ties.l.map Aqn) false false,.of (c.outs.l.map Alt) false false⟩
def Ays{c:CaseD}(f:fit 2000 N)(hN:1000000000<N)(g:GoodC c):Chain N R A7z (CH c) (Aub c c.outs.l):=by
 refine .cons (e:=RL c []) (Ayp (R:=R) (d:=A7z) f hN rfl g.hh.1 g.hh.2 g.hr.1 g.hr.2) ?_
 refine UK (Ayq f hN g.hh g.hB.1 g.gB g.hB.2) ?_
 refine UK (e:=Bh c c.lines.l) (At9 f hN g.hB g.hL.1 g.gL g.hL.2.1) ?_
 refine UK (e:=A2e c c.units.l) (Aua f hN g.hB g.hU.1 g.gU g.hU.2) ?_
 refine UK (e:=Km c c.stores.l) (Aqu f hN g.hB g.hS.1 g.gS g.hS.2) ?_
 refine UK (e:=A2f c c.ties.l) (Ayr f hN g.hB g.hh g.hT.1 g.gT g.hT.2) ?_
 exact Aln f hN g.hB g.hU g.hL g.hO.1 g.gO g.hO.2
def UL{α:Type}{e:α->LA}{sz:Nat}(d:∀ a,(e a).length=sz)(l:List α):(AV.imm (take (l.length*sz) (l.flatMap e)) l.length sz false false)=Sl.av sz e (.of l false false):=by rw[A80 (by rw[DL d];exact A86 _)];rfl
def A3n{c:CaseD}{K:LA->Int->Int->O R}{fuel:Nat}{rem:Lu}{u:Int}{nw:Nat}{nx:Int}{cw:LA}:pq N K (Aub c c.outs.l) (fuel+1) rem u false nw nx cw=K (QX c).av 0 0:=by
 unfold pq
 rw[Ln];unfold Sv
 rw[cf]
 rw[DO,UL Ir,UL Cm,UL Ft,UL Fk,UL H2,UL Dd]
 rfl
def A1z{c:CaseD}{L:List Lu}{e:Lu}{K:LA->Int->Int->O R}(j:fit 2000 N)(hN:1000000000<N)(g:GoodC c)(s:Says N R L (CH c))(f:(10:UInt8)∉e)(d:O4 N R e [])(k:(txt L e).length<=1048576):UD N (txt L e) K=K (QX c).av 0 0:=by
 rw[qI];unfold iG
 rw[show decide ((((txt L e).length:Nat):Int)>1048576)=false from decide_eq_false (by omega),cf]
 show pq N K A7z N (txt L e) 0 true 0 0 []=_
 have hL:=Av3 L e
 obtain⟨n,hn⟩:∃ n,N=(n+1+1)+L.length:=⟨N - L.length - 2,by omega⟩
 have main:=A1u (R:=R) (N:=N) (K:=K) (e:=e) (A3m s (Ays j hN g)) (fuel:=n+1+1) (v:=0) (nw:=0) (nx:=0) (cw:=[]) (Y:=K (QX c).av 0 0) (by omega) (by omega) fun m x q =>
  Aqr (A3l f) (by
   have:e.length<=(txt L e).length:=by
    clear hL hn k d f s
    induction L with
    |nil=>exact A86 _
    |cons l L t=>rw[txt,A8y,A83];omega
   omega) d A3n
 rw[<-hn]at main
 exact main
end
end Gx.Ct
namespace Gx.Ct
open Go Go.Proofs Gx.Cf
def Auc{z:Int}(h:DY z=false):smallI z:=by unfold DY at h;simp only[Baj,decide_eq_false_iff_not]at h;unfold smallI;omega
def xM{f:FracD}(h:Pu f=false):J7 f:=by
 unfold Pu at h;simp only[Baj,decide_eq_false_iff_not]at h
 have:=Auc h.1;unfold J7 smallI at *;omega
def YK{α:Type}{p:α->Bool}{l:List α}(h:l.any p=false):∀ x∈l,p x=false:=fun x hx=>by rw[Bbq]at h;simpa using h x hx
def BX{l:List Int}(h:Bf l=false):∀ z∈l,smallI z:=fun z d=>Auc (YK h z d)
def Aqv:∀ r:List Ar,(∀ w∈r,w≠[])->2*r.length<=(r.flatMap (32::·)).length
|[],_=>by simp
|w::r,h=>by
  have:=Aqv r fun x hx=>h x (by simp[hx])
  have d:w.length≠0:=fun e=>h w (by simp) (Bbr.1 e)
  rw[A9o,A8y,A83,A83];omega
def A10{ws:List Ar}(h:Ai7 ws):2*ws.length<=(Wp ws).length:=by
 obtain⟨w,r,rfl,d,f⟩:=h
 have:=Aqv r fun x hx=>(f x hx).1
 have j:w.length≠0:=fun e=>d.1 (Bbr.1 e)
 rw[Wp,Y1,A8y,A8y,A83,A94];omega
def A3o{W:List (List Ar)}{ws:List Ar}(h:ws∈W):(Wp ws).length<=(W.flatMap Wp).length:=by
 obtain⟨a,b,rfl⟩:=Bdr h
 rw[Ba6,A9o,A8y,A8y];omega
def A11{s:Ar}(h:A1 s=true):s≠Cr:=fun e=>by rw[e]at h;revert h;decide
structure Acc(c:CaseD):Prop where
 i:CaseI 20000000000000 c
 n:K3 c=true
 h:1<=c.hours/\c.hours<=24
 s:NE c=true
 nm:∀ l∈Cz c,(∀ s∈l,A1 s=true)/\l.Nodup
 k:Tb c=true
 m:Wr c=true
 b:Sa c=false
 l:(FF c).length<=1048576
def A5k{c:CaseD}(h:Acc c):i_ c=0:=by
 have f:Ta c=0:=by
  unfold Ta
  rw[if_pos (by simp only[A9b];exact fun l d=>(h.nm l d).1),if_neg]
  rw[Bool.not_eq_true,Bbq]
  intro l d
  have key:∀(r seen:List Ar),r.Nodup->(∀ w∈r,w∉seen)->Hn seen r=false:=by
   intro r
   induction r with
   |nil=>intro _ _ _;rfl
   | cons w r j =>
    intro seen hn hs
    rw[A96]at hn
    rw[Hn,j (seen++[w]) hn.2 fun x hx e=>by
     rcases A87.1 e with q|q
     ·exact hs x (by simp[hx]) q
     ·rw[Bbb.1 q] at hx;exact hn.1 hx]
    have:=hs w (by simp)
    simpa using this
  rw[key l [] (h.nm l d).2 fun _ _ e=>by cases e];decide
 have:=h.h
 unfold i_
 rw[if_neg (by rw[h.n];decide),if_neg (by omega),if_neg (by rw[h.s];decide),if_neg (by rw[f];decide),if_neg (by rw[h.k];decide),if_neg (by rw[h.m];decide),if_neg (by rw[h.b];decide),if_neg (by have:=h.l;omega)]
def fj{i:Int}{n:Nat}(h:Kf i n=true):0<=i/\i<(n:Int):=by unfold Kf at h;simpa using h
def A12{c:CaseD}(a:Acc c):GoodC c:=by
 have v:=a.k;have hs:=a.s;have hn:=a.n;have x:=a.b;have f:=a.m
 unfold Tb at v;unfold NE at hs;unfold K3 at hn;unfold Sa at x;unfold Wr at f
 simp only[A81,A9b,decide_eq_true_eq,Baj]at v hs hn x
 rw[A9b]at f
 obtain⟨M,S,X,Y,T⟩:=v
 obtain⟨s1,s2,s3⟩:=hs
 obtain⟨n1,n2,n3,n4,n5,n6⟩:=hn
 obtain⟨b0,b1,b2,b3,b4,b5,b6,b7⟩:=x
 have hN:∀ l∈Cz c,(∀ s∈l,A1 s=true)/\l.Nodup:=a.nm
 have pB:=hN (Ci c) (by simp[Cz])
 have pL:=hN (D5 c) (by simp[Cz])
 have pU:=hN (Di c) (by simp[Cz])
 have pS:=hN (Y0 c) (by simp[Cz])
 have pT:=hN (rM c) (by simp[Cz])
 have pO:=hN (rN c) (by simp[Cz])
 have sh:∀{l:Sl Int},WB c l=true->Bf l.l=false->kM c l:=fun y U=>⟨by unfold WB at y;simpa using y,BX U⟩
 have len:∀ ws∈CH c,ws.length<=524288:=fun ws V=>by
  have y:=A10 ((Passed.mk a.i Avu (fun l hl=>(hN l hl).1) a.k).lines ws V)
  have U:=A3o V
  have h3:=a.l
  unfold FF at h3
  omega
 refine⟨a.h,sh s1 b1,⟨pB.2,n1⟩,⟨pL.2,n2,fun h=>A11 (pL.1 _ h) rfl⟩,⟨pU.2,n3⟩,⟨pS.2,n4⟩,⟨pT.2,n5⟩,⟨pO.2,n6⟩,fun b h=>?_,fun l h=>?_,fun u h=>?_,fun u h=>?_,fun t h=>?_,fun o h=>?_⟩
 ·have q:=YK b2 b h
  unfold rO at q
  rw[Baj]at q
  exact⟨pB.1 _ (A95 h),sh (s2 b h) q.1,Auc q.2⟩
 ·have q:=YK b3 l h
  unfold ND at q
  simp only[Baj]at q
  obtain⟨d,A,B,C,D⟩:=q
  have j:=BX C
  refine⟨pL.1 _ (A95 h),fj (M l h).1,fj (M l h).2,⟨xM d,xM A,xM B⟩,j _ (by simp),j _ (by simp),BX D,?_⟩
  have:=len (Vp (Ci c) l) (by unfold CH;simp only[A88,A87];exact .inr (.inr (.inl (A95 h))))
  omega
 ·have q:=YK b4 u h
  unfold GL at q
  simp only[Baj]at q
  obtain⟨d,A,B,C,D⟩:=q
  have F:=BX d;have G:=BX B;have I:=BX D
  have ln:=len (Ps (Ci c) u) (by unfold CH;simp only[A88,A87];exact .inr (.inr (.inr (.inl (A95 h)))))
  have sl:u.segs.l.length<=(Ps (Ci c) u).length:=by
   have e:(u.segs.l.flatMap Adt).length=u.segs.l.length*2:=by
    induction u.segs.l with
    |nil=>rfl
    |cons a r L=>rw[A9o,A8y,L,A83];show 2+_=_;omega
   unfold Ps;simp only[A8y,e];omega
  refine⟨pU.1 _ (A95 h),fj (S u h).1,fun z hz=>?_,BX C,?_,fun g hg=>?_,by omega,by omega⟩
  ·rcases A87.1 (show z∈[u.min,u.max]++([u.noLoad,u.rampUp,u.rampDown,u.startRamp,u.stopRamp,u.upTime,u.downTime,u.startTime,u.hotCost,u.coldCost,u.hotHours,u.reserve,u.reservePrice]++[u.hours,u.output])from hz)with q|q
   ·exact F z q
   ·rcases A87.1 q with q|q
    ·exact G z q
    ·exact I z q
  ·have:=fj (S u h).2;omega
  ·have:=BX (YK A g hg)
   exact⟨this _ (by simp),this _ (by simp)⟩
 ·have q:=YK b5 u h
  unfold Wq at q
  rw[Baj]at q
  have d:=BX q.1
  have ln:=len (Kk (Ci c) u) (by unfold CH;simp only[A88,A87];exact .inr (.inr (.inr (.inr (.inl (A95 h))))))
  exact⟨pS.1 _ (A95 h),fj (X u h),d _ (by simp),d _ (by simp),d _ (by simp),d _ (by simp),d _ (by simp),xM q.2,by omega⟩
 ·have q:=YK b6 t h
  unfold PY at q
  simp only[Baj]at q
  have ln:=len (GK (Ci c) t) (by unfold CH;simp only[A88,A87];exact .inr (.inr (.inr (.inr (.inr (.inl (A95 h)))))))
  have s:=s3 t h
  exact⟨pT.1 _ (A95 h),fj (Y t h),sh s.1 q.1,sh s.2.1 q.2.1,sh s.2.2 q.2.2,by omega⟩
 ·have q:=YK b7 o h
  unfold DZ at q
  have ln:=len (U3 (D5 c) (Di c) o) (by unfold CH;simp only[A88,A87];exact .inr (.inr (.inr (.inr (.inr (.inr (A95 h)))))))
  have ml:o.moves.l.length<=(U3 (D5 c) (Di c) o).length/\o.lines.l.length<=(U3 (D5 c) (Di c) o).length:=by
   have e:(o.moves.l.flatMap (NC (Di c))).length=o.moves.l.length*3:=by
    induction o.moves.l with
    |nil=>rfl
    |cons a r L=>rw[A9o,A8y,L,A83];show 3+_=_;omega
   unfold U3;simp only[A8y,e,A85];omega
  refine⟨pO.1 _ (A95 h),f o h,fun m f=>?_,by omega,fun i hi=>fj ((T o h).1 i hi),by omega,by omega⟩
  have:=BX (YK q m f)
  exact⟨fj ((T o h).2 m f),this _ (by simp),this _ (by simp)⟩
end Gx.Ct
namespace Gx.Ct
open Go Go.Proofs Gx.Cf
def Alo{c:UInt8}(h:45<=c.toNat/\c.toNat<=122):Afe c=false/\c≠10/\c≠35/\c.toNat<128:=by
 have ne:∀ k:UInt8,k.toNat<45->c≠k:=fun k d e=>by rw[e]at h;omega
 refine⟨?_,ne 10 (by decide),ne 35 (by decide),by omega⟩
 unfold Afe
 rw[beq_eq_false_iff_ne.2 (ne 32 (by decide)),beq_eq_false_iff_ne.2 (ne 9 (by decide)),beq_eq_false_iff_ne.2 (ne 13 (by decide))];rfl
def wIn(w:Ar):Prop:=w≠[]/\∀ c∈w,45<=c.toNat/\c.toNat<=122
def wIn.ok{w:Ar}(h:wIn w):A7y w:=⟨h.1,fun c d=>Alo (h.2 c d)⟩
def A5l (n:Nat):wIn (dec n):=⟨Acp n,fun c d=>by
 have:=A9b.1 (pv n) c d
 unfold Eh at this
 simp only[A81,decide_eq_true_eq]at this
 omega⟩
def wIn.cons {c:UInt8} {w:Ar} (h:45<=c.toNat/\c.toNat<=122) (d:∀ c ∈ w,45<=c.toNat/\c.toNat<=122):wIn (c::w):=⟨by simp,fun x hx=>by
 rcases A88.1 hx with rfl|hx
 ·exact h
 ·exact d x hx⟩
def A13(z:Int):wIn (tx z):=by
 rw[BU];unfold Ali At2
 have d:=A5l z.natAbs
 split
 ·exact .cons (by decide) d.2
 ·exact d
def A3p(f:FracD):wIn (Oo f):=by
 have e:=A13 f.num
 have j:=A13 f.den
 refine⟨by unfold Oo;simp,fun c d=>?_⟩
 unfold Oo at d
 rcases A87.1 d with h|h
 ·exact e.2 c h
 ·rcases A88.1 h with rfl|h
  ·decide
  ·exact j.2 c h
def A6s{w:Ar}(h:A5z w=true):wIn w:=by
 unfold A5z at h
 simp only[A81,decide_eq_true_eq,A9b]at h
 refine⟨h.1,fun c d=>?_⟩
 have:=h.2.2 c d
 unfold V_ at this
 simp only[A81,decide_eq_true_eq]at this
 omega
def A3q{s:Ar}(h:A1 s=true):wIn s:=by
 unfold A1 at h
 simp only[A81,decide_eq_true_eq,A9b]at h
 obtain⟨d,_,_,_,f⟩:=h
 refine⟨fun e=>by rw[e]at d;simp at d,fun c j=>?_⟩
 have:=f c j
 unfold Aw5 V_ at this
 simp only[A81,Bb8,decide_eq_true_eq]at this
 omega
def A5m{c:CaseD}(a:Acc c):∀ ws∈CH c,ws≠[]/\∀ x∈ws,wIn x:=ye a.i (fun z _=>A13 z) (fun f _ _=>A3p f) (fun _ h=>A6s h) (fun l d s hs=>A3q ((a.nm l d).1 s hs)) a.k
def Av4:∀(l:List Ar)(w:Ar),(∀ x∈w::l,A7y x)->fw (w++l.flatMap (32::·)) []=w::l
|[],w,h=>by
  have d:=h w (by simp)
  rw[Bbn,Alm w [] [] fun c e=>(d.2 c e).1,A9t,fw,if_neg d.1]
|v::r,w,h=>by
  have f:=Av4 r v fun x hx=>h x (A9r _ hx)
  have d:=h w (by simp)
  rw[A9o,A9k]
  exact(A3k (s:=[32]) (r:=v++r.flatMap (32::·)) d (by simp) (by decide)).trans (by rw[f])
def A5n{s:Lu}(h:∀ c∈s,c≠35):Aym s=s:=by
 have:=Av1 s [] h
 rw[A9g,Aym,A9g]at this
 exact this
section
variable{R:Type}{N:Nat}
def Av5{ws:List Ar}(e:∀ x∈ws,wIn x):∀ c∈dB ws,c≠10/\c≠35/\c.toNat<128:=by
 have sp:∀ l:List Ar,(∀ x∈l,wIn x)->∀ c∈l.flatMap (32::·),c≠10/\c≠35/\c.toNat<128:=fun l f c d=>by
  obtain⟨x,hx,d⟩:=Bce.1 d
  rcases A88.1 d with rfl|d
  ·decide
  ·exact(Alo ((f x hx).2 c d)).2
 cases ws with
|nil=>intro c d;cases d
|cons w r =>
  intro c d
  rw[Y1]at d
  rcases A87.1 d with h|h
  ·exact(Alo ((e w (by simp)).2 c h)).2
  ·exact sp r (fun x hx=>e x (by simp[hx])) c h
def Aud{ws:List Ar}(hN:1000000000<N)(h0:ws≠[])(d:∀ x∈ws,wIn x)(f:(dB ws).length<=1048576):O4 N R (dB ws) ws:=by
 have e:=Av5 d
 have:=Aqs (R:=R) (N:=N) (fun c h=>(e c h).2.2) f hN
 rw[A5n fun c h=>(e c h).2.1]at this
 cases ws with
|nil=>exact absurd rfl h0
|cons w r=>rw[Y1]at this ⊢;rw[Av4 r w fun x hx=>(d x hx).ok]at this;exact this
def Ahf(hN:1000000000<N):∀ W:List (List Ar),(∀ ws∈W,ws≠[]/\∀ x∈ws,wIn x)->(W.flatMap Wp).length<=1048576->Says N R (W.map dB) W
|[],_,_=>.nil
|ws::W,h,e=>by
  rw[A9o,A8y]at e
  obtain⟨f,d⟩:=h ws (by simp)
  have k:(dB ws).length<=(Wp ws).length:=by unfold Wp;rw[A8y];omega
  exact .stmt (fun j=>(Av5 d 10 j).1 rfl) (Aud hN f d (by omega)) (Ahf hN W (fun x hx=>h x (by simp[hx])) (by omega))
def Ac0:∀ W:List (List Ar),txt (W.map dB) []=W.flatMap Wp
|[]=>rfl
|ws::W=>by rw[A9a,txt,Ac0 W,A9o];unfold Wp;simp
def Aue(hN:1000000000<N):O4 N R [] []:=Aqs (s:=[]) (fun _ h=>by cases h) (by decide) hN
def Auf{c:CaseD}{K:LA->Int->Int->O R}(d:fit 2000 N)(hN:1000000000<N)(a:Acc c):UD N (FF c) K=K (QX c).av 0 0:=by
 have s:=Ahf (R:=R) hN (CH c) (A5m a) a.l
 have:=A1z (K:=K) d hN (A12 a) s (e:=[]) (by simp) (Aue hN) (by rw[Ac0];exact a.l)
 rw[Ac0]at this
 exact this
end
end Gx.Ct
namespace Gx.Cf
open Go Go.Proofs
section
variable{R:Type}
def Uv{ok:Bool}{w:Int×Int×Int}{e:{e:Int // e≠0}}(h:ok=true):nd none ok w e=none:=by rw[h];rfl
def MF{α:Type}{f:Nat->α->C7->C7}:∀(l:List α)(j:Nat),(∀ i (h:i<l.length),f (j+i) l[i] none=none)->Bc f l j none=none
|[],_,_=>rfl
|a::r,j,h=>by
  rw[Bc]
  have h0:=h 0 (by simp)
  simp only[Ban,List.getElem_cons_zero]at h0
  rw[h0]
  exact MF r (j+1) (fun i hi=>by have:=h (i+1) (by simpa using hi);rw[show j+1+i=j+(i+1) by omega];simpa using this)
def Alp:∀ i,i<16->∀ j,j<16->A7q.getD i 0=A7q.getD j 0->i=j:=by decide
def mD:∀ i,i<16->A1 [98,A7q.getD i 0]=true/\A1 [108,A7q.getD i 0]=true/\A1 [117,A7q.getD i 0]=true/\A1 [111,A7q.getD i 0]=true:=by decide
def UM{names:List Lu}{k:Int}{i:Nat}{s:Lu}(d:A1 s=true)(e:∀ x∈names.take i,x≠s):Kg (names.take i) k i s none=none:=by
 unfold Kg
 rw[Uv d,Uv]
 rw[A9b]
 intro x hx
 have:=e x hx
 simpa using this
def qL{α β:Type}{f:α->β}{l:List α}{i:Nat}{x:β}(h:x∈(l.map f).take i):∃ j,∃(d:j<l.length),j<i/\x=f l[j]:=by
 obtain⟨j,d,rfl⟩:=A9n h
 have e:j<i/\j<l.length:=by simp at d;omega
 exact⟨j,e.2,e.1,by simp⟩
def qM{H:Nat}{l:List Int}{lo hi:Int}{w:Int×Int×Int}(d:l.length=H)(e:∀ x∈l,lo<=x/\x<=hi):ZG (H:Int) l lo hi w none=none:=by
 unfold ZG
 rw[Uv (by simp[d]),Uv]
 rw[A9b];intro x hx;exact Gy (e x hx)
def Av6{H:Nat}{l:List Int}{w:Int×Int×Int}(hH:1<=H/\H<=3)(d:l.length<=1)(e:∀ x∈l,0<=x/\x<(H:Int)):SA (H:Int) l w none=none:=by
 unfold SA
 rw[Rr (by omega),Uv,Uv]
 ·match l,d with
  |[],_=>exact mw
  |[a],_=>exact VY a
 ·rw[A9b];intro x hx;have:=e x hx;exact Gy (by omega)
structure OutV(nl nu:Nat)(x:OutD):Prop where
 ll:x.lines.l.length=1\/x.lines.l.length=2
 lr:∀ y∈x.lines.l,0<=y/\y<(nl:Int)
 la:gM x.lines.l=true
 ml:x.moves.l.length<=16
 mc:((x.moves.l.length:Int)==0||x.corr)=true
 mr:∀ m∈x.moves.l,0<=m.unit/\m.unit<(nu:Int)
 ma:gM (x.moves.l.map (·.unit))=true
 mi:x.moves.l.all vd=true
def Ac1{c:CaseD}{b:Int}(h:0<=b/\b<(c.buses.l.length:Int)):JO c b=true:=by unfold JO;rw[decide_eq_true h.1,decide_eq_true h.2];rfl
def A3r{c:CaseD}{H:Nat}{res:List Int}{bs:List BusD}{ls:List LineD}{us:List UnitD}{ss:List StoreD}{ts:List TieD}{os:List OutD}(eH:c.hours=(H:Int))(eR:c.reserve.l=res)(eB:c.buses.l=bs)(eL:c.lines.l=ls)(eU:c.units.l=us)(eS:c.stores.l=ss)(eT:c.ties.l=ts)(eO:c.outs.l=os)
  (b:BaseG H res bs ls us ss ts) (A:os.length<=4) (B:∀ x∈os,OutV ls.length us.length x)
  (hn:∀ i (h:i<os.length),A1 os[i].name=true/\∀ j (f:j<os.length),j<i->os[j].name≠os[i].name):IE c=none:=by
 have v:=b.h;have bl:=b.bl;have ll:=b.ll;have ul:=b.ul;have sl:=b.sl;have tl:=b.tl
 have C:Ze c none=none:=by
  unfold Ze
  simp only[eH,eR,eB,eL,eU,eS,eT,eO]
  rw[Uv (Gy (by omega)),qM b.rl (fun x hx=>by have:=b.rr x hx;omega),Uv (Gy (by omega)),Uv (decide_eq_true (by omega)),Uv (decide_eq_true (by omega)),Uv (decide_eq_true (by omega)),Uv (decide_eq_true (by omega)),Uv (decide_eq_true (by omega))]
 have D:Bc (lP c) bs 0 none=none:=by
  refine MF _ _ fun i hi=>?_
  have g:=b.bg i hi
  unfold lP
  simp only[eH,eB,eL,eU,eS,eT,eO,A89]
  rw[UM (by rw[g.name];exact(mD i (by omega)).1) (by
   intro x hx
   obtain⟨j,f,d,rfl⟩:=qL hx
   rw[(b.bg j f).name,g.name]
   intro e;simp at e;have:=Alp j (by omega) i (by omega) (by simpa using e);omega),qM g.dl (fun x hx=>by have:=g.dr x hx;omega),Uv (Gy (by have:=g.shed;omega))]
 have F:Bc (X0 c) ls 0 none=none:=by
  refine MF _ _ fun i hi=>?_
  have g:=b.lg i hi
  unfold X0
  simp only[eH,eB,eL,eU,eS,eT,eO,A89]
  rw[UM (by rw[g.g.name];exact(mD i (by omega)).2.1) (by
   intro x hx
   obtain⟨j,f,d,rfl⟩:=qL hx
   rw[(b.lg j f).g.name,g.g.name]
   intro e;simp at e;have:=Alp j (by omega) i (by omega) (by simpa using e);omega)]
  have q:=g.fr;have n:=g.tx;have z:=g.ne
  rw[Uv (Ac1 (by rw[eB];omega)),Uv (Ac1 (by rw[eB];omega)),Uv (by simpa using fun e=>z e.symm),Uv g.g.re,Uv g.g.smin,Uv g.g.smax,Uv g.g.lim,Uv g.g.em,Av6 v g.g.aw g.g.awr]
 have G:Bc (CL c) us 0 none=none:=by
  refine MF _ _ fun i hi=>?_
  have g:=b.ug i hi
  unfold CL Ad1
  simp only[eH,eB,eL,eU,eS,eT,eO,A89]
  have q:=g.bus
  have e1:Kg ((us.map (·.name)).take i) 3 (i:Int) us[i].name none=none:=UM (by rw[g.name];exact(mD i (by omega)).2.2.1) (by
   intro x hx
   obtain⟨j,f,d,rfl⟩:=qL hx
   rw[(b.ug j f).name,g.name]
   intro e;simp at e;have:=Alp j (by omega) i (by omega) (by simpa using e);omega)
  rw[e1,Uv (Ac1 (by rw[eB];omega)),Uv g.min,Uv g.max,Uv (decide_eq_true (by have:=g.sl;omega)),Uv g.sok,Uv g.sord,Uv g.ssum,Uv g.noLoad,Uv g.rampUp,Uv g.rampDown,Uv g.startRamp,Uv g.stopRamp,Uv g.upTime,Uv g.downTime,Uv g.startTime,Uv g.hotCost,Uv g.coldCost,Uv g.hotHours,Uv g.reserve,Uv g.reservePrice,Av6 v g.aw g.awr,Uv g.state,Uv g.starting,Uv g.hours,Uv g.started]
  have n:=g.output
  cases hx:us[i].state==2 with
  |true=>rw[hx]at n;exact Uv n
  |false=>rw[hx]at n;exact Uv n
 have s:Bc (Qr c) ss 0 none=none:=by
  refine MF _ _ fun i hi=>?_
  have g:=b.sg _ (A9c hi)
  have k:i=0:=by omega
  unfold Qr Fz
  simp only[eH,eB,eL,eU,eS,eT,eO,A89]
  have q:=g.bus;have n:=g.cap;have z:=g.ini;have M:=g.fin;have S:=g.ch;have T:=g.dis;have U:=g.eff
  have e1:Kg ((ss.map (·.name)).take i) 4 (i:Int) ss[i].name none=none:=UM (by rw[g.name];decide) (by subst k;simp)
  rw[e1,Uv (Ac1 (by rw[eB];omega)),Uv (Gy (by omega)),Uv (Gy (by omega)),Uv (Gy (by omega)),Uv (Gy (by omega)),Uv (Gy (by omega)),Uv]
  rw[Gy (by omega),Gy (by omega)];simp;omega
 have t:Bc (lR c) ts 0 none=none:=by
  refine MF _ _ fun i hi=>?_
  have g:=b.tg _ (A9c hi)
  have k:i=0:=by omega
  unfold lR
  simp only[eH,eB,eL,eU,eS,eT,eO,A89]
  have q:=g.bus
  have e1:Kg ((ts.map (·.name)).take i) 5 (i:Int) ts[i].name none=none:=UM (by rw[g.name];decide) (by subst k;simp)
  rw[e1,Uv (Ac1 (by rw[eB];omega)),qM g.il (fun x hx=>by have:=g.ir x hx;omega),qM g.el (fun x hx=>by have:=g.er x hx;omega),qM g.pl (fun x hx=>by have:=g.pr x hx;omega)]
 have u:Bc (SK c) os 0 none=none:=by
  refine MF _ _ fun i hi=>?_
  have g:=B _ (A9c hi)
  obtain⟨n1,n2⟩:=hn i hi
  unfold SK WN
  simp only[eH,eB,eL,eU,eS,eT,eO,A89]
  have e1:Kg ((os.map (·.name)).take i) 6 (i:Int) os[i].name none=none:=UM n1 (by
   intro x hx
   obtain⟨j,f,d,rfl⟩:=qL hx
   exact n2 j f d)
  rw[e1,Uv (by have:=g.ll;simp;omega),Uv,Uv g.la,Uv g.mc,Uv (decide_eq_true (by have:=g.ml;omega)),Uv,Uv g.ma,Uv g.mi]
  ·rw[A9b];intro m I;have:=g.mr m I;unfold vb;rw[eU];simp;omega
  ·rw[A9b];intro y L;have:=g.lr y L;simp;omega
 unfold IE
 simp only[eB,eL,eU,eS,eT,eO]
 rw[C,D,F,G,s,t,u]
def A5o{f:Bool}{H:Nat}{res:List Int}{bs:List BusD}{ls:List LineD}{us:List UnitD}{ss:List StoreD}{ts:List TieD}{os:List OutD}(b:BaseG H res bs ls us ss ts)(d:os.length<=4)(e:∀ x∈os,OutV ls.length us.length x)
  (hn:∀ i (h:i<os.length),A1 os[i].name=true/\∀ j (k:j<os.length),j<i->os[j].name≠os[i].name):IE (kE f H res bs ls us ss ts os)=none:=A3r rfl rfl rfl rfl rfl rfl rfl rfl b d e hn
end
end Gx.Cf
namespace Gx.Ct
open Go Go.Proofs Gx.Cf
def Z2{p:C7}{ok:Bool}{w:Int×Int×Int}{e:{e:Int // e≠0}}:nd p ok w e=none↔p=none/\ok=true:=by cases p<;>cases ok<;>simp[nd]
def IG{lo hi v:Int}:Fv lo hi v=true↔lo<=v/\v<=hi:=by unfold Fv;simp
def UN{α:Type}{f:α->Ar}{l:List α}(h:∀ i (hi:i<l.length),A1 (f l[i])=true/\∀ x∈(l.map f).take i,(!(x==f l[i]))=true):(∀ s∈l.map f,A1 s=true)/\(l.map f).Nodup:=by
 refine⟨fun s hs=>?_,?_⟩
 ·obtain⟨x,hx,rfl⟩:=A9p.1 hs
  obtain⟨i,hi,rfl⟩:=A9n hx
  exact(h i hi).1
 ·rw[List.nodup_iff_pairwise_ne,List.pairwise_iff_getElem]
  intro i j hi d k e
  rw[A85]at hi d
  have:=(h j d).2 (l.map f)[i] (by rw[List.mem_take_iff_getElem];exact⟨i,by rw[A85];omega,rfl⟩)
  rw[e]at this
  simp at this
structure Chk(c:CaseD):Prop where
 w:Ze c none=none
 b:∀ i (h:i<c.buses.l.length),lP c i c.buses.l[i] none=none
 l:∀ i (h:i<c.lines.l.length),X0 c i c.lines.l[i] none=none
 u:∀ i (h:i<c.units.l.length),CL c i c.units.l[i] none=none
 s:∀ i (h:i<c.stores.l.length),Qr c i c.stores.l[i] none=none
 t:∀ i (h:i<c.ties.l.length),lR c i c.ties.l[i] none=none
 o:∀ i (h:i<c.outs.l.length),SK c i c.outs.l[i] none=none
def A5p{c:CaseD}(h:In c=none):Chk c:=by
 unfold In at h
 split at h
 ·cases h
 ·rename_i d
  have h:=d
  unfold IE at h
  obtain⟨e,o6⟩:=Hm (fun _ _ _=>Mk) _ _ _ h
  obtain⟨f,o5⟩:=Hm (fun j a x=>Su j a x) _ _ _ e
  obtain⟨k,o4⟩:=Hm (fun j a x=>M2 j a x) _ _ _ f
  obtain⟨l,o3⟩:=Hm (fun j a x=>Ve j a x) _ _ _ k
  obtain⟨m,o2⟩:=Hm (fun j a x=>Zx j a x) _ _ _ l
  obtain⟨n,o1⟩:=Hm (fun j a x=>TX j a x) _ _ _ m
  simp only[A89]at o1 o2 o3 o4 o5 o6
  exact⟨n,o1,o2,o3,o4,o5,o6⟩
def Ayt{b:Bool}{x y:C7}(h:cond b x y=none)(hx:b=true->x=none->True):(b=true/\x=none)\/(b=false/\y=none):=by
 cases b
 ·exact .inr ⟨rfl,h⟩
 ·exact .inl ⟨rfl,h⟩
def qN{z:Int}(h:-1048576<=z/\z<=1048576):DY z=false:=by unfold DY;rw[decide_eq_false (by omega),decide_eq_false (by omega)];rfl
def Kr{l:List Int}(h:∀ z∈l,-1048576<=z/\z<=1048576):Bf l=false:=by unfold Bf;rw[Bbq];exact fun z d=>by rw[qN (h z d)];decide
def DP{α:Type}{p:α->Bool}{l:List α}(h:∀ x∈l,p x=false):l.any p=false:=by rw[Bbq];exact fun x hx=>by rw[h x hx];decide
def iL{f:FracD}(h:Fz f=true):Pu f=false:=by
 unfold Fz at h;simp only[A81,IG]at h
 unfold Pu;rw[qN h.2,decide_eq_false (by omega),decide_eq_false (by omega)];rfl
def Aug{i:Int}{n:Nat}(h:0<=i/\i<(n:Int)):Kf i n=true:=by unfold Kf;simpa using h
def Av7{n:Nat}:∀ r:List Ar,(∀ x∈r,x.length<=n)->(r.flatMap (32::·)).length<=(n+1)*r.length
|[],_=>by simp
|w::r,h=>by
  have:=Av7 r fun x hx=>h x (by simp[hx])
  have d:=h w (by simp)
  rw[A9o,A8y,A83,A83,Bbi];omega
def A3s{W:List (List Ar)}(h:∀ ws∈W,ws.length<=80/\∀ x∈ws,x.length<=61):(W.flatMap Wp).length<=5000*W.length:=by
 induction W with
|nil=>simp
| cons ws W e =>
  have:=e fun x hx=>h x (by simp[hx])
  obtain⟨f,d⟩:=h ws (by simp)
  have j:(Wp ws).length<=5000:=by
   unfold Wp
   cases ws with
   |nil=>decide
   |cons w r =>
    have k:=d w (by simp)
    have:=Av7 r fun x hx=>d x (by simp[hx])
    rw[A83]at f
    rw[Y1,A8y,A8y,A94];omega
  rw[A9o,A8y,A83];omega
def UO{ns:List Ar}{k i:Int}{s:Ar}{p:C7}:Kg ns k i s p=none↔p=none/\A1 s=true/\ns.all (fun x=>!(x==s))=true:=by unfold Kg;rw[Z2,Z2];exact and_assoc
def Ac2{h:Int}{l:List Int}{lo hi:Int}{w:Int×Int×Int}{p:C7}:ZG h l lo hi w p=none↔p=none/\(l.length:Int)=h/\∀ z∈l,lo<=z/\z<=hi:=by unfold ZG;rw[Z2,Z2,and_assoc,beq_iff_eq,A9b];simp only[IG]
def Aqw{h:Int}{l:List Int}{w:Int×Int×Int}{p:C7}:SA h l w p=none↔p=none/\(∀ z∈l,0<=z/\z<=wrap .i64 (h - 1))/\gM l=true:=by unfold SA;rw[Z2,Z2,and_assoc,A9b];simp only[IG]
def A8r{U:List Ar}(l:List MoveD):(l.flatMap (NC U)).length=l.length*3:=by
 induction l with
|nil=>rfl
|cons a r d=>rw[A9o,A8y,d,A83];show 3+_=_;omega
def A8s(l:List SegD):(l.flatMap Adt).length=l.length*2:=by
 induction l with
|nil=>rfl
|cons a r d=>rw[A9o,A8y,d,A83];show 2+_=_;omega
def Ayu(s:Int):(DX s).length<=1:=by unfold DX;split<;>(try split)<;>(try split)<;>decide
structure Fine(c:CaseD):Prop where
 h:1<=c.hours/\c.hours<=24
 r:(c.reserve.l.length:Int)=c.hours/\∀ z∈c.reserve.l,0<=z/\z<=1048576
 n:c.buses.l.length<=32/\c.lines.l.length<=64/\c.units.l.length<=16/\c.stores.l.length<=8/\c.ties.l.length<=8/\c.outs.l.length<=64
 nm:∀ l∈Cz c,(∀ s∈l,A1 s=true)/\l.Nodup
 b:∀ x∈c.buses.l,((x.demand.l.length:Int)=c.hours/\∀ z∈x.demand.l,0<=z/\z<=1048576)/\0<=x.shed/\x.shed<=1048576
 l:∀ x∈c.lines.l,Kf x.fr c.buses.l.length=true/\Kf x.tl c.buses.l.length=true/\Fz x.re=true/\Fz x.smin=true/\Fz x.smax=true/\(0<=x.limit/\x.limit<=1048576)/\(x.limit<=x.emer/\x.emer<=1048576)/\(∀ z∈x.away.l,0<=z/\z<=23)/\x.away.l.length<=24
 u:∀ x∈c.units.l,Kf x.bus c.buses.l.length=true/\Kf x.state 3=true/\(∀ z∈[x.min,x.max,x.noLoad,x.rampUp,x.rampDown,x.startRamp,x.stopRamp,x.upTime,x.downTime,x.startTime,x.hotCost,x.coldCost,x.hotHours,x.reserve,x.reservePrice,x.hours,x.output],-1048576<=z/\z<=1048576)/\((∀ s∈x.segs.l,(-1048576<=s.width/\s.width<=1048576)/\(-1048576<=s.price/\s.price<=1048576))/\x.segs.l.length<=8)/\(∀ z∈x.away.l,0<=z/\z<=23)/\x.away.l.length<=24
 s:∀ x∈c.stores.l,Kf x.bus c.buses.l.length=true/\(∀ z∈[x.capacity,x.initial,x.final,x.charge,x.discharge],0<=z/\z<=1048576)/\Fz x.eff=true
 t:∀ x∈c.ties.l,Kf x.bus c.buses.l.length=true/\((x.imp.l.length:Int)=c.hours/\∀ z∈x.imp.l,0<=z/\z<=1048576)/\((x.exp.l.length:Int)=c.hours/\∀ z∈x.exp.l,0<=z/\z<=1048576)/\((x.price.l.length:Int)=c.hours/\∀ z∈x.price.l,-1048576<=z/\z<=1048576)
 o:∀ x∈c.outs.l,(∀ n∈x.lines.l,Kf n c.lines.l.length=true)/\x.lines.l.length<=2/\(x.corr||x.moves.l.isEmpty)=true/\x.moves.l.length<=16/\(∀ m∈x.moves.l,Kf m.unit c.units.l.length=true/\(0<=m.up/\m.up<=1048576)/\(0<=m.down/\m.down<=1048576))
def Av8:∀(r:List Int)(a hi:Int),gM (a::r)=true->(∀ z∈a::r,z<=hi)->((a::r).length:Int)<=hi - a+1
|[],a,hi,_,h=>by have:=h a (by simp);simp;omega
|b::r,a,hi,d,h=>by
  rw[Yz,A81,decide_eq_true_eq]at d
  have:=Av8 r b hi d.2 fun z e=>h z (by simp[e])
  rw[A83];omega
def Aqx{h:Int}{l:List Int}(k:1<=h/\h<=24)(j:gM l=true)(d:∀ z∈l,0<=z/\z<=wrap .i64 (h - 1)):(∀ z∈l,0<=z/\z<=23)/\l.length<=24:=by
 have e:wrap .i64 (h - 1)=h - 1:=wrap_i64 _ (by omega)
 rw[e]at d
 refine⟨fun z f=>by have:=d z f;omega,?_⟩
 cases l with
|nil=>decide
|cons a r =>
  have:=Av8 r a 23 j fun z f=>by have:=d z f;omega
  have:=d a (by simp);omega
def Av9{c:CaseD}(v:In c=none):Fine c:=by
 obtain⟨kw,kb,kl,ku,ks,kt,ko⟩:=A5p v
 unfold Ze at kw
 simp only[Z2,Ac2,IG,decide_eq_true_eq,true_and]at kw
 obtain⟨⟨⟨⟨⟨⟨⟨w0,y⟩,D⟩,w3⟩,F⟩,G⟩,I⟩,M⟩:=kw
 have B:∀ i (h:i<c.buses.l.length),_:=fun i h=>by
  have:=kb i h;unfold lP at this;simp only[Z2,Ac2,IG,UO,A9b,true_and,and_assoc]at this;exact this
 have L:∀ i (h:i<c.lines.l.length),_:=fun i h=>by
  have:=kl i h;unfold X0 at this;simp only[Z2,Aqw,IG,UO,A9b,A81,decide_eq_true_eq,true_and,and_assoc]at this;exact this
 have S:∀ i (h:i<c.stores.l.length),_:=fun i h=>by
  have:=ks i h;unfold Qr at this;simp only[Z2,IG,UO,A9b,A81,decide_eq_true_eq,true_and,and_assoc]at this;exact this
 have T:∀ i (h:i<c.ties.l.length),_:=fun i h=>by
  have:=kt i h;unfold lR at this;simp only[Z2,Ac2,UO,A9b,true_and,and_assoc]at this;exact this
 have O:∀ i (h:i<c.outs.l.length),_:=fun i h=>by
  have:=ko i h;unfold SK WN at this;simp only[Z2,UO,vb,vd,IG,Bb8,beq_iff_eq,decide_eq_true_eq,A9b,A81,true_and,and_assoc]at this;exact this
 have U:∀ i (h:i<c.units.l.length),_:=fun i h=>by
  have:=ku i h;unfold CL Ad1 at this
  have k:=Ayt this fun _ _=>trivial
  simp only[Z2,Aqw,IG,UO,jf,Bb8,bne_iff_ne,beq_iff_eq,decide_eq_true_eq,A9b,A81,true_and,and_assoc]at k;exact k
 have Un:∀ i (h:i<c.units.l.length),A1 c.units.l[i].name=true/\∀ x∈(c.units.l.map (·.name)).take i,(!(x==c.units.l[i].name))=true:=fun i h=>(U i h).elim (fun z=>⟨z.2.1,z.2.2.1⟩) (fun z=>⟨z.2.1,z.2.2.1⟩)
 refine⟨w0,y,by omega,fun l q=>?_,fun x hx=>?_,fun x hx=>?_,fun x hx=>?_,fun x hx=>?_,fun x hx=>?_,fun x hx=>?_⟩
 ·simp only[Cz,A88,A9v,or_false]at q
  rcases q with rfl|rfl|rfl|rfl|rfl|rfl
  ·exact UN (f:=BusD.name) fun i hi=>⟨(B i hi).1,(B i hi).2.1⟩
  ·exact UN (f:=LineD.name) fun i hi=>⟨(L i hi).1,(L i hi).2.1⟩
  ·exact UN (f:=UnitD.name) Un
  ·exact UN (f:=StoreD.name) fun i hi=>⟨(S i hi).1,(S i hi).2.1⟩
  ·exact UN (f:=TieD.name) fun i hi=>⟨(T i hi).1,(T i hi).2.1⟩
  ·exact UN (f:=OutD.name) fun i hi=>⟨(O i hi).1,(O i hi).2.1⟩
 ·obtain⟨i,hi,rfl⟩:=A9n hx
  obtain⟨_,_,a1,a2,a3,a4⟩:=B i hi
  exact⟨⟨a1,a2⟩,a3,a4⟩
 ·obtain⟨i,hi,rfl⟩:=A9n hx
  obtain⟨_,_,a1,a2,_,a3,_,a4,_,a5,_,a6,a7,a8,a9,d,e⟩:=L i hi
  have aw:=Aqx w0 e d
  exact⟨a1,a2,a3,a4,a5,⟨a6,a7⟩,⟨a8,a9⟩,aw.1,aw.2⟩
 ·obtain⟨i,hi,rfl⟩:=A9n hx
  rcases U i hi with u|u
  all_goals obtain⟨_,_,_,a1,a2,a3,a4,a5,a6,a7,_,_,d,e,t,V,X,Y,b7,b8,b9,c1,c2,c3,c4,c5,c6,c7,c8,c9,d1,d2,d3,d4,d5,d6,d7,d8,A,e1,C,e3,_,e4,e5,_,e6,e7⟩:=u
  all_goals have aw:=Aqx w0 e1 A
  all_goals refine⟨a1,Aug ⟨C,by omega⟩,?_,⟨fun s hs=>by have:=a7 s hs;omega,by omega⟩,aw.1,aw.2⟩
  all_goals simp only[A88,A9v,or_false,forall_eq_or_imp,forall_eq];omega
 ·obtain⟨i,hi,rfl⟩:=A9n hx
  obtain⟨_,_,a1,a2,a3,a4,a5,a6,a7,a8,a9,d,e,t,_⟩:=S i hi
  refine⟨a1,?_,t⟩
  simp only[A88,A9v,or_false,forall_eq_or_imp,forall_eq];omega
 ·obtain⟨i,hi,rfl⟩:=A9n hx
  obtain⟨_,_,a1,a2,a3,a4,a5,a6,a7⟩:=T i hi
  exact⟨a1,⟨a2,a3⟩,⟨a4,a5⟩,a6,a7⟩
 ·obtain⟨i,hi,rfl⟩:=A9n hx
  obtain⟨_,_,a1,a2,_,a3,a4,a5,_,a6⟩:=O i hi
  refine⟨fun n hn=>Aug (a2 n hn),by omega,?_,by omega,fun m j=>⟨Aug (a5 m j),by have:=a6 m j;omega,by have:=a6 m j;omega⟩⟩
  rcases a3 with a3|a3
  ·rw[show c.outs.l[i].moves.l.isEmpty=true by rw[List.isEmpty_iff,<-Bbr];omega];simp
  ·rw[a3];rfl
def Ac3{c:CaseD}(f:Fine c):Tb c=true:=by
 unfold Tb
 simp only[A81,A9b]
 exact⟨fun x hx=>⟨(f.l x hx).1,(f.l x hx).2.1⟩,fun x hx=>⟨(f.u x hx).1,(f.u x hx).2.1⟩,fun x hx=>(f.s x hx).1,fun x hx=>(f.t x hx).1,fun x hx=>⟨fun l d=>(f.o x hx).1 l d,fun m e=>((f.o x hx).2.2.2.2 m e).1⟩⟩
def Auh{c:CaseD}(hI:CaseI 20000000000000 c)(f:Fine c):(∀ ws∈CH c,ws.length<=80/\∀ x∈ws,x.length<=61)/\(CH c).length<=200:=by
 have tx61:∀ z,JR z->(tx z).length<=61:=fun z e=>Bag (fX z e) (by decide)
 have fh:=f.h;have fr:=f.r;have fn:=f.n
 refine⟨fun ws d=>⟨?_,(ye hI tx61 (fun g j k=>?_) (fun w d=>?_) (fun l m s hs=>?_) (Ac3 f) ws d).2⟩,?_⟩
 ·unfold CH at d
  simp only[A88,A87,A9p]at d
  rcases d with rfl|⟨x,hx,rfl⟩|⟨x,hx,rfl⟩|⟨x,hx,rfl⟩|⟨x,hx,rfl⟩|⟨x,hx,rfl⟩|⟨x,hx,rfl⟩
  ·simp only[Af8,A8y,A85,A83,A9m];omega
  ·have:=f.b x hx
   simp only[nF,A8y,A85,A83,A9m];omega
  ·have:=(f.l x hx).2.2.2.2.2.2.2.2
   simp only[Vp,A8y,A85,A83,A9m];omega
  ·have g:=(f.u x hx).2.2.2
   have st:=Ayu x.state
   have:=g.1.2;have:=g.2.2
   simp only[Ps,A8y,A85,A83,A9m,A8s];omega
  ·simp only[Kk,A83,A9m];omega
  ·have g:=(f.t x hx).2
   simp only[GK,A8y,A85,A83,A9m];omega
  ·have g:=(f.o x hx).2
   have st:(cond x.corr [Cr] []).length<=1:=by cases x.corr<;>decide
   simp only[U3,A8y,A85,A83,A9m,A8r];omega
 ·have q:=fX _ j;have v:=fX _ k
  unfold Oo;rw[A8y,A83];omega
 ·unfold A5z at d
  simp only[A81,decide_eq_true_eq]at d
  omega
 ·have:=(f.nm l m).1 s hs
  unfold A1 at this
  simp only[A81,decide_eq_true_eq]at this
  omega
 ·simp only[CH,A8y,A85,A83];omega
def Ac4{a b:Int}(d:-1048576<=a/\a<=1048576)(e:-1048576<=b/\b<=1048576):Bf [a,b]=false:=Kr fun z f=>by
 rcases A88.1 f with rfl|h
 ·exact d
 ·rw[Bbb.1 h];exact e
def A14{c:CaseD}(hI:CaseI 20000000000000 c)(f:Fine c):Acc c:=by
 have fl:=Auh hI f
 have hH:∀{l:Sl Int},(l.l.length:Int)=c.hours->WB c l=true:=fun e=>by unfold WB;exact decide_eq_true e
 have mid:∀{z:Int},0<=z/\z<=1048576->-1048576<=z/\z<=1048576:=fun h=>by omega
 refine⟨hI,?_,f.h,?_,f.nm,Ac3 f,?_,?_,?_⟩
 ·have:=f.n
  unfold K3
  simp only[A81,decide_eq_true_eq];omega
 ·unfold NE
  simp only[A81,A9b]
  exact⟨hH f.r.1,fun x hx=>hH (f.b x hx).1.1,fun x hx=>⟨hH (f.t x hx).2.1.1,hH (f.t x hx).2.2.1.1,hH (f.t x hx).2.2.2.1⟩⟩
 ·unfold Wr
  rw[A9b]
  exact fun x hx=>(f.o x hx).2.2.1
 ·have fh:=f.h
  unfold Sa
  simp only[Baj]
  refine⟨qN (by omega),Kr fun z d=>mid (f.r.2 z d),DP fun x hx=>?_,DP fun x hx=>?_,DP fun x hx=>?_,DP fun x hx=>?_,DP fun x hx=>?_,DP fun x hx=>?_⟩
  ·have g:=f.b x hx
   unfold rO
   rw[Kr fun z d=>mid (g.1.2 z d),qN (mid g.2)];rfl
  ·obtain⟨_,_,a1,a2,a3,a4,a5,a6,_⟩:=f.l x hx
   unfold ND
   rw[iL a1,iL a2,iL a3,Ac4 (mid a4) ⟨Int.le_trans (by decide) (Int.le_trans a4.1 a5.1),a5.2⟩,Kr fun z d=>by have:=a6 z d;omega];rfl
  ·obtain⟨_,_,a1,a2,a3,_⟩:=f.u x hx
   unfold GL
   rw[Kr (l:=[x.min,x.max]) fun z d=>a1 z (A87.2 (.inl d):z∈[x.min,x.max]++_),DP fun s hs=>?_,Kr (l:=[x.noLoad,x.rampUp,x.rampDown,x.startRamp,x.stopRamp,x.upTime,x.downTime,x.startTime,x.hotCost,x.coldCost,x.hotHours,x.reserve,x.reservePrice]) fun z d=>a1 z (A87.2 (.inr (A87.2 (.inl d))):z∈[x.min,x.max]++([x.noLoad,x.rampUp,x.rampDown,x.startRamp,x.stopRamp,x.upTime,x.downTime,x.startTime,x.hotCost,x.coldCost,x.hotHours,x.reserve,x.reservePrice]++_)),Kr fun z d=>by have:=a3 z d;omega,Kr (l:=[x.hours,x.output]) fun z d=>a1 z (A87.2 (.inr d):z∈[x.min,x.max,x.noLoad,x.rampUp,x.rampDown,x.startRamp,x.stopRamp,x.upTime,x.downTime,x.startTime,x.hotCost,x.coldCost,x.hotHours,x.reserve,x.reservePrice]++[x.hours,x.output])]
   ·rfl
   ·have:=a2.1 s hs
    unfold rP
    exact Ac4 this.1 this.2
  ·obtain⟨_,a1,a2⟩:=f.s x hx
   unfold Wq
   rw[Kr fun z d=>mid (a1 z d),iL a2];rfl
  ·obtain⟨_,a1,a2,a3⟩:=f.t x hx
   unfold PY
   rw[Kr fun z d=>mid (a1.2 z d),Kr fun z d=>mid (a2.2 z d),Kr a3.2];rfl
  ·unfold DZ
   refine DP fun m j=>?_
   have:=(f.o x hx).2.2.2.2 m j
   unfold nG
   exact Ac4 (mid this.2.1) (mid this.2.2)
 ·have:=A3s fl.1
  unfold FF;omega
def Z3{α:Type}{f g:Nat->α->C7->C7}{re:α->α}(h:∀ j a p,g j (re a) p=f j a p):∀(l:List α)(j:Nat)(p:C7),Bc g (l.map re) j p=Bc f l j p
|[],_,_=>rfl
|a::r,j,p=>by rw[A9a,Bc,Bc,h];exact Z3 h r _ _
def vC{α:Type}{f g:Nat->α->C7->C7}(h:∀ j a p,g j a p=f j a p):∀(l:List α)(j:Nat)(p:C7),Bc g l j p=Bc f l j p
|[],_,_=>rfl
|a::r,j,p=>by rw[Bc,Bc,h];exact vC h r _ _
def Ac5{α:Type}{f:α->Ar}{re:α->α}(h:∀ a,f (re a)=f a)(l:List α):(l.map re).map f=l.map f:=by rw[Bbv];exact Bbs fun a _=>h a
def A15(h:Int):∀(l:List LineD)(j:Nat),QU h (l.map EW) j=QU h l j
|[],_=>rfl
|a::r,j=>by rw[A9a,QU,QU,A15 h r];rfl
def A16(c:CaseD):In (QX c)=In c:=by
 have lb:(QX c).buses.l.length=c.buses.l.length:=A85 ..
 have ll:(QX c).lines.l.length=c.lines.l.length:=A85 ..
 have lu:(QX c).units.l.length=c.units.l.length:=A85 ..
 have lt:(QX c).ties.l.length=c.ties.l.length:=A85 ..
 have lo:(QX c).outs.l.length=c.outs.l.length:=A85 ..
 have bo:∀ b,JO (QX c) b=JO c b:=fun b=>by unfold JO;rw[lb]
 have d:Ze (QX c) none=Ze c none:=by
  unfold Ze;rw[lb,ll,lu,lt,lo];rfl
 have eB:∀ p,Bc (lP (QX c)) (QX c).buses.l 0 p=Bc (lP c) c.buses.l 0 p:=Z3 (fun j a p=>by
  unfold lP
  rw[show(QX c).buses.l.map (·.name)=c.buses.l.map (·.name) from Ac5 (re:=Acx) (fun _=>rfl) c.buses.l];rfl) _ _
 have eL:∀ p,Bc (X0 (QX c)) (QX c).lines.l 0 p=Bc (X0 c) c.lines.l 0 p:=Z3 (fun j a p=>by
  unfold X0
  rw[show(QX c).lines.l.map (·.name)=c.lines.l.map (·.name) from Ac5 (re:=EW) (fun _=>rfl) c.lines.l,bo,bo];rfl) _ _
 have eU:∀ p,Bc (CL (QX c)) (QX c).units.l 0 p=Bc (CL c) c.units.l 0 p:=Z3 (fun j a p=>by
  unfold CL
  rw[show(QX c).units.l.map (·.name)=c.units.l.map (·.name) from Ac5 (re:=Acy) (fun _=>rfl) c.units.l,bo];rfl) _ _
 have eS:∀ p,Bc (Qr (QX c)) (QX c).stores.l 0 p=Bc (Qr c) c.stores.l 0 p:=vC (fun j a p=>by
  unfold Qr
  rw[bo];rfl) _ _
 have eT:∀ p,Bc (lR (QX c)) (QX c).ties.l 0 p=Bc (lR c) c.ties.l 0 p:=Z3 (fun j a p=>by
  unfold lR
  rw[show(QX c).ties.l.map (·.name)=c.ties.l.map (·.name) from Ac5 (re:=Aqn) (fun _=>rfl) c.ties.l,bo];rfl) _ _
 have mo:vb (QX c)=vb c:=by funext m;unfold vb;rw[lu]
 have eO:∀ p,Bc (SK (QX c)) (QX c).outs.l 0 p=Bc (SK c) c.outs.l 0 p:=Z3 (fun j a p=>by
  unfold SK WN
  rw[show(QX c).outs.l.map (·.name)=c.outs.l.map (·.name) from Ac5 (re:=Alt) (fun _=>rfl) c.outs.l,ll,mo];rfl) _ _
 have pre:IE (QX c)=IE c:=by
  unfold IE
  dsimp only
  rw[d,eB,eL,eU,eS,eT,eO]
 have ac:∀ h,A6 (QX c) h=A6 c h:=fun h=>A15 h _ _
 have e:Fg (QX c)=Fg c:=by
  funext l
  unfold Fg
  rw[show(QX c).lines.l[l.toNat]?=(c.lines.l[l.toNat]?).map EW from Baw ..]
  cases c.lines.l[l.toNat]?<;>rfl
 have hr:∀ m j p,J5 (QX c) m j p=J5 c m j p:=by
  intro m
  induction m with
  |zero=>intro j p;rfl
  |succ m f =>
   intro j p
   rw[J5,J5,f]
   congr 1
   refine Z3 (fun i a q=>?_) _ _ _
   unfold Ak7 Avi
   rw[ac,e,lb];rfl
 unfold In
 rw[pre,hr];rfl
def Ahg{c:CaseD}(h:c.outs.l=[]):∀ m j,J5 c m j none=none
|0,_=>rfl
|m+1,j=>by rw[J5,h];exact Ahg h m (j+1)
def Ahh{c:CaseD}(g:TY c):In c=none:=by
 obtain⟨H,res,bs,ls,us,ss,ts,os,b,og,d,rfl⟩:=g
 rcases d with rfl|d
 ·unfold In
  rw[A5o b (by simp) (by simp) (by simp)]
  exact Ahg rfl _ _
 ·have e1:IE (kE false H res bs ls us ss ts os)=IE (kE true H res bs ls us ss ts os):=rfl
  have e:∀ m j p,J5 (kE false H res bs ls us ss ts os) m j p=J5 (kE true H res bs ls us ss ts os) m j p:=by
   intro m
   induction m with
   |zero=>intro j p;rfl
   |succ m f =>
    intro j p
    rw[J5,J5]
    refine(f _ _).trans ?_
    rfl
  unfold In at d ⊢
  rw[e1,e]
  exact d
end Gx.Ct
namespace Gx.Cf
open Go Go.Proofs
section
variable{R:Type}
def qO{N:Nat}{c:CaseD}{p:C7}{k i:Int}{w:Bool}{j:Nat}{K:Lu->O R}(h:j<c.buses.l.length):GU N (j:Int) w (Dq c p k i) K=K c.buses.l[j].name:=by
 rw[SQ];unfold QB
 rw[pk,Ab h,ct,A8z,A3 Ir _ _ h]
 simp[BusD.av,Fq]
def qP{N:Nat}{c:CaseD}{k i:Int}{s:Lu}{w:Bool}{K:Bool->LA->O R}{n:Nat}(hn:n<=c.buses.l.length)(hs:n<4611686018427387904):∀(m j fuel:Nat)(p:C7),j+m=n->m<fuel ->
  I9 N K s (n:Int) fuel (j:Int) w (Dq c p k i)=K w (Dq c (nd p ((((c.buses.l.map (·.name)).take n).drop j).all fun x=>!(x==s)) (k,i,0) ⟨10,by decide⟩) k i)
|0,j,fuel+1,p,d,_=>by
  rw[I9];unfold Qv
  rw[Gu (by omega),cf,Dm (by simp;omega),A9z,Hp]
| m+1,j,fuel+1,p,d,u=>by
  rw[I9];unfold Qv
  have h:j<c.buses.l.length:=by omega
  have f:j<((c.buses.l.map (·.name)).take n).length:=by simp;omega
  rw[F1 (by omega),ct,Mp,qO h,Ax (by decide),B0 (by omega),qP hn hs m (j+1) fuel _ (by omega) (by omega),Cj f,A9i,Sx]
  have e:((c.buses.l.map (·.name)).take n)[j]=c.buses.l[j].name:=by simp
  rw[e]
  rcases p with _|⟨x,q,t⟩
  ·simp[B5]
  ·have:(q != 0)=true:=by simpa using t
   simp[B5,this,nd]
def Alq{N:Nat}{c:CaseD}{p:C7}{k:Int}{n:Nat}{s:Lu}{w:Bool}{K:Bool->LA->O R}(hN:64<=N)(hn:n<=c.buses.l.length)(hs:Gn n N):
  KG N s w (Dq c p k (n:Int)) K=K w (Dq c (Kg ((c.buses.l.map (·.name)).take n) k n s p) k n):=by
 rw[dZ];unfold NW
 rw[El hN,Ax (by decide)]
 unfold Kg
 cases m:nd p (A1 s) (k,(n:Int),0) ⟨9,by decide⟩with
|none =>
  rw[sT]
  have:=qP (R:=R) (N:=N) (c:=c) (k:=k) (i:=n) (s:=s) (w:=w) (K:=K) hn hs.2 n 0 N none (by omega) hs.1
  simpa using this
| some x =>
  obtain⟨⟨a,b,f⟩,e,d⟩:=x
  have j:∀ g:Int->O R,As .i64 (drop 9 (Dq c (some ((a,b,f),⟨e,d⟩)) k n)) g=g b:=by intro g;simp[Dq,CaseD.av,RO,A7]
  rw[j,VK]
  rcases N with _|N
  ·omega
  ·dsimp only
   rw[I9];unfold Qv
   rw[Mp]
   have:(e != 0)=true:=by simpa using d
   cases decide (0<b)<;>simp[B5,this]
def qQ{N:Nat}{c:CaseD}{p:C7}{k i:Int}{w:Bool}{j:Nat}{K:Lu->O R}(h:j<c.lines.l.length):GW N (j:Int) w (Dq c p k i) K=K c.lines.l[j].name:=by
 rw[ST];unfold QC
 rw[pm,Ab h,ct,A8z,A3 Cm _ _ h]
 simp[LineD.av,Fq]
def aA{N:Nat}{c:CaseD}{k i:Int}{s:Lu}{w:Bool}{K:Bool->LA->O R}{n:Nat}(hn:n<=c.lines.l.length)(hs:n<4611686018427387904):∀(m j fuel:Nat)(p:C7),j+m=n->m<fuel ->
  Ja N K s (n:Int) fuel (j:Int) w (Dq c p k i)=K w (Dq c (nd p ((((c.lines.l.map (·.name)).take n).drop j).all fun x=>!(x==s)) (k,i,0) ⟨10,by decide⟩) k i)
|0,j,fuel+1,p,d,_=>by
  rw[Ja];unfold Qx
  rw[Gu (by omega),cf,Dm (by simp;omega),A9z,Hp]
| m+1,j,fuel+1,p,d,u=>by
  rw[Ja];unfold Qx
  have h:j<c.lines.l.length:=by omega
  have f:j<((c.lines.l.map (·.name)).take n).length:=by simp;omega
  rw[F1 (by omega),ct,Mp,qQ h,Ax (by decide),B0 (by omega),aA hn hs m (j+1) fuel _ (by omega) (by omega),Cj f,A9i,Sx]
  have e:((c.lines.l.map (·.name)).take n)[j]=c.lines.l[j].name:=by simp
  rw[e]
  rcases p with _|⟨x,q,t⟩
  ·simp[B5]
  ·have:(q != 0)=true:=by simpa using t
   simp[B5,this,nd]
def wo{N:Nat}{c:CaseD}{p:C7}{k:Int}{n:Nat}{s:Lu}{w:Bool}{K:Bool->LA->O R}(hN:64<=N)(hn:n<=c.lines.l.length)(hs:Gn n N):
  KH N s w (Dq c p k (n:Int)) K=K w (Dq c (Kg ((c.lines.l.map (·.name)).take n) k n s p) k n):=by
 rw[d_];unfold NX
 rw[El hN,Ax (by decide)]
 unfold Kg
 cases m:nd p (A1 s) (k,(n:Int),0) ⟨9,by decide⟩with
|none =>
  rw[sT]
  have:=aA (R:=R) (N:=N) (c:=c) (k:=k) (i:=n) (s:=s) (w:=w) (K:=K) hn hs.2 n 0 N none (by omega) hs.1
  simpa using this
| some x =>
  obtain⟨⟨a,b,f⟩,e,d⟩:=x
  have j:∀ g:Int->O R,As .i64 (drop 9 (Dq c (some ((a,b,f),⟨e,d⟩)) k n)) g=g b:=by intro g;simp[Dq,CaseD.av,RO,A7]
  rw[j,VK]
  rcases N with _|N
  ·omega
  ·dsimp only
   rw[Ja];unfold Qx
   rw[Mp]
   have:(e != 0)=true:=by simpa using d
   cases decide (0<b)<;>simp[B5,this]
def qR{N:Nat}{c:CaseD}{p:C7}{k i:Int}{w:Bool}{j:Nat}{K:Lu->O R}(h:j<c.units.l.length):GY N (j:Int) w (Dq c p k i) K=K c.units.l[j].name:=by
 rw[SW];unfold QD
 rw[pn,Ab h,ct,A8z,A3 Ft _ _ h]
 simp[UnitD.av,Fq]
def aB{N:Nat}{c:CaseD}{k i:Int}{s:Lu}{w:Bool}{K:Bool->LA->O R}{n:Nat}(hn:n<=c.units.l.length)(hs:n<4611686018427387904):∀(m j fuel:Nat)(p:C7),j+m=n->m<fuel ->
  Jb N K s (n:Int) fuel (j:Int) w (Dq c p k i)=K w (Dq c (nd p ((((c.units.l.map (·.name)).take n).drop j).all fun x=>!(x==s)) (k,i,0) ⟨10,by decide⟩) k i)
|0,j,fuel+1,p,d,_=>by
  rw[Jb];unfold Qy
  rw[Gu (by omega),cf,Dm (by simp;omega),A9z,Hp]
| m+1,j,fuel+1,p,d,u=>by
  rw[Jb];unfold Qy
  have h:j<c.units.l.length:=by omega
  have f:j<((c.units.l.map (·.name)).take n).length:=by simp;omega
  rw[F1 (by omega),ct,Mp,qR h,Ax (by decide),B0 (by omega),aB hn hs m (j+1) fuel _ (by omega) (by omega),Cj f,A9i,Sx]
  have e:((c.units.l.map (·.name)).take n)[j]=c.units.l[j].name:=by simp
  rw[e]
  rcases p with _|⟨x,q,t⟩
  ·simp[B5]
  ·have:(q != 0)=true:=by simpa using t
   simp[B5,this,nd]
def wq{N:Nat}{c:CaseD}{p:C7}{k:Int}{n:Nat}{s:Lu}{w:Bool}{K:Bool->LA->O R}(hN:64<=N)(hn:n<=c.units.l.length)(hs:Gn n N):
  KK N s w (Dq c p k (n:Int)) K=K w (Dq c (Kg ((c.units.l.map (·.name)).take n) k n s p) k n):=by
 rw[eE];unfold N'
 rw[El hN,Ax (by decide)]
 unfold Kg
 cases m:nd p (A1 s) (k,(n:Int),0) ⟨9,by decide⟩with
|none =>
  rw[sT]
  have:=aB (R:=R) (N:=N) (c:=c) (k:=k) (i:=n) (s:=s) (w:=w) (K:=K) hn hs.2 n 0 N none (by omega) hs.1
  simpa using this
| some x =>
  obtain⟨⟨a,b,f⟩,e,d⟩:=x
  have j:∀ g:Int->O R,As .i64 (drop 9 (Dq c (some ((a,b,f),⟨e,d⟩)) k n)) g=g b:=by intro g;simp[Dq,CaseD.av,RO,A7]
  rw[j,VK]
  rcases N with _|N
  ·omega
  ·dsimp only
   rw[Jb];unfold Qy
   rw[Mp]
   have:(e != 0)=true:=by simpa using d
   cases decide (0<b)<;>simp[B5,this]
def mE{N:Nat}{c:CaseD}{p:C7}{k i:Int}{w:Bool}{j:Nat}{K:Lu->O R}(h:j<c.stores.l.length):BC N (j:Int) w (Dq c p k i) K=K c.stores.l[j].name:=by
 rw[OC];unfold KL
 rw[sU,Ab h,ct,A8z,A3 Fk _ _ h]
 simp[StoreD.av,Fq]
def aC{N:Nat}{c:CaseD}{k i:Int}{s:Lu}{w:Bool}{K:Bool->LA->O R}{n:Nat}(hn:n<=c.stores.l.length)(hs:n<4611686018427387904):∀(m j fuel:Nat)(p:C7),j+m=n->m<fuel ->
  H3 N K s (n:Int) fuel (j:Int) w (Dq c p k i)=K w (Dq c (nd p ((((c.stores.l.map (·.name)).take n).drop j).all fun x=>!(x==s)) (k,i,0) ⟨10,by decide⟩) k i)
|0,j,fuel+1,p,d,_=>by
  rw[H3];unfold Ov
  rw[Gu (by omega),cf,Dm (by simp;omega),A9z,Hp]
| m+1,j,fuel+1,p,d,u=>by
  rw[H3];unfold Ov
  have h:j<c.stores.l.length:=by omega
  have f:j<((c.stores.l.map (·.name)).take n).length:=by simp;omega
  rw[F1 (by omega),ct,Mp,mE h,Ax (by decide),B0 (by omega),aC hn hs m (j+1) fuel _ (by omega) (by omega),Cj f,A9i,Sx]
  have e:((c.stores.l.map (·.name)).take n)[j]=c.stores.l[j].name:=by simp
  rw[e]
  rcases p with _|⟨x,q,t⟩
  ·simp[B5]
  ·have:(q != 0)=true:=by simpa using t
   simp[B5,this,nd]
def wt{N:Nat}{c:CaseD}{p:C7}{k:Int}{n:Nat}{s:Lu}{w:Bool}{K:Bool->LA->O R}(hN:64<=N)(hn:n<=c.stores.l.length)(hs:Gn n N):
  CQ N s w (Dq c p k (n:Int)) K=K w (Dq c (Kg ((c.stores.l.map (·.name)).take n) k n s p) k n):=by
 rw[ZP];unfold G'
 rw[El hN,Ax (by decide)]
 unfold Kg
 cases m:nd p (A1 s) (k,(n:Int),0) ⟨9,by decide⟩with
|none =>
  rw[sT]
  have:=aC (R:=R) (N:=N) (c:=c) (k:=k) (i:=n) (s:=s) (w:=w) (K:=K) hn hs.2 n 0 N none (by omega) hs.1
  simpa using this
| some x =>
  obtain⟨⟨a,b,f⟩,e,d⟩:=x
  have j:∀ g:Int->O R,As .i64 (drop 9 (Dq c (some ((a,b,f),⟨e,d⟩)) k n)) g=g b:=by intro g;simp[Dq,CaseD.av,RO,A7]
  rw[j,VK]
  rcases N with _|N
  ·omega
  ·dsimp only
   rw[H3];unfold Ov
   rw[Mp]
   have:(e != 0)=true:=by simpa using d
   cases decide (0<b)<;>simp[B5,this]
def sd{N:Nat}{c:CaseD}{p:C7}{k i:Int}{w:Bool}{j:Nat}{K:Lu->O R}(h:j<c.ties.l.length):OD N (j:Int) w (Dq c p k i) K=K c.ties.l[j].name:=by
 rw[ZQ];unfold XC
 rw[Alc,Ab h,ct,A8z,A3 H2 _ _ h]
 simp[TieD.av,Fq]
def aD{N:Nat}{c:CaseD}{k i:Int}{s:Lu}{w:Bool}{K:Bool->LA->O R}{n:Nat}(hn:n<=c.ties.l.length)(hs:n<4611686018427387904):∀(m j fuel:Nat)(p:C7),j+m=n->m<fuel ->
  H4 N K s (n:Int) fuel (j:Int) w (Dq c p k i)=K w (Dq c (nd p ((((c.ties.l.map (·.name)).take n).drop j).all fun x=>!(x==s)) (k,i,0) ⟨10,by decide⟩) k i)
|0,j,fuel+1,p,d,_=>by
  rw[H4];unfold Ow
  rw[Gu (by omega),cf,Dm (by simp;omega),A9z,Hp]
| m+1,j,fuel+1,p,d,u=>by
  rw[H4];unfold Ow
  have h:j<c.ties.l.length:=by omega
  have f:j<((c.ties.l.map (·.name)).take n).length:=by simp;omega
  rw[F1 (by omega),ct,Mp,sd h,Ax (by decide),B0 (by omega),aD hn hs m (j+1) fuel _ (by omega) (by omega),Cj f,A9i,Sx]
  have e:((c.ties.l.map (·.name)).take n)[j]=c.ties.l[j].name:=by simp
  rw[e]
  rcases p with _|⟨x,q,t⟩
  ·simp[B5]
  ·have:(q != 0)=true:=by simpa using t
   simp[B5,this,nd]
def wu{N:Nat}{c:CaseD}{p:C7}{k:Int}{n:Nat}{s:Lu}{w:Bool}{K:Bool->LA->O R}(hN:64<=N)(hn:n<=c.ties.l.length)(hs:Gn n N):
  CS N s w (Dq c p k (n:Int)) K=K w (Dq c (Kg ((c.ties.l.map (·.name)).take n) k n s p) k n):=by
 rw[ZR];unfold HA
 rw[El hN,Ax (by decide)]
 unfold Kg
 cases m:nd p (A1 s) (k,(n:Int),0) ⟨9,by decide⟩with
|none =>
  rw[sT]
  have:=aD (R:=R) (N:=N) (c:=c) (k:=k) (i:=n) (s:=s) (w:=w) (K:=K) hn hs.2 n 0 N none (by omega) hs.1
  simpa using this
| some x =>
  obtain⟨⟨a,b,f⟩,e,d⟩:=x
  have j:∀ g:Int->O R,As .i64 (drop 9 (Dq c (some ((a,b,f),⟨e,d⟩)) k n)) g=g b:=by intro g;simp[Dq,CaseD.av,RO,A7]
  rw[j,VK]
  rcases N with _|N
  ·omega
  ·dsimp only
   rw[H4];unfold Ow
   rw[Mp]
   have:(e != 0)=true:=by simpa using d
   cases decide (0<b)<;>simp[B5,this]
def jL{N:Nat}{c:CaseD}{p:C7}{k i:Int}{w:Bool}{j:Nat}{K:Lu->O R}(h:j<c.outs.l.length):W0 N (j:Int) w (Dq c p k i) K=K c.outs.l[j].name:=by
 rw[KM];unfold EE
 rw[xH,Ab h,ct,A8z,A3 Dd _ _ h]
 simp[OutD.av,Fq]
def aE{N:Nat}{c:CaseD}{k i:Int}{s:Lu}{w:Bool}{K:Bool->LA->O R}{n:Nat}(hn:n<=c.outs.l.length)(hs:n<4611686018427387904):∀(m j fuel:Nat)(p:C7),j+m=n->m<fuel ->
  H5 N K s (n:Int) fuel (j:Int) w (Dq c p k i)=K w (Dq c (nd p ((((c.outs.l.map (·.name)).take n).drop j).all fun x=>!(x==s)) (k,i,0) ⟨10,by decide⟩) k i)
|0,j,fuel+1,p,d,_=>by
  rw[H5];unfold Ox
  rw[Gu (by omega),cf,Dm (by simp;omega),A9z,Hp]
| m+1,j,fuel+1,p,d,u=>by
  rw[H5];unfold Ox
  have h:j<c.outs.l.length:=by omega
  have f:j<((c.outs.l.map (·.name)).take n).length:=by simp;omega
  rw[F1 (by omega),ct,Mp,jL h,Ax (by decide),B0 (by omega),aE hn hs m (j+1) fuel _ (by omega) (by omega),Cj f,A9i,Sx]
  have e:((c.outs.l.map (·.name)).take n)[j]=c.outs.l[j].name:=by simp
  rw[e]
  rcases p with _|⟨x,q,t⟩
  ·simp[B5]
  ·have:(q != 0)=true:=by simpa using t
   simp[B5,this,nd]
def aF{N:Nat}{c:CaseD}{p:C7}{k:Int}{n:Nat}{s:Lu}{w:Bool}{K:Bool->LA->O R}(hN:64<=N)(hn:n<=c.outs.l.length)(hs:Gn n N):
  CT N s w (Dq c p k (n:Int)) K=K w (Dq c (Kg ((c.outs.l.map (·.name)).take n) k n s p) k n):=by
 rw[ZS];unfold HB
 rw[El hN,Ax (by decide)]
 unfold Kg
 cases m:nd p (A1 s) (k,(n:Int),0) ⟨9,by decide⟩with
|none =>
  rw[sT]
  have:=aE (R:=R) (N:=N) (c:=c) (k:=k) (i:=n) (s:=s) (w:=w) (K:=K) hn hs.2 n 0 N none (by omega) hs.1
  simpa using this
| some x =>
  obtain⟨⟨a,b,f⟩,e,d⟩:=x
  have j:∀ g:Int->O R,As .i64 (drop 9 (Dq c (some ((a,b,f),⟨e,d⟩)) k n)) g=g b:=by intro g;simp[Dq,CaseD.av,RO,A7]
  rw[j,VK]
  rcases N with _|N
  ·omega
  ·dsimp only
   rw[H5];unfold Ox
   rw[Mp]
   have:(e != 0)=true:=by simpa using d
   cases decide (0<b)<;>simp[B5,this]
def Aff{N:Nat}{c:CaseD}{p:C7}{k i:Int}{w:Bool}{K:Bool->LA->O R}(hs:Small c N):SP N w (Dq c p k i) K=K w (Dq c (Ze c p) 0 0):=by
 rw[oB];unfold g8 NU
 simp only[Oe,pj,Gj,Atw,Rt rfl hs.res,pk,pm,pn,sU,Alc,xH,Ax (show(8:Int)≠0 by decide)]
 unfold Ze
 cases h:decide ((c.buses.l.length:Int)>=1)with
|true=>simp only[beq_self_eq_true,cond_true];simp only[Fv];simp at h;simp[show(1:Int)<=(c.buses.l.length:Int) by omega]
|false=>simp only[Fv];simp at h;simp[show ¬ ((1:Int)<=(c.buses.l.length:Int)) by simp;omega]
def kN{N:Nat}{c:CaseD}{w w0:Bool}(hs:Small c N):∀(m j fuel:Nat)(p:C7)(k i:Int),j+m=c.buses.l.length->m<fuel ->
  ∃ e f:Int,∀ K:Bool->LA->O R,Qw N K (c.buses.l.flatMap BusD.av) c.buses.l.length w0 fuel (c.buses.l.length:Int) (j:Int) w (Dq c p k i)=K w (Dq c (Bc (lP c) (c.buses.l.drop j) j p) e f)
|0,j,fuel+1,p,k,i,q,_=>by
  refine⟨k,i,fun K=>?_⟩
  rw[Qw];unfold GV
  rw[Gu (by omega),cf,Dm (by omega),Bc]
|m+1,j,fuel+1,p,k,i,q,y=>by
  have h:j<c.buses.l.length:=by omega
  have hN:=hs.n64
  have d:=hs.bus
  obtain⟨e,f,s⟩:=kN (w:=w) (w0:=w0) hs m (j+1) fuel (lP c j c.buses.l[j] p) 1 j (by omega) (by omega)
  refine⟨e,f,fun K=>?_⟩
  rw[Qw];unfold GV 
  rw[F1 h,ct,Ab h,ct,A8z,A3 Ir _ _ h,Cj h,Bc,<-s K]
  have t:c.buses.l[j]∈c.buses.l:=A9c h
  have u:=hs.dem _ t
  have n:=@Alq R N c
  generalize c.buses.l[j]=b at *
  have v:ble 3 (List.length (b.av++List.flatMap BusD.av (drop (j+1) c.buses.l)))=true:=by rw[C1,A8y,Ir];simp
  have x:take 3 (b.av++List.flatMap BusD.av (drop (j+1) c.buses.l))=b.av:=A9w (Ir b)
  rw[v,ct,x,Ir]
  simp only[BusD.av,A9s,A9f,Fq,A7,Cq,By,MI,decide_true,A91,cond_true,Oe,B0 (show j<4611686018427387904 by have:=d.2;omega)]
  simp only[n hN (show j<=_ by omega) ⟨by have:=d.1;omega,by have:=d.2;omega⟩,Rt rfl u,Gj]
  rfl
def Afg{N:Nat}{c:CaseD}{p:C7}{k i:Int}{w:Bool}(hs:Small c N):∃ d e:Int,∀ K:Bool->LA->O R,SR N w (Dq c p k i) K=K w (Dq c (Bc (lP c) c.buses.l 0 p) d e):=by
 obtain⟨d,e,h⟩:=kN (R:=R) (w:=w) (w0:=w) hs c.buses.l.length 0 N p k i (by omega) hs.bus.1
 refine⟨d,e,fun K=>?_⟩
 rw[oE];unfold g9
 rw[pk]
 simpa using h K
def kO{N:Nat}{c:CaseD}{w w0:Bool}{h0:LA}(hs:Small c N):∀(m j fuel:Nat)(p:C7)(k i:Int),j+m=c.lines.l.length->m<fuel ->
  ∃ e f:Int,∀ K:Bool->LA->O R,Mv N K (c.lines.l.flatMap LineD.av) c.lines.l.length w0 h0 fuel (c.lines.l.length:Int) (j:Int) w (Dq c p k i)=K w (Dq c (Bc (X0 c) (c.lines.l.drop j) j p) e f)
|0,j,fuel+1,p,k,i,q,_=>by
  refine⟨k,i,fun K=>?_⟩
  rw[Mv];unfold GX
  rw[Gu (by omega),cf,Dm (by omega),Bc]
|m+1,j,fuel+1,p,k,i,q,y=>by
  have h:j<c.lines.l.length:=by omega
  have hN:=hs.n64
  have d:=hs.lin
  obtain⟨e,f,s⟩:=kO (w:=w) (w0:=w0) (h0:=h0) hs m (j+1) fuel (X0 c j c.lines.l[j] p) 2 j (by omega) (by omega)
  refine⟨e,f,fun K=>?_⟩
  rw[Mv];unfold GX NZ WZ eD WY eC
  rw[F1 h,ct,Ab h,ct,A8z,A3 Cm _ _ h,Cj h,Bc,<-s K]
  have t:c.lines.l[j]∈c.lines.l:=A9c h
  have u:=hs.law _ t
  have n:=@wo R N c
  generalize c.lines.l[j]=b at *
  have v:ble 12 (List.length (b.av++List.flatMap LineD.av (drop (j+1) c.lines.l)))=true:=by rw[C1,A8y,Cm];simp
  have x:take 12 (b.av++List.flatMap LineD.av (drop (j+1) c.lines.l))=b.av:=A9w (Cm b)
  rw[v,ct,x,Cm]
  simp only[LineD.av,A9s,A9f,Bbf,Bac,A83,A9m,Fq,A7,Cq,By,C1,MI,A0,Nat.reduceAdd,Nat.reduceLeDiff,decide_true,A91,Ba9,cond_true,A89,Oe,B0 (show j<4611686018427387904 by have:=d.2;omega)]
  simp only[n hN (show j<=_ by omega) ⟨by have:=d.1;omega,by have:=d.2;omega⟩,PG,Gj,pp rfl u,kG,Ax (show(1:Int)≠0 by decide),Ax (show(3:Int)≠0 by decide)]
  unfold X0;cases Fz b.re<;>cases Fz b.smin<;>cases Fz b.smax<;>rfl
def Afh{N:Nat}{c:CaseD}{p:C7}{k i:Int}{w:Bool}(hs:Small c N):∃ d e:Int,∀ K:Bool->LA->O R,SV N w (Dq c p k i) K=K w (Dq c (Bc (X0 c) c.lines.l 0 p) d e):=by
 obtain⟨d,e,h⟩:=kO (R:=R) (w:=w) (w0:=w) (h0:=Dq c p k i) hs c.lines.l.length 0 N p k i (by omega) hs.lin.1
 refine⟨d,e,fun K=>?_⟩
 rw[oJ];unfold ga
 rw[pm]
 simpa using h K
def fk{N:Nat}{c:CaseD}{w w0:Bool}(hs:Small c N):∀(m j fuel:Nat)(p:C7)(k i:Int),j+m=c.stores.l.length->m<fuel ->
  ∃ e f:Int,∀ K:Bool->LA->O R,Nz N K (c.stores.l.flatMap StoreD.av) c.stores.l.length w0 fuel (c.stores.l.length:Int) (j:Int) w (Dq c p k i)=K w (Dq c (Bc (Qr c) (c.stores.l.drop j) j p) e f)
|0,j,fuel+1,p,k,i,q,_=>by
  refine⟨k,i,fun K=>?_⟩
  rw[Nz];unfold BD
  rw[Gu (by omega),cf,Dm (by omega),Bc]
|m+1,j,fuel+1,p,k,i,q,v=>by
  have h:j<c.stores.l.length:=by omega
  have hN:=hs.n64
  have d:=hs.sto
  obtain⟨e,f,s⟩:=fk (w:=w) (w0:=w0) hs m (j+1) fuel (Qr c j c.stores.l[j] p) 4 j (by omega) (by omega)
  refine⟨e,f,fun K=>?_⟩
  rw[Nz];unfold BD 
  rw[F1 h,ct,Ab h,ct,A8z,A3 Fk _ _ h,Cj h,Bc,<-s K]
  have x:c.stores.l[j]∈c.stores.l:=A9c h
  skip
  have n:=@wt R N c
  generalize c.stores.l[j]=b at *
  have t:ble 9 (List.length (b.av++List.flatMap StoreD.av (drop (j+1) c.stores.l)))=true:=by rw[C1,A8y,Fk];simp
  have u:take 9 (b.av++List.flatMap StoreD.av (drop (j+1) c.stores.l))=b.av:=A9w (Fk b)
  rw[t,ct,u,Fk]
  simp only[StoreD.av,setCells,C3,A9t,A9g,Bb2,A9s,A9f,Bbf,Bac,A83,A9m,Fq,A7,C1,MI,A0,Nat.reduceAdd,decide_true,A91,Ba9,A98,cond_true,A89,A86,Oe,B0 (show j<4611686018427387904 by have:=d.2;omega)]
  simp only[n hN (show j<=_ by omega) ⟨by have:=d.1;omega,by have:=d.2;omega⟩,PG,Gj,kG,Ax (show(3:Int)≠0 by decide)]
  unfold Qr;cases Fz b.eff<;>cases decide (b.eff.num>0)<;>rfl
def Ac6{N:Nat}{c:CaseD}{p:C7}{k i:Int}{w:Bool}(hs:Small c N):∃ d e:Int,∀ K:Bool->LA->O R,IM N w (Dq c p k i) K=K w (Dq c (Bc (Qr c) c.stores.l 0 p) d e):=by
 obtain⟨d,e,h⟩:=fk (R:=R) (w:=w) (w0:=w) hs c.stores.l.length 0 N p k i (by omega) hs.sto.1
 refine⟨d,e,fun K=>?_⟩
 rw[jl];unfold XB
 rw[sU]
 simpa using h K
def qS{N:Nat}{c:CaseD}{w w0:Bool}(hs:Small c N):∀(m j fuel:Nat)(p:C7)(k i:Int),j+m=c.ties.l.length->m<fuel ->
  ∃ e f:Int,∀ K:Bool->LA->O R,U8 N K (c.ties.l.flatMap TieD.av) c.ties.l.length w0 fuel (c.ties.l.length:Int) (j:Int) w (Dq c p k i)=K w (Dq c (Bc (lR c) (c.ties.l.drop j) j p) e f)
|0,j,fuel+1,p,k,i,u,_=>by
  refine⟨k,i,fun K=>?_⟩
  rw[U8];unfold OE
  rw[Gu (by omega),cf,Dm (by omega),Bc]
|m+1,j,fuel+1,p,k,i,u,A=>by
  have h:j<c.ties.l.length:=by omega
  have hN:=hs.n64
  have d:=hs.tie
  obtain⟨e,f,v⟩:=qS (w:=w) (w0:=w0) hs m (j+1) fuel (lR c j c.ties.l[j] p) 5 j (by omega) (by omega)
  refine⟨e,f,fun K=>?_⟩
  rw[U8];unfold OE 
  rw[F1 h,ct,Ab h,ct,A8z,A3 H2 _ _ h,Cj h,Bc,<-v K]
  have n:c.ties.l[j]∈c.ties.l:=A9c h
  have x:=hs.tim _ n;have q:=hs.tex _ n;have s:=hs.tpr _ n
  have t:=@wu R N c
  generalize c.ties.l[j]=b at *
  have y:ble 5 (List.length (b.av++List.flatMap TieD.av (drop (j+1) c.ties.l)))=true:=by rw[C1,A8y,H2];simp
  have z:take 5 (b.av++List.flatMap TieD.av (drop (j+1) c.ties.l))=b.av:=A9w (H2 b)
  rw[y,ct,z,H2]
  simp only[TieD.av,A9s,A9f,Fq,A7,Cq,By,MI,decide_true,A91,cond_true,Oe,B0 (show j<4611686018427387904 by have:=d.2;omega)]
  simp only[t hN (show j<=_ by omega) ⟨by have:=d.1;omega,by have:=d.2;omega⟩,PG,Rt rfl x,Rt rfl q,Rt rfl s]
  rfl
def Alr{N:Nat}{c:CaseD}{p:C7}{k i:Int}{w:Bool}(hs:Small c N):∃ d e:Int,∀ K:Bool->LA->O R,gd N w (Dq c p k i) K=K w (Dq c (Bc (lR c) c.ties.l 0 p) d e):=by
 obtain⟨d,e,h⟩:=qS (R:=R) (w:=w) (w0:=w) hs c.ties.l.length 0 N p k i (by omega) hs.tie.1
 refine⟨d,e,fun K=>?_⟩
 rw[uE];unfold oR
 rw[Alc]
 simpa using h K
def qT{N:Nat}{c:CaseD}{k i s:Int}{u:UnitD}{o w:Bool}{K:Bool->LA->O R}(hs:u.segs.l.length<4611686018427387904):∀(m j fuel:Nat)(p:C7),j+1+m=u.segs.l.length->m<fuel ->
  Jw N K s o u.av fuel ((j+1:Nat):Int) w (Dq c p k i)=K w (Dq c (nd (nd p (dS (u.segs.l.drop j)) (k,i,4) Axn) (s==wrap .i64 (u.max - u.min)) (k,i,4) e4) k i)
|0,j,fuel+1,p,d,_=>by
  rw[Jw];unfold Ou
  rw[ED,Gu (by omega),cf,Cj (l:=u.segs.l) (j:=j) (by omega),Dm (l:=u.segs.l) (j:=j+1) (by omega),nk,Hp,Au9,Ava,Ax (by decide)]
|m+1,j,fuel+1,p,d,e=>by
  rw[Jw];unfold Ou
  have h:j+1<u.segs.l.length:=by omega
  have h':j<u.segs.l.length:=by omega
  simp only[ED]
  rw[F1 h,ct,Ab h,ct,gZ h,mz (by omega),Ab h',ct,gZ h',B0 (by omega),Ax (by decide),qT hs m (j+1) fuel _ (by omega) (by omega),Cj h',Cj h,KD,Sx]
def qU{N:Nat}{c:CaseD}{k i:Int}{u:UnitD}{o w:Bool}{K:Bool->LA->O R}(hs:Gn u.segs.l.length N):∀(m j fuel:Nat)(p:C7)(a:Int),j+m=u.segs.l.length->m<fuel ->
  Jx N K (u.segs.l.flatMap SegD.av) u.segs.l.length o u.av fuel a (u.segs.l.length:Int) (j:Int) w (Dq c p k i) =
   K w (Dq c (nd (nd (nd p ((u.segs.l.drop j).all jf) (k,i,4) e3) (dS u.segs.l) (k,i,4) Axn) (aO a (u.segs.l.drop j)==wrap .i64 (u.max - u.min)) (k,i,4) e4) k i)
| 0,j,fuel+1,p,a,e,_=>by
  rw[Jx];unfold Ui
  rw[Gu (by omega),cf,Dm (by omega),A9z,Hp,aO]
  rcases d:u.segs.l with _|⟨b,r⟩
  ·rw[zI,Hp]
   have hN:=hs.1
   rcases N with _|N
   ·omega
   ·dsimp only
    rw[Jw];unfold Ou
    rw[ED,d]
    simp only[A9m,Baa]
    rw[show decide ((1:Int)<0)=false by decide,cf,Au9,Ava,Ax (by decide)]
  ·have:=qT (R:=R) (N:=N) (c:=c) (k:=k) (i:=i) (s:=a) (u:=u) (o:=o) (w:=w) (K:=K) hs.2 r.length 0 N p (by rw[d];simp;omega) (by have:=hs.1;rw[d]at this;simp at this;omega)
   rw[d]at this
   simpa using this
|m+1,j,fuel+1,p,a,e,t=>by
  rw[Jx];unfold Ui
  have h:j<u.segs.l.length:=by omega
  have f:=hs.2
  rw[F1 h,ct,Ab h,ct,A8z,A3 Qs _ _ h,Cj h,A9i,aO,B0 (by omega)]
  have n:ble 2 (List.length (u.segs.l[j].av++List.flatMap SegD.av (drop (j+1) u.segs.l)))=true:=by rw[C1,A8y,Qs];simp
  have q:take 2 (u.segs.l[j].av++List.flatMap SegD.av (drop (j+1) u.segs.l))=u.segs.l[j].av:=A9w (Qs _)
  rw[n,ct,q,Qs]
  simp only[SegD.av,setCells,C3,A9t,A9g,Bb2,A9s,A9f,Bac,A83,A9m,A7,C1,MI,A0,Nat.reduceAdd,decide_true,A91,Ba9,A98,cond_true,A89,A86,Gj,qU hs m (j+1) fuel _ _ (show j+1+m=_ by omega) (show m<fuel by omega)]
  rw[Sx,Sx,<-Baq];rfl
def se{N:Nat}{c:CaseD}{p:C7}{j:Nat}{u:UnitD}{o w:Bool}{K:Bool->LA->O R}(hs:Gn u.segs.l.length N):
  Vt N u.av o w (Dq c p 3 j) K=K w (Dq c (Ad1 u j p) 3 j):=by
 rw[ZO];unfold GZ
 simp only[ED,Ax (show(8:Int)≠0 by decide),Mp]
 have:=qU (R:=R) (N:=N) (c:=c) (k:=3) (i:=j) (u:=u) (o:=o) (w:=w) (K:=K) hs u.segs.l.length 0 N (nd p (decide ((u.segs.l.length:Int)<=8)) (3,j,4) e8) 0 (by omega) hs.1
 simp only[A9f,Baa]at this
 rw[this]
 unfold Ad1
 cases d:nd p (decide ((u.segs.l.length:Int)<=8)) (3,(j:Int),4) e8 with
|none=>simp[B5]
|some x =>
  have:(x.2.1 != 0)=true:=by simpa using x.2.2
  simp[B5,this,nd]
def vD{N:Nat}{c:CaseD}{k i:Int}{l:List MoveD}{o w:Bool}{K:Bool->LA->O R}(hs:l.length<4611686018427387904):∀(m j fuel:Nat)(p:C7),j+m=l.length->m<fuel ->
  Vv N K (l.flatMap MoveD.av) l.length o fuel (l.length:Int) (j:Int) w (Dq c p k i)=K w (Dq c (nd p ((l.drop j).all vd) (k,i,3) e3) k i)
|0,j,fuel+1,p,d,_=>by
  rw[Vv];unfold HC
  rw[Gu (by omega),cf,Dm (by omega),A9z,Hp]
|m+1,j,fuel+1,p,d,n=>by
  rw[Vv];unfold HC
  have h:j<l.length:=by omega
  rw[F1 h,ct,Ab h,ct,A8z,A3 Fu _ _ h,Cj h,A9i,B0 (by omega)]
  have e:ble 3 (List.length (l[j].av++List.flatMap MoveD.av (drop (j+1) l)))=true:=by rw[C1,A8y,Fu];simp
  have f:take 3 (l[j].av++List.flatMap MoveD.av (drop (j+1) l))=l[j].av:=A9w (Fu _)
  rw[e,ct,f,Fu]
  simp only[MoveD.av,setCells,C3,A9t,A9g,Bb2,A9s,A9f,Bac,A83,A9m,A7,C1,MI,A0,Nat.reduceAdd,decide_true,A91,Ba9,A98,cond_true,A89,A86,Gj,vD hs m (j+1) fuel _ (show j+1+m=_ by omega) (show m<fuel by omega)]
  rw[Sx,Sx,<-Baq];rfl
def vE{N:Nat}{c:CaseD}{k i:Int}{u:OutD}{o w:Bool}{K:Bool->LA->O R}(hs:Gn u.moves.l.length N)(f:u.moves.l.length<=16):∀(m j fuel:Nat)(p:C7),j+m=u.moves.l.length->m<fuel ->
  Qz N K (u.moves.l.flatMap MoveD.av) u.moves.l.length o u.av fuel j (u.moves.l.length:Int) (j:Int) w (Dq c p k i) (Av ((u.moves.l.take j).map (·.unit))) =
   K w (Dq c (nd (nd (nd p ((u.moves.l.drop j).all (vb c)) (k,i,3) Aq8) (gM (u.moves.l.map (·.unit))) (k,i,3) Axn) (u.moves.l.all vd) (k,i,3) e3) k i)
|0,j,fuel+1,p,n,_=>by
  rw[Qz];unfold HD
  have q:j=u.moves.l.length:=by omega
  rw[Gu (by omega),cf,Dm (l:=u.moves.l) (j:=j) (by omega),A9z,Hp,A9j,A80 (by simp[Fp];omega),A80 (show u.moves.l.length<=j by omega)]
  rw[Xl (by simp;omega) (by simpa using hs),Ax (by decide),xD]
  have:=vD (R:=R) (N:=N) (c:=c) (k:=k) (i:=i) (l:=u.moves.l) (o:=o) (w:=w) (K:=K) hs.2 u.moves.l.length 0 N (nd p (gM (u.moves.l.map (·.unit))) (k,i,3) Axn) (by omega) hs.1
  simpa using this
| m+1,j,fuel+1,p,n,y=>by
  rw[Qz];unfold HD
  have h:j<u.moves.l.length:=by omega
  have s:=hs.2
  have t:ble 3 (List.length (u.moves.l[j].av++List.flatMap MoveD.av (drop (j+1) u.moves.l)))=true:=by rw[C1,A8y,Fu];simp
  have v:take 3 (u.moves.l[j].av++List.flatMap MoveD.av (drop (j+1) u.moves.l))=u.moves.l[j].av:=A9w (Fu _)
  have z:(ble (j+1) 140737488355328&&ble ((j+1)*8) 140737488355328)=true:=by rw[C1,C1];simp;omega
  have x:take (j*1) (Av ((u.moves.l.take j).map (·.unit)))++[.int .i64 u.moves.l[j].unit]=Av ((u.moves.l.take (j+1)).map (·.unit)):=by
   rw[A80 (by simp[Fp];omega),A9q h,A93,<-MS];rfl
  rw[F1 h,ct,Ab h,ct,A8z,A3 Fu _ _ h,Cj h,A9i,B0 (by omega),t,ct,v,Fu]
  simp only[MoveD.av,setCells,C3,A9t,A9g,Bb2,A9s,Bac,A83,A9m,A7,C1,MI,A0,Nat.reduceAdd,Nat.reduceLeDiff,decide_true,A91,Ba9,A98,cond_true,A89,A86,pn,Ax (show(12:Int)≠0 by decide),x,vE hs f m (j+1) fuel _ (show j+1+m=_ by omega) (show m<fuel by omega)]
  rw[Sx,Sx]
  unfold vb
  generalize (drop (j+1) u.moves.l).all _=r
  have d:(decide (j<=140737488355327)&&decide ((j+1)*8<=140737488355328))=true:=by simp;omega
  by_cases e:0<=u.moves.l[j].unit
  ·have e1:decide (u.moves.l[j].unit>=0)=true:=by simpa using e
   rw[e1,d];rfl
  ·have e1:decide (u.moves.l[j].unit>=0)=false:=by simpa using e
   rw[e1,d];rfl
def Afi{N:Nat}{c:CaseD}{p:C7}{j:Nat}{u:OutD}{o w:Bool}{K:Bool->LA->O R}(hs:Gn u.moves.l.length N):
  eK N u.av o w (Dq c p 6 j) K=K w (Dq c (WN c u j p) 6 j):=by
 rw[oT];unfold ge OF XD
 simp only[xD,A0e,Ax (show(16:Int)≠0 by decide),Ax (show(8:Int)≠0 by decide),Mp]
 have key:∀ d:C7,(cond (B5 (nd d (decide ((u.moves.l.length:Int)<=16)) (6,(j:Int),3) e8) != 0) (K w (Dq c (nd d (decide ((u.moves.l.length:Int)<=16)) (6,(j:Int),3) e8) 6 j))
   (Qz N K (u.moves.l.flatMap MoveD.av) u.moves.l.length o u.av N 0 (u.moves.l.length:Int) 0 w (Dq c (nd d (decide ((u.moves.l.length:Int)<=16)) (6,(j:Int),3) e8) 6 j) [])) =
   K w (Dq c (nd (nd (nd (nd d (decide ((u.moves.l.length:Int)<=16)) (6,(j:Int),3) e8) (u.moves.l.all (vb c)) (6,j,3) Aq8) (gM (u.moves.l.map (·.unit))) (6,j,3) Axn) (u.moves.l.all vd) (6,j,3) e3) 6 j):=by
  intro d
  cases e:nd d (decide ((u.moves.l.length:Int)<=16)) (6,(j:Int),3) e8 with
  | none =>
   have f:u.moves.l.length<=16:=by
    rcases d with _|x
    ·by_cases f:u.moves.l.length<=16
     ·exact f
     ·have:decide ((u.moves.l.length:Int)<=16)=false:=by simp;omega
      rw[this]at e;simp[nd]at e
    ·simp[nd]at e
   have:=vE (R:=R) (N:=N) (c:=c) (k:=6) (i:=j) (u:=u) (o:=o) (w:=w) (K:=K) hs f u.moves.l.length 0 N none (by omega) hs.1
   simp only[Bac,A9x,A9f,Baa,Av]at this
   simp only[B5,bne_self_eq_false,cond_false]
   exact this
  |some x =>
   have:(x.2.1 != 0)=true:=by simpa using x.2.2
   simp[B5,this,nd]
 unfold WN
 cases m:((u.moves.l.length:Int)==0)with
|true=>simp only[Bba,cond_false,show(true==false)=false from rfl];exact key _
|false=>simp only[beq_self_eq_true,Bah,cond_true,cond_false];exact key _
def kP{N:Nat}{c:CaseD}{w w0:Bool}{h0:LA}(hs:Small c N):∀(m j fuel:Nat)(p:C7)(k i:Int),j+m=c.units.l.length->m<fuel ->
  ∃ e f:Int,∀ K:Bool->LA->O R,Mw N K (c.units.l.flatMap UnitD.av) c.units.l.length w0 h0 fuel (c.units.l.length:Int) (j:Int) w (Dq c p k i)=K w (Dq c (Bc (CL c) (c.units.l.drop j) j p) e f)
|0,j,fuel+1,p,k,i,v,_=>by
  refine⟨k,i,fun K=>?_⟩
  rw[Mw];unfold G_
  rw[Gu (by omega),cf,Dm (by omega),Bc]
| m+1,j,fuel+1,p,k,i,v,B=>by
  have h:j<c.units.l.length:=by omega
  have hN:=hs.n64
  have d:=hs.uni
  obtain⟨e,f,x⟩:=kP (w:=w) (w0:=w0) (h0:=h0) hs m (j+1) fuel (CL c j c.units.l[j] p) 3 j (by omega) (by omega)
  refine⟨e,f,fun K=>?_⟩
  rw[Mw];unfold G_ OA XA eJ W_ eI
  rw[F1 h,ct,Ab h,ct,A8z,A3 Ft _ _ h,Cj h,Bc,<-x K]
  have t:c.units.l[j]∈c.units.l:=A9c h
  have y:=hs.seg _ t;have n:=hs.uaw _ t
  have q:=@wq R N c
  generalize c.units.l[j]=b at *
  have z:ble 22 (List.length (b.av++List.flatMap UnitD.av (drop (j+1) c.units.l)))=true:=by rw[C1,A8y,Ft];simp
  have A:take 22 (b.av++List.flatMap UnitD.av (drop (j+1) c.units.l))=b.av:=A9w (Ft b)
  rw[z,ct,A,Ft]
  have s:∀(p:C7)(K:Bool->LA->O R),Vt N [.str b.name,.int .i64 b.bus,.int .i64 b.min,.int .i64 b.max,b.segs.av 2 SegD.av,.int .i64 b.noLoad,.int .i64 b.rampUp,.int .i64 b.rampDown,.int .i64 b.startRamp,.int .i64 b.stopRamp,.int .i64 b.upTime,.int .i64 b.downTime,.int .i64 b.startTime,.int .i64 b.hotCost,.int .i64 b.coldCost,.int .i64 b.hotHours,.int .i64 b.reserve,.int .i64 b.reservePrice,b.away.av 1 O9,.int .i64 b.state,.int .i64 b.hours,.int .i64 b.output] w0 w (Dq c p 3 j) K=K w (Dq c (Ad1 b j p) 3 j):=fun p K=>se y
  simp only[UnitD.av,A9s,A9f,Bbf,Bac,Fq,A7,Cq,By,C1,MI,decide_true,A91,cond_true,cond_false,A86,Oe,B0 (show j<4611686018427387904 by have:=d.2;omega)]
  simp only[q hN (show j<=_ by omega) ⟨by have:=d.1;omega,by have:=d.2;omega⟩,PG,Gj,s,pp rfl n,Ax (show(12:Int)≠0 by decide),Ax (show(16:Int)≠0 by decide),Ax (show(3:Int)≠0 by decide)]
  unfold CL
  unfold Fv
  by_cases u:b.state=0
  ·simp[u]
  ·by_cases s1:b.state=1
   ·simp[s1]
   ·by_cases s2:b.state=2
    ·simp[s2]
    ·have a0:(b.state==0)=false:=by simpa using u
     have a1:(b.state==1)=false:=by simpa using s1
     have a2:(b.state==2)=false:=by simpa using s2
     have a3:(decide (0<=b.state)&&decide (b.state<=2))=false:=by simp;omega
     have a4:(b.state != 1)=true:=by simpa using s1
     simp[a0,a1,a2,a3,a4]
def Afj{N:Nat}{c:CaseD}{p:C7}{k i:Int}{w:Bool}(hs:Small c N):∃ d e:Int,∀ K:Bool->LA->O R,SX N w (Dq c p k i) K=K w (Dq c (Bc (CL c) c.units.l 0 p) d e):=by
 obtain⟨d,e,h⟩:=kP (R:=R) (w:=w) (w0:=w) (h0:=Dq c p k i) hs c.units.l.length 0 N p k i (by omega) hs.uni.1
 refine⟨d,e,fun K=>?_⟩
 rw[oN];unfold gc
 rw[pn]
 simpa using h K
def A6t(c:CaseD)(n:Int):Bool:=decide (0<=n)&&decide (n<(c.lines.l.length:Int))
def A5q{u:OutD}:take 4 u.av=u.av:=rfl
def YL{N:Nat}{c:CaseD}{j:Nat}{x:OutD}{w w0:Bool}{l1 h0:LA}{m2:Nat}{a i12:Int}{K0:Int->Int->Bool->LA->O R}{K:Bool->LA->O R}(hs:Gn x.lines.l.length N)(d:Gn x.moves.l.length N):∀(m q fuel:Nat)(p:C7),q+m=x.lines.l.length->m<fuel ->
  O8 N K0 K l1 m2 w0 a (Av x.lines.l) x.lines.l.length x.av h0 fuel i12 (x.lines.l.length:Int) (q:Int) w (Dq c p 6 j) =
   K0 a (wrap .i64 (i12+1)) w (Dq c (WN c x j (nd (nd p ((x.lines.l.drop q).all (A6t c)) (6,j,1) Aq8) (gM x.lines.l) (6,j,1) Axn)) 6 j)
|0,q,fuel+1,p,f,_=>by
  rw[O8];unfold W1
  rw[Gu (by omega),cf,Dm (l:=x.lines.l) (j:=q) (by omega),A9z,Hp,np,Xl rfl hs,Ax (by decide),A5q,Afi d];rfl
| m+1,q,fuel+1,p,f,n=>by
  rw[O8];unfold W1
  have h:q<x.lines.l.length:=by omega
  have k:=hs.2
  rw[F1 h,ct,Ab h,ct,Xx h,pm,Ax (by decide),Ax (by decide),B0 (by omega),YL hs d m (q+1) fuel _ (by omega) (by omega),YL hs d m (q+1) fuel _ (by omega) (by omega),Cj h,A9i,Sx,Sx]
  unfold A6t
  generalize (drop (q+1) x.lines.l).all _=r
  by_cases e:0<=x.lines.l[q]
  ·have e1:decide (x.lines.l[q]>=0)=true:=by simpa using e
   rw[e1];rfl
  ·have e1:decide (x.lines.l[q]>=0)=false:=by simpa using e
   rw[e1];rfl
def aG{N:Nat}{c:CaseD}{w w0:Bool}{h0:LA}(hs:Small c N):∀(m j fuel:Nat)(p:C7)(k i:Int),j+m=c.outs.l.length->m<fuel ->
  ∃ C D:Int,∀ K:Bool->LA->O R,F4 N K (c.outs.l.flatMap OutD.av) c.outs.l.length w0 h0 fuel (c.outs.l.length:Int) (j:Int) w (Dq c p k i)=K w (Dq c (Bc (SK c) (c.outs.l.drop j) j p) C D)
|0,j,fuel+1,p,k,i,F,_=>by
  refine⟨k,i,fun K=>?_⟩
  rw[F4];unfold Q3
  rw[Gu (by omega),cf,Dm (by omega),Bc]
| m+1,j,fuel+1,p,k,i,F,M=>by
  have h:j<c.outs.l.length:=by omega
  have hN:=hs.n64
  have d:=hs.out
  have z:c.outs.l[j]∈c.outs.l:=A9c h
  have A:=hs.oli _ z
  have t:=hs.omo _ z
  obtain⟨G,i1,I⟩:=aG (w:=w) (w0:=w0) (h0:=h0) hs m (j+1) fuel (SK c j c.outs.l[j] p) 6 j (by omega) (by omega)
  cases e:nd (Kg ((c.outs.l.map (·.name)).take j) 6 j c.outs.l[j].name p) ((c.outs.l[j].lines.l.length:Int)==1||(c.outs.l[j].lines.l.length:Int)==2) (6,(j:Int),1) e4 with
  | none =>
   refine⟨G,i1,fun K=>?_⟩
   rw[F4];unfold Q3 Tz W2
   rw[F1 h,ct,Ab h,ct,A8z,A3 Dd _ _ h,Cj h,Bc,<-I K]
   have q:=@aF R N c
   generalize c.outs.l[j]=b at *
   have u:ble 4 (List.length (b.av++List.flatMap OutD.av (drop (j+1) c.outs.l)))=true:=by rw[C1,A8y,Dd];simp
   have v:take 4 (b.av++List.flatMap OutD.av (drop (j+1) c.outs.l))=b.av:=A9w (Dd b)
   rw[u,ct,v,Dd]
   have n:∀ f:Lu->O R,Km b.av f=f b.name:=fun f=>by simp[OutD.av,Fq]
   simp only[MI,decide_true,A91,Bav,cond_true,Oe,n,np,q hN (show j<=_ by omega) ⟨by have:=d.1;omega,by have:=d.2;omega⟩,Ax (show(4:Int)≠0 by decide),Mp]
   have l2:=fun p=>YL (R:=R) (N:=N) (c:=c) (j:=j) (x:=b) (w:=w) (w0:=w0) (l1:=c.outs.l.flatMap OutD.av) (h0:=h0) (m2:=c.outs.l.length) (a:=c.outs.l.length) (i12:=j) (K0:=F4 N K (c.outs.l.flatMap OutD.av) c.outs.l.length w0 h0 fuel) (K:=K) A t b.lines.l.length 0 N p (by omega) A.1
   simp only[A9f,Baa]at l2
   simp only[l2,B0 (show j<4611686018427387904 by have:=d.2;omega)]
   unfold SK
   cases s:((b.lines.l.length:Int)==1)with
   |true =>
    rw[s]at e
    simp only[Bba]at e
    simp only[show(true==false)=false from rfl,cond_false,Bba,e,B5,bne_self_eq_false];rfl
   |false =>
    rw[s]at e
    simp only[Bah]at e
    simp only[beq_self_eq_true,cond_true,cond_false,Bah,e,B5,bne_self_eq_false];rfl
  | some y =>
   have B:(y.2.1 != 0)=true:=by simpa using y.2.2
   have L:SK c j c.outs.l[j] p=some y:=by unfold SK;simp only;rw[e];rfl
   refine⟨6,j,fun K=>?_⟩
   rw[F4];unfold Q3 Tz W2
   rw[F1 h,ct,Ab h,ct,A8z,A3 Dd _ _ h,Cj h,Bc,L,Bk (fun _ _=>Mk)]
   have q:=@aF R N c
   generalize c.outs.l[j]=b at *
   have u:ble 4 (List.length (b.av++List.flatMap OutD.av (drop (j+1) c.outs.l)))=true:=by rw[C1,A8y,Dd];simp
   have v:take 4 (b.av++List.flatMap OutD.av (drop (j+1) c.outs.l))=b.av:=A9w (Dd b)
   rw[u,ct,v,Dd]
   have n:∀ f:Lu->O R,Km b.av f=f b.name:=fun f=>by simp[OutD.av,Fq]
   simp only[MI,decide_true,A91,Bav,cond_true,Oe,n,np,q hN (show j<=_ by omega) ⟨by have:=d.1;omega,by have:=d.2;omega⟩,Ax (show(4:Int)≠0 by decide),Mp]
   cases s:((b.lines.l.length:Int)==1)with
   |true =>
    rw[s]at e
    simp only[Bba]at e
    simp only[show(true==false)=false from rfl,cond_false,e,B5,B,cond_true]
   |false =>
    rw[s]at e
    simp only[Bah]at e
    simp only[beq_self_eq_true,cond_true,cond_false,e,B5,B]
def wv{N:Nat}{c:CaseD}{p:C7}{k i:Int}{w:Bool}(hs:Small c N):∃ d e:Int,∀ K:Bool->LA->O R,Zh N w (Dq c p k i) K=K w (Dq c (Bc (SK c) c.outs.l 0 p) d e):=by
 obtain⟨d,e,h⟩:=aG (R:=R) (w:=w) (w0:=w) (h0:=Dq c p k i) hs c.outs.l.length 0 N p k i (by omega) hs.out.1
 refine⟨d,e,fun K=>?_⟩
 rw[eN];unfold OG
 rw[xH]
 simpa using h K
end
end Gx.Cf
namespace Gx.Cf
def Conn.add{es:List (Nat×Nat)}{u v a b:Nat}(h:Conn (es++[(u,v)]) a b):Conn es a b\/(Conn es a u/\Conn es v b)\/(Conn es a v/\Conn es u b):=by
 induction h with
|refl=>exact .inl (.refl _)
| fwd d _ f =>
  rename_i x y k _
  rcases A87.1 d with d|d
  ·rcases f with f|⟨j,e⟩|⟨j,e⟩
   ·exact .inl (.fwd d f)
   ·exact .inr (.inl ⟨.fwd d j,e⟩)
   ·exact .inr (.inr ⟨.fwd d j,e⟩)
  ·simp at d;obtain⟨rfl,rfl⟩:=d
   rcases f with f|⟨j,e⟩|⟨j,e⟩
   ·exact .inr (.inl ⟨.refl _,f⟩)
   ·exact .inr (.inl ⟨.refl _,e⟩)
   ·exact .inl e
| bwd d _ f =>
  rename_i x y k _
  rcases A87.1 d with d|d
  ·rcases f with f|⟨j,e⟩|⟨j,e⟩
   ·exact .inl (.bwd d f)
   ·exact .inr (.inl ⟨.bwd d j,e⟩)
   ·exact .inr (.inr ⟨.bwd d j,e⟩)
  ·simp at d;obtain⟨rfl,rfl⟩:=d
   rcases f with f|⟨j,e⟩|⟨j,e⟩
   ·exact .inr (.inr ⟨.refl _,f⟩)
   ·exact .inl e
   ·exact .inr (.inr ⟨.refl _,e⟩)
def Conn.new{es:List (Nat×Nat)}{u v:Nat}:Conn (es++[(u,v)]) u v:=.fwd (A87.2 (.inr (by simp))) (.refl _)
def Conn.old{es:List (Nat×Nat)}{e:Nat×Nat}{a b:Nat}(h:Conn es a b):Conn (es++[e]) a b:=h.mono fun _ d=>A87.2 (.inl d)
def Ac7(es:List (Nat×Nat)):∀ u:Nat,∃ r,r<=u/\Conn es r u/\T1 es r:=by
 intro u
 induction u using Nat.strongRecOn with
| ind u f =>
  by_cases h:T1 es u
  ·exact⟨u,A86 _,.refl _,h⟩
  ·unfold T1 at h
   have:∃ a,a<u/\Conn es a u:=by
    apply Classical.byContradiction
    intro hn
    exact h fun a d e=>hn ⟨a,d,e⟩
   obtain⟨a,d,e⟩:=this
   obtain⟨r,l,j,k⟩:=f a d
   exact⟨r,by omega,j.trans e,k⟩
def UP{es:List (Nat×Nat)}{r a:Nat}(h:T1 es r)(d:Conn es a r):r<=a:=Bbz fun e=>h a e d
def Ac8{p q:Nat->Bool}{m:Nat}:∀{l:List Nat},l.Nodup->m∈l->p m=true->(∀ b∈l,q b=(p b&&decide (b≠m)))->(l.filter p).length=(l.filter q).length+1
|[],_,j,_,_=>by simp at j
| a::r,k,j,t,hq=>by
  rw[A96]at k
  by_cases n:a=m
  ·subst n
   have e:(r.filter p)=(r.filter q):=Bct fun b f=>by
    rw[hq b (A9r _ f)]
    have:b≠a:=fun e=>by subst e;exact k.1 f
    simp[this]
   have d:=hq a (by simp)
   simp at d
   simp[Ba3,t,d,e]
  ·have s:m∈r:=by
    rcases A88.1 j with h|h
    ·exact absurd h.symm n
    ·exact h
   have u:=Ac8 (p:=p) (q:=q) k.2 s t (fun b f=>hq b (A9r _ f))
   have d:=hq a (by simp)
   simp[n]at d
   rw[Ba3,Ba3,d]
   cases p a<;>simp[u]
def Aui{n:Nat}{es:List (Nat×Nat)}{u v:Nat}(h:Conn es u v):Ki n (es++[(u,v)])=Ki n es:=by
 unfold Ki
 congr 1
 apply Bct
 intro b _
 have:T1 (es++[(u,v)]) b↔T1 es b:=by
  constructor
  ·intro d a e j;exact d a e j.old
  ·intro d a e j
   rcases j.add with f|⟨f,k⟩|⟨f,k⟩
   ·exact d a e f
   ·exact d a e (f.trans (h.trans k))
   ·exact d a e (f.trans (h.symm.trans k))
 simp[this]
open Classical in
def Auj{n:Nat}{es:List (Nat×Nat)}{u v:Nat}(hu:u<n)(hv:v<n)(h:¬ Conn es u v):Ki n es=Ki n (es++[(u,v)])+1:=by
 obtain⟨ru,u1,u2,u3⟩:=Ac7 es u
 obtain⟨rv,v1,v2,v3⟩:=Ac7 es v
 have hne:ru≠rv:=fun e=>by subst e;exact h (u2.symm.trans v2)
 unfold Ki
 refine Ac8 (m:=max ru rv) List.nodup_range (by rw[List.mem_range];omega) ?_ ?_
 ·have:T1 es (max ru rv):=by rcases Nat.le_total ru rv with h1|h1<;>simp[h1,Nat.max_eq_right,Nat.max_eq_left,u3,v3]
  simp[this]
 ·intro b _
  have:T1 (es++[(u,v)]) b↔T1 es b/\b≠max ru rv:=by
   constructor
   ·intro hm
    refine⟨fun a ha hc=>hm a ha hc.old,fun e=>?_⟩
    rcases Nat.lt_or_gt_of_ne hne with h1|h1
    ·rw[Nat.max_eq_right (by omega)]at e;subst e
     exact hm ru h1 (u2.old.trans (Conn.new.trans v2.old.symm))
    ·rw[Nat.max_eq_left (by omega)]at e;subst e
     exact hm rv h1 (v2.old.trans (Conn.new.symm.trans u2.old.symm))
   ·rintro⟨hm,hne2⟩ a ha hc
    rcases hc.add with h1|⟨h1,h2⟩|⟨h1,h2⟩
    ·exact hm a ha h1
    ·
     have e1:b<=rv:=UP hm (v2.trans h2)
     have e2:rv<=b:=UP v3 (h2.symm.trans v2.symm)
     have e3:ru<=a:=UP u3 (h1.trans u2.symm)
     omega
    ·have e1:b<=ru:=UP hm (u2.trans h2)
     have e2:ru<=b:=UP u3 (h2.symm.trans u2.symm)
     have e3:rv<=a:=UP v3 (h1.trans v2.symm)
     omega
  have hd:decide (T1 (es++[(u,v)]) b)=decide (T1 es b/\b≠max ru rv):=by simp only[this]
  rw[hd]
  by_cases x:T1 es b<;>by_cases y:b=max ru rv<;>simp[x,y]
def Ayv(n:Nat):Ki n []=n:=by
 have h0:∀ a b,Conn [] a b->a=b:=by
  intro a b h
  induction h with
  |refl=>rfl
  |fwd d=>simp at d
  |bwd d=>simp at d
 unfold Ki
 rw[Bb6.2]
 ·simp
 ·intro b _
  have:T1 [] b:=fun a f e=>by have:=h0 a b e;omega
  simp[this]
def qV(L:List Int)(tx fr:Int):List Int:=L.map fun x=>cond (x==tx) fr x
def MG(st:List Int×Int)(e:Nat×Nat):List Int×Int:=cond (st.1.getD e.1 0==st.1.getD e.2 0) st (qV st.1 (st.1.getD e.2 0) (st.1.getD e.1 0),st.2 - 1)
def Aqy{f:Int->Int}{L:List Int}{a:Nat}(h:a<L.length):(L.map f).getD a 0=f (L.getD a 0):=by rw[A9e,A9e,Baw,A84 h];rfl
def Ayw{n:Nat}{es:List (Nat×Nat)}{st:List Int×Int}{e:Nat×Nat}(h:UfOk n es st)(q:e.1<n)(s:e.2<n):UfOk n (es++[e]) (MG st e):=by
 obtain⟨u,v⟩:=e
 unfold MG
 by_cases t:st.1.getD u 0=st.1.getD v 0
 ·have d:(st.1.getD u 0==st.1.getD v 0)=true:=by simpa using t
  simp only[d,cond_true]
  have f:=(h.iff u v q s).1 t
  refine⟨h.len,fun a b l m=>?_,by rw[Aui f];exact h.cnt⟩
  rw[h.iff a b l m]
  constructor
  ·exact Conn.old
  ·intro hx
   rcases hx.add with d|⟨d,j⟩|⟨d,j⟩
   ·exact d
   ·exact d.trans (f.trans j)
   ·exact d.trans (f.symm.trans j)
 ·have d:(st.1.getD u 0==st.1.getD v 0)=false:=by simpa using t
  simp only[d,cond_false]
  have f:¬ Conn es u v:=fun x=>t ((h.iff u v q s).2 x)
  refine⟨by simp[qV,h.len],fun a b l m=>?_,by
   have e:=Auj (n:=n) (es:=es) (u:=u) (v:=v) q s f
   show st.2 - 1=_
   rw[h.cnt,e];omega⟩
  have z:a<st.1.length:=by rw[h.len];exact l
  have A:b<st.1.length:=by rw[h.len];exact m
  unfold qV
  rw[Aqy z,Aqy A]
  have iff':=h.iff a b l m
  have av:=h.iff a v l s
  have bv:=h.iff b v m s
  have au:=h.iff a u l q
  have bu:=h.iff b u m q
  by_cases x:st.1.getD a 0=st.1.getD v 0<;>by_cases y:st.1.getD b 0=st.1.getD v 0
  ·have B:Conn es a b:=iff'.1 (x.trans y.symm)
   have x':(st.1.getD a 0==st.1.getD v 0)=true:=by simpa using x
   have k:(st.1.getD b 0==st.1.getD v 0)=true:=by simpa using y
   simp only[x',k,cond_true,true_iff]
   exact B.old
  ·have x':(st.1.getD a 0==st.1.getD v 0)=true:=by simpa using x
   have k:(st.1.getD b 0==st.1.getD v 0)=false:=by simpa using y
   simp only[x',k,cond_true,cond_false]
   constructor
   ·intro e;exact((av.1 x).old.trans Conn.new.symm).trans (bu.1 e.symm).symm.old
   ·intro hx
    rcases hx.add with d|⟨d,j⟩|⟨d,j⟩
    ·exact absurd (bv.2 (d.symm.trans (av.1 x))) y
    ·exact absurd (d.symm.trans (av.1 x)) f
    ·exact(bu.2 j.symm).symm
  ·have x':(st.1.getD a 0==st.1.getD v 0)=false:=by simpa using x
   have k:(st.1.getD b 0==st.1.getD v 0)=true:=by simpa using y
   simp only[x',k,cond_true,cond_false]
   constructor
   ·intro e;exact(au.1 e).old.trans (Conn.new.trans (bv.1 y).symm.old)
   ·intro hx
    rcases hx.add with d|⟨d,j⟩|⟨d,j⟩
    ·exact absurd (av.2 (d.trans (bv.1 y))) x
    ·exact au.2 d
    ·exact absurd (j.trans (bv.1 y)) f
  ·have x':(st.1.getD a 0==st.1.getD v 0)=false:=by simpa using x
   have k:(st.1.getD b 0==st.1.getD v 0)=false:=by simpa using y
   simp only[x',k,cond_false]
   rw[iff']
   constructor
   ·exact Conn.old
   ·intro hx
    rcases hx.add with d|⟨d,j⟩|⟨d,j⟩
    ·exact d
    ·exact absurd (bv.2 j.symm) y
    ·exact absurd (av.2 d) x
def A3t(n:Nat):UfOk n [] (Gs n,(n:Int)):=by
 refine⟨by simp[Gs],fun a b f j=>?_,by rw[Ayv]⟩
 simp only[hG f,hG j]
 constructor
 ·intro e;have:a=b:=by omega
  subst this;exact .refl _
 ·intro h
  have h0:∀ a b,Conn [] a b->a=b:=by
   intro a b h
   induction h with
   |refl=>rfl
   |fwd d=>simp at d
   |bwd d=>simp at d
  rw[h0 a b h]
def Awa{n:Nat}:∀(fs es:List (Nat×Nat))(st:List Int×Int),UfOk n es st->(∀ e∈fs,e.1<n/\e.2<n)->UfOk n (es++fs) (fs.foldl MG st)
|[],es,st,h,_=>by simpa using h
|e::r,es,st,h,d=>by
  rw[A9u]
  have:=Awa r (es++[e]) (MG st e) (Ayw h (d e (by simp)).1 (d e (by simp)).2) (fun x hx=>d x (A9r _ hx))
  simpa using this
def Aqz{n:Nat}{es:List (Nat×Nat)}(d:∀ e∈es,e.1<n/\e.2<n):(es.foldl MG (Gs n,(n:Int))).2=(Ki n es:Int):=by
 have:=(Awa es [] _ (A3t n) d).cnt
 simpa using this
end Gx.Cf
namespace Gx.Cf
open Go Go.Proofs
section
variable{R:Type}
def Aq0{f:Int->Int}{L:List Int}{j:Nat}(h:j<L.length):((L.take j).map f++L.drop j).set j (f L[j])=(L.take (j+1)).map f++L.drop (j+1):=by
 have d:j - ((L.take j).map f).length=0:=by simp;omega
 rw[Bcd _ _ (by simp;omega),d,A9q h,A93,Cj h,Bcq,A9l];rfl
def Aq1{f:Int->Int}{L:List Int}{j:Nat}(h:j<L.length):((L.take j).map f++L.drop j).getD j 0=L[j]:=by
 have d:j - ((L.take j).map f).length=0:=by simp;omega
 rw[A9e,Bb4 (by simp;omega),d,Cj h];rfl
def Ahi{f:Int->Int}{L:List Int}{j:Nat}(h:j<L.length)(d:f L[j]=L[j]):(L.take j).map f++L.drop j=(L.take (j+1)).map f++L.drop (j+1):=by rw[A9q h,A93,Cj h];simp[d]
def kQ{N:Nat}{c:CaseD}{L:List Int}{x7 x11 i32 i33 cnt:Int}{ls:List Int}{t1 o1 o0:Bool}{K1:Int->Int->Int->LA->O R}{K:Int->O R}(hs:L.length<4611686018427387904):∀(m j fuel:Nat),j+m=L.length->m<fuel ->
  Vw N K1 K L.length x7 x11 (Av ls) ls.length t1 o1 i32 i33 o0 c.av fuel cnt (L.length:Int) (j:Int) (Av ((L.take j).map (fun x=>cond (x==x11) x7 x)++L.drop j))=K1 cnt i32 (wrap .i64 (i33+1)) (Av (qV L x11 x7))
|0,j,fuel+1,l,_=>by
  rw[Vw];unfold HH
  rw[Gu (by omega),cf,Dm (by omega),A9g,A80 (by omega)];rfl
| m+1,j,fuel+1,l,d=>by
  rw[Vw];unfold HH
  have h:j<L.length:=by omega
  have e:((L.take j).map (fun x=>cond (x==x11) x7 x)++L.drop j).length=L.length:=by simp;omega
  have k:=kQ (N:=N) (c:=c) (L:=L) (x7:=x7) (x11:=x11) (i32:=i32) (i33:=i33) (cnt:=cnt) (ls:=ls) (t1:=t1) (o1:=o1) (o0:=o0) (K1:=K1) (K:=K) hs m (j+1) fuel (by omega) (by omega)
  rw[F1 h,ct,Ab h,ct,Ab9 (by rw[e];simpa using h),A8z,Aq1 h,ct,X' (by rw[e];exact h),ct,A89,A9j,DK,B0 (by omega)]
  cases hx:L[j]==x11 with
  |true =>
   have d:=Aq0 (f:=fun x=>cond (x==x11) x7 x) h
   simp only[hx,cond_true]at d
   rw[d,ct,k]
  |false =>
   rw[cf,Ahi h (by simp[hx]),k]
def QV{N:Nat}{c:CaseD}{ls:List Int}{t1 o1 o0:Bool}{K:Int->O R}(hN:8<=N)(e:Gn c.buses.l.length N)(q:ls.length<=6000000000000)(f:∀ l∈ls,∃ x,LnV c l x):∀(m j fuel:Nat)(st:List Int×Int),j+m=ls.length->m<fuel->st.1.length=c.buses.l.length->(-6000000000000+(m:Int)<=st.2/\st.2<=6000000000000) ->
  Mx N K c.buses.l.length (Av ls) ls.length t1 o1 o0 c.av fuel st.2 (ls.length:Int) (j:Int) (Av st.1)=K ((ls.drop j).map (Fg c) |>.foldl MG st).2
|0,j,fuel+1,st,t,_,_,_=>by
  rw[Mx];unfold HI
  rw[Gu (by omega),cf,Dm (l:=ls) (by omega)];rfl
|m+1,j,fuel+1,st,t,u,d,v=>by
  rw[Mx];unfold HI OH XF
  have h:j<ls.length:=by omega
  obtain⟨x,hx⟩:=f ls[j] (A9c h)
  have k:=QV (N:=N) (c:=c) (ls:=ls) (t1:=t1) (o1:=o1) (o0:=o0) (K:=K) hN e q f m (j+1) fuel st (by omega) (by omega) d (by omega)
  have n:=QV (N:=N) (c:=c) (ls:=ls) (t1:=t1) (o1:=o1) (o0:=o0) (K:=K) hN e q f m (j+1) fuel (qV st.1 (st.1.getD x.tl.toNat 0) (st.1.getD x.fr.toNat 0),st.2 - 1) (by omega) (by omega) (by simp[qV,d]) (by simp only;omega)
  rw[F1 h,ct,Ab h,ct,Xx h]
  simp only[F9,A0l hx,A0m hx]
  rw[V2 hx.l0 hx.lt,ct,V2 hx.f0 hx.f1,ct,Ab9 (by rw[d];exact hx.f1),ct,V2 hx.t0 hx.t1,ct,Ab9 (by rw[d];exact hx.t1),Alb hN,B0 (by omega),wrap_i64 (st.2 - 1) (by omega),Cj h]
  have s:=kQ (R:=R) (N:=N) (c:=c) (L:=st.1) (x7:=st.1.getD x.fr.toNat 0) (x11:=st.1.getD x.tl.toNat 0) (i32:=(ls.length:Int)) (i33:=(j:Int)) (cnt:=st.2 - 1) (ls:=ls) (t1:=t1) (o1:=o1) (o0:=o0) (K1:=Mx N K c.buses.l.length (Av ls) ls.length t1 o1 o0 c.av fuel) (K:=K) (by rw[d];exact e.2) st.1.length 0 N (by omega) (by rw[d];exact e.1)
  simp only[Bac,A9x,A9t,A9f,Baa,d,B0 (show j<4611686018427387904 by omega)]at s
  rw[s]
  rw[A9a,A9u,hY hx,MG]
  cases hq:st.1.getD x.fr.toNat 0==st.1.getD x.tl.toNat 0 with
  |true=>simp only[show(true==false)=false from rfl,cond_false,cond_true];exact k
  |false=>simp only[beq_self_eq_true,cond_false,cond_true];exact n
def kR{N:Nat}{c:CaseD}{ls:List Int}{t1 o1 o0:Bool}{K:Int->O R}(hN:8<=N)(d:Gn c.buses.l.length N)(n:c.buses.l.length<=6000000000000)(f:ls.length<=6000000000000)(hlN:ls.length<N)(k:∀ l∈ls,∃ x,LnV c l x)(L:List Int)(hL:L.length=c.buses.l.length):∀(m j fuel:Nat),j+m=c.buses.l.length->m<fuel ->
  Q6 N K (Av ls) ls.length t1 o1 c.buses.l.length o0 c.av fuel (c.buses.l.length:Int) (j:Int) (Av ((Gs c.buses.l.length).take j++L.drop j))=K ((ls).map (Fg c) |>.foldl MG (Gs c.buses.l.length,(c.buses.l.length:Int))).2
|0,j,fuel+1,q,_=>by
  rw[Q6];unfold HJ
  have:=QV (R:=R) (N:=N) (c:=c) (ls:=ls) (t1:=t1) (o1:=o1) (o0:=o0) (K:=K) hN d f k ls.length 0 N (Gs c.buses.l.length,(c.buses.l.length:Int)) (by omega) hlN (by simp[Gs]) (by simp only;omega)
  rw[Gu (by omega),cf,Dm (by omega),A9g,A80 (by simp[Gs];omega)]
  simpa using this
|m+1,j,fuel+1,q,s=>by
  rw[Q6];unfold HJ
  have h:j<c.buses.l.length:=by omega
  have e:((Gs c.buses.l.length).take j++L.drop j).length=c.buses.l.length:=by simp[Gs];omega
  rw[F1 h,ct,Ab h,ct,X' (by rw[e];simpa using h),ct,A8z,A89,A9j,DK,lj hL h,B0 (by omega),kR hN d n f hlN k L hL m (j+1) fuel (by omega) (by omega)]
def lq{N:Nat}{c:CaseD}{ls:List Int}{n:Nat}{t1 o1 o0:Bool}{K:Int->O R}(hn:n=ls.length)(hN:8<=N)(d:Gn c.buses.l.length N)(m:c.buses.l.length<=6000000000000)(q:ls.length<=6000000000000)(hlN:ls.length<N)(j:∀ l∈ls,∃ x,LnV c l x):
  eP N c.av o0 (Av ls) n t1 o1 K=K (Ki c.buses.l.length ((ls).map (Fg c)):Int):=by
 subst hn
 rw[oW];unfold gf
 have:=kR (R:=R) (N:=N) (c:=c) (ls:=ls) (t1:=t1) (o1:=o1) (o0:=o0) (K:=K) hN d m q hlN j (replicate c.buses.l.length 0) (by simp) c.buses.l.length 0 N (by omega) d.1
 rw[Aqz (by
  intro e k
  simp only[A9p]at k
  obtain⟨l,f,rfl⟩:=k
  obtain⟨x,hx⟩:=j l f
  rw[hY hx];exact⟨hx.f1,hx.t1⟩)] at this
 have ok:(decide ((0:Int)<=(c.buses.l.length:Int))&&(decide ((c.buses.l.length:Int)<=(c.buses.l.length:Int))&&(decide ((c.buses.l.length:Int)<=(140737488355328:Int))&&decide (((c.buses.l.length:Int)*((8:Nat):Int))<=(140737488355328:Int)))))=true:=by simp;omega
 rw[Dn,ok,ct]
 have e:replicate c.buses.l.length (AV.int .i64 (0:Int))=Av (replicate c.buses.l.length 0):=by simp[Av]
 rw[e]
 simpa using this
def UQ{N:Nat}{c:CaseD}{L:List Int}{x7 x11 i32 i33 cnt:Int}{ls:List Int}{t1 o1 o0:Bool}{gone:List Int}{t2 o2:Bool}{K1:Int->Int->Int->LA->O R}{K:Int->O R}(hs:L.length<4611686018427387904):∀(m j fuel:Nat),j+m=L.length->m<fuel ->
  Mm N K1 K (Av gone) gone.length t2 o2 L.length x7 x11 (Av ls) ls.length t1 o1 i32 i33 o0 c.av fuel cnt (L.length:Int) (j:Int) (Av ((L.take j).map (fun x=>cond (x==x11) x7 x)++L.drop j))=K1 cnt i32 (wrap .i64 (i33+1)) (Av (qV L x11 x7))
|0,j,fuel+1,l,_=>by
  rw[Mm];unfold Uj
  rw[Gu (by omega),cf,Dm (by omega),A9g,A80 (by omega)];rfl
| m+1,j,fuel+1,l,d=>by
  rw[Mm];unfold Uj
  have h:j<L.length:=by omega
  have e:((L.take j).map (fun x=>cond (x==x11) x7 x)++L.drop j).length=L.length:=by simp;omega
  have k:=UQ (N:=N) (c:=c) (L:=L) (x7:=x7) (x11:=x11) (i32:=i32) (i33:=i33) (cnt:=cnt) (ls:=ls) (t1:=t1) (o1:=o1) (o0:=o0) (gone:=gone) (t2:=t2) (o2:=o2) (K1:=K1) (K:=K) hs m (j+1) fuel (by omega) (by omega)
  rw[F1 h,ct,Ab h,ct,Ab9 (by rw[e];simpa using h),A8z,Aq1 h,ct,X' (by rw[e];exact h),ct,A89,A9j,DK,B0 (by omega)]
  cases hx:L[j]==x11 with
  |true =>
   have d:=Aq0 (f:=fun x=>cond (x==x11) x7 x) h
   simp only[hx,cond_true]at d
   rw[d,ct,k]
  |false =>
   rw[cf,Ahi h (by simp[hx]),k]
def Z4{N:Nat}{c:CaseD}{ls:List Int}{t1 o1 o0:Bool}{gone:List Int}{t2 o2:Bool}{K:Int->O R}(hN:8<=N)(e:Gn c.buses.l.length N)(s:ls.length<=6000000000000)(k:∀ l∈ls,∃ x,LnV c l x)(n:Gn gone.length N):∀(m j fuel:Nat)(st:List Int×Int),j+m=ls.length->m<fuel->st.1.length=c.buses.l.length->(-6000000000000+(m:Int)<=st.2/\st.2<=6000000000000) ->
  H6 N K (Av gone) gone.length t2 o2 c.buses.l.length (Av ls) ls.length t1 o1 o0 c.av fuel st.2 (ls.length:Int) (j:Int) (Av st.1)=K (((ls.drop j).filter fun l=>!gone.contains l).map (Fg c) |>.foldl MG st).2
|0,j,fuel+1,st,u,_,_,_=>by
  rw[H6];unfold Uk
  rw[Gu (by omega),cf,Dm (l:=ls) (by omega)];rfl
| m+1,j,fuel+1,st,u,y,d,z=>by
  rw[H6];unfold Uk W3 EF
  have h:j<ls.length:=by omega
  obtain⟨x,hx⟩:=k ls[j] (A9c h)
  have f:=Z4 (N:=N) (c:=c) (ls:=ls) (t1:=t1) (o1:=o1) (o0:=o0) (gone:=gone) (t2:=t2) (o2:=o2) (K:=K) hN e s k n m (j+1) fuel st (by omega) (by omega) d (by omega)
  have q:=Z4 (N:=N) (c:=c) (ls:=ls) (t1:=t1) (o1:=o1) (o0:=o0) (gone:=gone) (t2:=t2) (o2:=o2) (K:=K) hN e s k n m (j+1) fuel (qV st.1 (st.1.getD x.tl.toNat 0) (st.1.getD x.fr.toNat 0),st.2 - 1) (by omega) (by omega) (by simp[qV,d]) (by simp only;omega)
  rw[F1 h,ct,Ab h,ct,Xx h]
  simp only[F9,A0l hx,A0m hx]
  rw[V2 hx.l0 hx.lt,ct,V2 hx.f0 hx.f1,ct,Ab9 (by rw[d];exact hx.f1),ct,V2 hx.t0 hx.t1,ct,Ab9 (by rw[d];exact hx.t1),kF rfl n,B0 (by omega),wrap_i64 (st.2 - 1) (by omega),Cj h]
  have t:=UQ (R:=R) (N:=N) (c:=c) (L:=st.1) (x7:=st.1.getD x.fr.toNat 0) (x11:=st.1.getD x.tl.toNat 0) (i32:=(ls.length:Int)) (i33:=(j:Int)) (cnt:=st.2 - 1) (ls:=ls) (t1:=t1) (o1:=o1) (o0:=o0) (gone:=gone) (t2:=t2) (o2:=o2) (K1:=H6 N K (Av gone) gone.length t2 o2 c.buses.l.length (Av ls) ls.length t1 o1 o0 c.av fuel) (K:=K) (by rw[d];exact e.2) st.1.length 0 N (by omega) (by rw[d];exact e.1)
  simp only[Bac,A9x,A9t,A9f,Baa,d,B0 (show j<4611686018427387904 by omega)]at t
  rw[t]
  rw[Ba3]
  cases v:gone.contains ls[j]with
  |true =>
   simp only[Bat,cond_true,cond_false,Bbl,if_false]
   cases st.1.getD x.fr.toNat 0==st.1.getD x.tl.toNat 0<;>exact f
  |false =>
   simp only[A98,if_true]
   rw[A9a,A9u,hY hx,MG]
   cases hq:st.1.getD x.fr.toNat 0==st.1.getD x.tl.toNat 0 with
   |true=>simp only[show(true==false)=false from rfl,cond_false,cond_true];exact f
   |false=>simp only[beq_self_eq_true,cond_false,cond_true];exact q
def UR{N:Nat}{c:CaseD}{ls:List Int}{t1 o1 o0:Bool}{gone:List Int}{t2 o2:Bool}{K:Int->O R}(hN:8<=N)(d:Gn c.buses.l.length N)(q:c.buses.l.length<=6000000000000)(f:ls.length<=6000000000000)(hlN:ls.length<N)(k:∀ l∈ls,∃ x,LnV c l x)(n:Gn gone.length N)(L:List Int)(hL:L.length=c.buses.l.length):∀(m j fuel:Nat),j+m=c.buses.l.length->m<fuel ->
  Jy N K (Av ls) ls.length t1 o1 (Av gone) gone.length t2 o2 c.buses.l.length o0 c.av fuel (c.buses.l.length:Int) (j:Int) (Av ((Gs c.buses.l.length).take j++L.drop j))=K ((ls.filter fun l=>!gone.contains l).map (Fg c) |>.foldl MG (Gs c.buses.l.length,(c.buses.l.length:Int))).2
|0,j,fuel+1,s,_=>by
  rw[Jy];unfold Ul
  have:=Z4 (R:=R) (N:=N) (c:=c) (ls:=ls) (t1:=t1) (o1:=o1) (o0:=o0) (gone:=gone) (t2:=t2) (o2:=o2) (K:=K) hN d f k n ls.length 0 N (Gs c.buses.l.length,(c.buses.l.length:Int)) (by omega) hlN (by simp[Gs]) (by simp only;omega)
  rw[Gu (by omega),cf,Dm (by omega),A9g,A80 (by simp[Gs];omega)]
  simpa using this
|m+1,j,fuel+1,s,t=>by
  rw[Jy];unfold Ul
  have h:j<c.buses.l.length:=by omega
  have e:((Gs c.buses.l.length).take j++L.drop j).length=c.buses.l.length:=by simp[Gs];omega
  rw[F1 h,ct,Ab h,ct,X' (by rw[e];simpa using h),ct,A8z,A89,A9j,DK,lj hL h,B0 (by omega),UR hN d q f hlN k n L hL m (j+1) fuel (by omega) (by omega)]
def Afk{N:Nat}{c:CaseD}{ls:List Int}{n:Nat}{t1 o1 o0:Bool}{gone:List Int}{t2 o2:Bool}{n2:Nat}{K:Int->O R}(hn:n=ls.length)(f:n2=gone.length)(hN:8<=N)(d:Gn c.buses.l.length N)(q:c.buses.l.length<=6000000000000)(s:ls.length<=6000000000000)(hlN:ls.length<N)(k:∀ l∈ls,∃ x,LnV c l x)(t:Gn gone.length N):
  CW N c.av o0 (Av ls) n t1 o1 (Av gone) n2 t2 o2 K=K (Ki c.buses.l.length ((ls.filter fun l=>!gone.contains l).map (Fg c)):Int):=by
 subst hn f
 rw[ZT];unfold HK
 have:=UR (R:=R) (N:=N) (c:=c) (ls:=ls) (t1:=t1) (o1:=o1) (o0:=o0) (gone:=gone) (t2:=t2) (o2:=o2) (K:=K) hN d q s hlN k t (replicate c.buses.l.length 0) (by simp) c.buses.l.length 0 N (by omega) d.1
 rw[Aqz (by
  intro e m
  simp only[A9p,Bbg]at m
  obtain⟨l,j,rfl⟩:=m
  obtain⟨x,hx⟩:=k l j.1
  rw[hY hx];exact⟨hx.f1,hx.t1⟩)] at this
 have ok:(decide ((0:Int)<=(c.buses.l.length:Int))&&(decide ((c.buses.l.length:Int)<=(c.buses.l.length:Int))&&(decide ((c.buses.l.length:Int)<=(140737488355328:Int))&&decide (((c.buses.l.length:Int)*((8:Nat):Int))<=(140737488355328:Int)))))=true:=by simp;omega
 rw[Dn,ok,ct]
 have e:replicate c.buses.l.length (AV.int .i64 (0:Int))=Av (replicate c.buses.l.length 0):=by simp[Av]
 rw[e]
 simpa using this
def fm{N:Nat}{c:CaseD}{h:Int}{o:Bool}{K:Nat->LA->O R}(hs:Small c N):∀(m j fuel:Nat)(A:List Int),j+m=c.lines.l.length->m<fuel->A.length<=j ->
  N0 N K h (c.lines.l.flatMap LineD.av) c.lines.l.length o fuel A.length (c.lines.l.length:Int) (j:Int) (Av A)=K (A++QU h (c.lines.l.drop j) j).length (Av (A++QU h (c.lines.l.drop j) j))
|0,j,fuel+1,A,q,_,_=>by
  rw[N0];unfold BE
  rw[Gu (by omega),cf,Dm (by omega),QU,A9g]
| m+1,j,fuel+1,A,q,C,hA=>by
  rw[N0];unfold BE
  have d:j<c.lines.l.length:=by omega
  have n:=hs.top.2.1
  have s:c.lines.l[j]∈c.lines.l:=A9c d
  have t:=hs.law _ s
  rw[F1 d,ct,Ab d,ct,A8z,A3 Cm _ _ d,Cj d,QU]
  have e:=fm (N:=N) (c:=c) (h:=h) (o:=o) (K:=K) hs m (j+1) fuel (A++[(j:Int)]) (by omega) (by omega) (by simp;omega)
  have k:=fm (N:=N) (c:=c) (h:=h) (o:=o) (K:=K) hs m (j+1) fuel A (by omega) (by omega) (by omega)
  generalize c.lines.l[j]=b at *
  have u:ble 12 (List.length (b.av++List.flatMap LineD.av (drop (j+1) c.lines.l)))=true:=by rw[C1,A8y,Cm];simp
  have v:take 12 (b.av++List.flatMap LineD.av (drop (j+1) c.lines.l))=b.av:=A9w (Cm b)
  have x:(ble (A.length+1) 140737488355328&&ble ((A.length+1)*8) 140737488355328)=true:=by rw[C1,C1];simp;omega
  have y:∀ f:LA->Nat->O R,Bh 1 (drop 11 b.av) f=f (Av b.away.l) b.away.l.length:=fun f=>by simp[LineD.av,Cq,By]
  have z:take (A.length*1) (Av A)++[.int .i64 (j:Int)]=Av (A++[(j:Int)]):=xG (B:=[(j:Int)]) rfl
  rw[u,ct,v,Cm,show((beq 0 0)&&((beq 12 12)&&(beq 12 12)))=true from rfl,ct,y,kF rfl t,x,ct,z,B0 (by omega)]
  cases b.away.l.contains h with
  |true=>simp only[Bat,cond_false,cond_true];exact k
  |false =>
   simp only[A98,cond_true,cond_false]
   rw[A8y]at e
   simpa using e
def Aq2{N:Nat}{c:CaseD}{h:Int}{o:Bool}{K:Nat->LA->O R}(hs:Small c N):SZ N c.av o h K=K (A6 c h).length (Av (A6 c h)):=by
 rw[jq];unfold XE
 have:=fm (R:=R) (N:=N) (c:=c) (h:=h) (o:=o) (K:=K) hs c.lines.l.length 0 N [] (by omega) hs.lin.1 (by simp)
 rw[F9]
 simpa[A6,Av]using this
def Aq3{c:CaseD}{p:C7}{k i:Int}:take 8 (Dq c p k i)=c.av:=rfl
def A17{p:C7}{k i:Int}:(RO p k i).length=4:=by rcases p with _|⟨⟨a,b,f⟩,e⟩<;>rfl
def Awb{c:CaseD}{p:C7}{k i:Int}:ble 8 (List.length (Dq c p k i))=true:=by rw[C1,Dq,A8y,A17];simp[CaseD.av]
def qW{N:Nat}{c:CaseD}{w w0 o31:Bool}{h0:LA}{x1:Int}{hr:Int}(hs:Small c N)(v:PreV c):∀(m j fuel:Nat)(p:C7)(k i:Int),j+m=c.outs.l.length->m<fuel ->
  ∃ f n:Int,∀(K0:Int->Bool->LA->O R)(K:Bool->LA->O R),Lv N K0 K (A6 c hr).length (Ki c.buses.l.length ((A6 c hr).map (Fg c)):Int) x1 (c.outs.l.flatMap OutD.av) c.outs.l.length (Av (A6 c hr)) w0 h0 fuel hr hr o31 (c.outs.l.length:Int) (j:Int) w (Dq c p k i) =
   K0 (wrap .i64 (hr+1)) w (Dq c (Bc (Ak7 c hr) (c.outs.l.drop j) j p) f n)
|0,j,fuel+1,p,k,i,q,_=>by
  refine⟨k,i,fun K0 K=>?_⟩
  rw[Lv];unfold W5
  rw[Gu (by omega),cf,Dm (by omega),Bc]
| m+1,j,fuel+1,p,k,i,q,C=>by
  have h:j<c.outs.l.length:=by omega
  have hN:=hs.n64
  have s:c.outs.l[j]∈c.outs.l:=A9c h
  have t:=hs.oli _ s
  have d:=hs.top
  have u:=LQ hr c.lines.l 0
  have e:=hs.lin.1
  obtain⟨x,i1,y⟩:=qW (w:=w) (w0:=w0) (o31:=o31) (h0:=h0) (x1:=x1) (hr:=hr) hs v m (j+1) fuel (Ak7 c hr j c.outs.l[j] p) 6 j (by omega) (by omega)
  refine⟨x,i1,fun K0 K=>?_⟩
  rw[Lv];unfold W5
  rw[F1 h,ct,Ab h,ct,A8z,A3 Dd _ _ h,Cj h,Bc,<-y K0 K]
  generalize c.outs.l[j]=b at *
  have z:ble 4 (List.length (b.av++List.flatMap OutD.av (drop (j+1) c.outs.l)))=true:=by rw[C1,A8y,Dd];simp
  have A:take 4 (b.av++List.flatMap OutD.av (drop (j+1) c.outs.l))=b.av:=A9w (Dd b)
  rw[z,ct,A,Dd,show((beq 0 0)&&((beq 4 4)&&(beq 4 4)))=true from rfl,ct,Oe,Awb,ct,np,Aq3,A9j,A80 (by rw[Fp];exact A86 _),
   Afk rfl rfl (by omega) hs.bus d.1 (by unfold A6;omega) (by unfold A6;omega) (fun l B=>v.lnV B) t,Ax (by decide),B0 (by omega)]
  rfl
def qX{N H:Nat}{c:CaseD}{w w0:Bool}{h0:LA}(hs:Small c N)(v:PreV c)(hH:H<=24):∀(m j fuel:Nat)(p:C7)(k i:Int),j+m=H->m<fuel ->
  ∃ n q:Int,∀ K:Bool->LA->O R,Jc N K (H:Int) w0 h0 fuel (j:Int) w (Dq c p k i)=K w (Dq c (J5 c m j p) n q)
|0,j,fuel+1,p,k,i,s,_=>by
  refine⟨k,i,fun K=>?_⟩
  rw[Jc];unfold W6
  rw[Gu (by omega),cf,J5]
| m+1,j,fuel+1,p,k,i,s,A=>by
  have hN:=hs.n64
  have d:=hs.top
  have t:=LQ (j:Int) c.lines.l 0
  have e:=hs.lin.1
  obtain⟨u,i1,f⟩:=qW (R:=R) (w:=w) (w0:=w0) (o31:=w) (h0:=h0) (x1:=(H:Int)) (hr:=(j:Int)) hs v c.outs.l.length 0 N p k i (by omega) hs.out.1
  obtain⟨x,i2,y⟩:=qX (w:=w) (w0:=w0) (h0:=h0) hs v hH m (j+1) fuel (Bc (Ak7 c j) c.outs.l 0 p) u i1 (by omega) (by omega)
  refine⟨x,i2,fun K=>?_⟩
  rw[Jc];unfold W6
  simp only[A9f,Baa]at f
  rw[F1 (by omega),ct,Awb,ct,Aq3,Aq2 hs,ct,A9j,A80 (by rw[Fp];exact A86 _),
   lq rfl (by omega) hs.bus d.1 (by unfold A6;omega) (by unfold A6;omega) (fun l z=>v.lnV z),xH]
  dsimp only
  rw[f,B0 (by omega),y,J5]
def ww{N:Nat}{c:CaseD}{p:C7}{k i:Int}{w:Bool}(hs:Small c N)(v:PreV c):∃ d e:Int,∀ K:Bool->LA->O R,Zk N w (Dq c p k i) K=K w (Dq c (J5 c c.hours.toNat 0 p) d e):=by
 have f:=v.hours
 have hN:=hs.n64
 obtain⟨d,e,h⟩:=qX (R:=R) (w:=w) (w0:=w) (h0:=Dq c p k i) hs v (H:=c.hours.toNat) (by omega) c.hours.toNat 0 N p k i (by omega) (by omega)
 refine⟨d,e,fun K=>?_⟩
 rw[eV];unfold OJ
 rw[pj]
 have:=h K
 rw[Bcn (by omega)]at this
 simpa using this
def A3u{c:CaseD}{p:C7}{k i:Int}{w:Bool}{K:LA->Int->O R}{X:O R}:
  (As .i64 (drop 11 (Dq c p k i)) fun x3=>cond (x3 != (0:Int)) (cond (ble 3 (List.length (drop 8 (Dq c p k i)))) (cond ((!w)||(A0 (take 3 (drop 8 (Dq c p k i))))) (As .i64 (drop 11 (Dq c p k i)) fun x4=>cond ((beq (List.length (take 3 (drop 8 (Dq c p k i)))) 3)&&((ble 3 3)&&(!false))) (cond (ble 3 (List.length (setCells [.int .i64 (0:Int),.int .i64 (0:Int),.int .i64 (0:Int)] 0 (take 3 (drop 8 (Dq c p k i)))))) (K (take 3 (setCells [.int .i64 (0:Int),.int .i64 (0:Int),.int .i64 (0:Int)] 0 (take 3 (drop 8 (Dq c p k i))))) x4) none) none) none) none) X) =
  match p with|none=>X|some y=>K (w3 (some y)) y.2.1:=by
 rw[Mp]
 rcases p with _|⟨⟨a,b,f⟩,e,d⟩
 ·simp[B5]
 ·have j:(e != 0)=true:=by simpa using d
  rw[Mp]
  simp[B5,j,Dq,CaseD.av,RO,w3,A0,C1,MI,setCells,C3]
def kS(K:LA->Int->O R)(X:Bool->LA->O R)(y1:Bool)(y2:LA):O R:=(As .i64 (drop 11 y2) fun x3=>cond (x3 != (0:Int)) (cond (ble 3 (List.length (drop 8 y2))) (cond ((!y1)||(A0 (take 3 (drop 8 y2)))) (As .i64 (drop 11 y2) fun x4=>cond ((beq (List.length (take 3 (drop 8 y2))) 3)&&((ble 3 3)&&(!false))) (cond (ble 3 (List.length (setCells [.int .i64 (0:Int),.int .i64 (0:Int),.int .i64 (0:Int)] 0 (take 3 (drop 8 y2))))) (K (take 3 (setCells [.int .i64 (0:Int),.int .i64 (0:Int),.int .i64 (0:Int)] 0 (take 3 (drop 8 y2)))) x4) none) none) none) none) (X y1 y2))
def DQ{c:CaseD}{p:C7}{k i:Int}{w:Bool}{K:LA->Int->O R}{X:Bool->LA->O R}:kS K X w (Dq c p k i)=match p with|none=>X w (Dq c p k i)|some y=>K (w3 (some y)) y.2.1:=by unfold kS;exact A3u
def A6u{N fuel:Nat}{w:Bool}{h:LA}{K:LA->Int->O R}:Be N K (fuel+1) 0 w h=SP N w h (kS K (Be N K fuel 1)):=by
 rw[Be];unfold Gd
 rw[show decide ((0:Int)<8)=true from rfl,ct,show Ad (0:Int) 8=true from rfl,ct]
 rfl
def A6v{N fuel:Nat}{w:Bool}{h:LA}{K:LA->Int->O R}:Be N K (fuel+1) 1 w h=SR N w h (kS K (Be N K fuel 2)):=by
 rw[Be];unfold Gd
 rw[show decide ((1:Int)<8)=true from rfl,ct,show Ad (1:Int) 8=true from rfl,ct]
 rfl
def A6w{N fuel:Nat}{w:Bool}{h:LA}{K:LA->Int->O R}:Be N K (fuel+1) 2 w h=SV N w h (kS K (Be N K fuel 3)):=by
 rw[Be];unfold Gd
 rw[show decide ((2:Int)<8)=true from rfl,ct,show Ad (2:Int) 8=true from rfl,ct]
 rfl
def A6x{N fuel:Nat}{w:Bool}{h:LA}{K:LA->Int->O R}:Be N K (fuel+1) 3 w h=SX N w h (kS K (Be N K fuel 4)):=by
 rw[Be];unfold Gd
 rw[show decide ((3:Int)<8)=true from rfl,ct,show Ad (3:Int) 8=true from rfl,ct]
 rfl
def A6y{N fuel:Nat}{w:Bool}{h:LA}{K:LA->Int->O R}:Be N K (fuel+1) 4 w h=IM N w h (kS K (Be N K fuel 5)):=by
 rw[Be];unfold Gd
 rw[show decide ((4:Int)<8)=true from rfl,ct,show Ad (4:Int) 8=true from rfl,ct]
 rfl
def A6z{N fuel:Nat}{w:Bool}{h:LA}{K:LA->Int->O R}:Be N K (fuel+1) 5 w h=gd N w h (kS K (Be N K fuel 6)):=by
 rw[Be];unfold Gd
 rw[show decide ((5:Int)<8)=true from rfl,ct,show Ad (5:Int) 8=true from rfl,ct]
 rfl
def A60{N fuel:Nat}{w:Bool}{h:LA}{K:LA->Int->O R}:Be N K (fuel+1) 6 w h=Zh N w h (kS K (Be N K fuel 7)):=by
 rw[Be];unfold Gd
 rw[show decide ((6:Int)<8)=true from rfl,ct,show Ad (6:Int) 8=true from rfl,ct]
 rfl
def A61{N fuel:Nat}{w:Bool}{h:LA}{K:LA->Int->O R}:Be N K (fuel+1) 7 w h=Zk N w h (kS K (Be N K fuel 8)):=by
 rw[Be];unfold Gd
 rw[show decide ((7:Int)<8)=true from rfl,ct,show Ad (7:Int) 8=true from rfl,ct]
 rfl
def QW {N:Nat} {c:CaseD} {o:Bool} {K:LA->Int->O R} (hs:Small c N):CX N c.av o K=K (w3 (In c)) (B5 (In c)):=by
 have hN:=hs.n64
 have x:setCells [.int .i64 (0:Int),.nsl,.nsl,.nsl,.nsl,.nsl,.nsl,.nsl,.int .i64 (0:Int),.int .i64 (0:Int),.int .i64 (0:Int),.int .i64 (0:Int)] 0 c.av=Dq c none 0 0:=rfl
 rw[o_];unfold gg
 rw[D2,Ik,ct,x,show((beq (List.length c.av) 8)&&(ble 8 12))=true from rfl,ct]
 obtain⟨n,hn⟩:∃ n,N=n+9:=⟨N - 9,by omega⟩
 have fin:∀(y:(Int×Int×Int)×{e:Int // e≠0}),IE c=some y->K (w3 (some y)) y.2.1=K (w3 (In c)) (B5 (In c)):=by
  intro y z
  unfold In;rw[z];rfl
 have st:Be N K N 0 (o||false) (Dq c none 0 0)=Be N K (n+9) 0 (o||false) (Dq c none 0 0):=by rw[<-hn]
 try dsimp only
 rw[st,A6u,Aff hs,DQ]
 cases d:Ze c none with
|some y =>
  refine fin y ?_
  unfold IE;simp only;rw[d,Bk (fun _ _=>TX _ _ _),Bk (fun _ _=>Zx _ _ _),Bk (fun _ _=>Ve _ _ _),Bk (fun _ _=>M2 _ _ _),Bk (fun _ _=>Su _ _ _),Bk (fun _ _=>Mk)]
| none =>
  try dsimp only
  rw[A6v]
  obtain⟨A,i1,B⟩:=Afg (R:=R) (p:=none) (k:=0) (i:=0) (w:=(o||false)) hs
  rw[B,DQ]
  cases f:Bc (lP c) c.buses.l 0 none with
  |some y =>
   refine fin y ?_
   unfold IE;simp only;rw[d,f,Bk (fun _ _=>Zx _ _ _),Bk (fun _ _=>Ve _ _ _),Bk (fun _ _=>M2 _ _ _),Bk (fun _ _=>Su _ _ _),Bk (fun _ _=>Mk)]
  | none =>
   try dsimp only
   rw[A6w]
   obtain⟨C,i2,D⟩:=Afh (R:=R) (p:=none) (k:=A) (i:=i1) (w:=(o||false)) hs
   rw[D,DQ]
   cases j:Bc (X0 c) c.lines.l 0 none with
   |some y =>
    refine fin y ?_
    unfold IE;simp only;rw[d,f,j,Bk (fun _ _=>Ve _ _ _),Bk (fun _ _=>M2 _ _ _),Bk (fun _ _=>Su _ _ _),Bk (fun _ _=>Mk)]
   | none =>
    try dsimp only
    rw[A6x]
    obtain⟨F,i3,G⟩:=Afj (R:=R) (p:=none) (k:=C) (i:=i2) (w:=(o||false)) hs
    rw[G,DQ]
    cases m:Bc (CL c) c.units.l 0 none with
    |some y =>
     refine fin y ?_
     unfold IE;simp only;rw[d,f,j,m,Bk (fun _ _=>M2 _ _ _),Bk (fun _ _=>Su _ _ _),Bk (fun _ _=>Mk)]
    | none =>
     try dsimp only
     rw[A6y]
     obtain⟨I,i4,L⟩:=Ac6 (R:=R) (p:=none) (k:=F) (i:=i3) (w:=(o||false)) hs
     rw[L,DQ]
     cases q:Bc (Qr c) c.stores.l 0 none with
     |some y =>
      refine fin y ?_
      unfold IE;simp only;rw[d,f,j,m,q,Bk (fun _ _=>Su _ _ _),Bk (fun _ _=>Mk)]
     | none =>
      try dsimp only
      rw[A6z]
      obtain⟨M,i5,S⟩:=Alr (R:=R) (p:=none) (k:=I) (i:=i4) (w:=(o||false)) hs
      rw[S,DQ]
      cases t:Bc (lR c) c.ties.l 0 none with
      |some y =>
       refine fin y ?_
       unfold IE;simp only;rw[d,f,j,m,q,t,Bk (fun _ _=>Mk)]
      | none =>
       try dsimp only
       rw[A60]
       obtain⟨T,i6,U⟩:=wv (R:=R) (p:=none) (k:=M) (i:=i5) (w:=(o||false)) hs
       rw[U,DQ]
       cases u:Bc (SK c) c.outs.l 0 none with
       |some y =>
        refine fin y ?_
        unfold IE;simp only;rw[d,f,j,m,q,t,u]
       | none =>
        have s:IE c=none:=by unfold IE;simp only;rw[d,f,j,m,q,t,u]
        have v:=Agt s
        try dsimp only
        rw[A61]
        obtain⟨k7,i7,V⟩:=ww (R:=R) (p:=none) (k:=T) (i:=i6) (w:=(o||false)) hs v
        rw[V,DQ]
        have X:In c=J5 c c.hours.toNat 0 none:=by unfold In;rw[s]
        rw[X]
        cases hq:J5 c c.hours.toNat 0 none with
        |some y=>rfl
        |none =>
         try dsimp only
         rw[Be];unfold Gd
         rfl
end
end Gx.Cf
namespace Gx.Ct
open Go Go.Proofs Gx.Cf
def Aq4(H:Int)(res:List Int)(bs:List BusD)(ls:List LineD)(us:List UnitD)(ss:List StoreD)(ts:List TieD)(os:List OutD):CaseD:=⟨H,.of res false false,.of bs false false,.of ls false false,.of us false false,.of ss false false,.of ts false false,.of os false false⟩
structure Six(c:CaseD):Prop where
 b:c.buses.l.length<=6000000000000
 l:c.lines.l.length<=6000000000000
 u:c.units.l.length<=6000000000000
 s:c.stores.l.length<=6000000000000
 t:c.ties.l.length<=6000000000000
 o:c.outs.l.length<=6000000000000
 m:∀ x∈c.outs.l,x.moves.l.length<=6000000000000
def Aq5{N:Nat}{c:CaseD}(hN:20000000000000<N)(hI:CaseI 20000000000000 c)(x:Six c):Small c N:=by
 have f:∀ n:Nat,n<=20000000000000->Gn n N:=fun n h=>⟨by omega,by omega⟩
 have x1:=x.b;have x2:=x.l;have x3:=x.u;have x4:=x.s;have x5:=x.t;have x6:=x.o
 exact⟨by omega,f _ hI.r.2,f _ (by omega),f _ (by omega),f _ (by omega),f _ (by omega),f _ (by omega),f _ (by omega),fun b h=>f _ (hI.b b h).d.2,fun b h=>f _ (hI.l b h).a.2,fun b h=>f _ (hI.u b h).s.2,fun b h=>f _ (hI.u b h).a.2,fun b h=>f _ (hI.t b h).i.2,fun b h=>f _ (hI.t b h).e.2,fun b h=>f _ (hI.t b h).p.2,fun b h=>f _ (hI.o b h).l,fun b h=>f _ (hI.o b h).m.2,fun b h=>by have:=x.m b h;omega,x1,x2,x3,x4,x5,x6⟩
def A18{N:Nat}{c:CaseD}(h:Small c N):Small (QX c) N:=by
 obtain⟨a1,a2,a3,a4,a5,a6,a7,a8,f,j,k,m,n,q,s,t,u,c1,d⟩:=h
 have l1:(QX c).buses.l.length=c.buses.l.length:=A85 ..
 have l2:(QX c).lines.l.length=c.lines.l.length:=A85 ..
 have l3:(QX c).units.l.length=c.units.l.length:=A85 ..
 have l4:(QX c).ties.l.length=c.ties.l.length:=A85 ..
 have l5:(QX c).outs.l.length=c.outs.l.length:=A85 ..
 refine⟨a1,a2,by rw[l1];exact a3,by rw[l2];exact a4,by rw[l3];exact a5,a6,by rw[l4];exact a7,by rw[l5];exact a8,fun x hx=>?_,fun x hx=>?_,fun x hx=>?_,fun x hx=>?_,fun x hx=>?_,fun x hx=>?_,fun x hx=>?_,fun x hx=>?_,fun x hx=>?_,fun x hx=>?_,by rw[l1,l2,l3,l4,l5];exact d⟩
 all_goals obtain⟨y,e,rfl⟩:=A9p.1 hx
 ·exact f y e
 ·exact j y e
 ·exact k y e
 ·exact m y e
 ·exact n y e
 ·exact q y e
 ·exact s y e
 ·exact t y e
 ·exact u y e
 ·exact c1 y e
def Awc{c:CaseD}(g:TY c):Six c:=by
 have f:=Av9 (Ahh g)
 have n:=f.n
 exact⟨by omega,by omega,by omega,by omega,by omega,by omega,fun x hx=>by have:=(f.o x hx).2.2.2.1;omega⟩
section
variable{R:Type}{N:Nat}{H:Int}{res:List Int}{bs:List BusD}{ls:List LineD}{us:List UnitD}{ss:List StoreD}{ts:List TieD}{os:List OutD}
def Ahj{l:List Int}{K:Bool->O R}{c d:CaseD}{f:Bool}(q:fit 2000 N)(hN:20000000000000<N)(g:TY c)(s:∀ K:LA->O R,WV N (Av l) l.length false false K=K c.av)(t:CaseI 20000000000000 d)(hx:Six d):
  ∀(m j fuel:Nat),j+m=2->m<fuel->Cg N K (Av l) l.length false false fuel (j:Int) f (c.av++d.av)=K true
|0,j,fuel+1,x,_=>by
  obtain rfl:j=2:=by omega
  rw[Cg];unfold Hz
  rw[show(decide (((2:Nat):Int)<2))=false from rfl,cf,s,QW (Aq5 hN (Ag7 (M:=20000000000000) (by decide) g).1 (Awc g)),Ahh g]
  show PK N _=_
  rw[Uu];rfl
| m+1,j,fuel+1,x,z=>by
  have A:=Ahj (K:=K) (f:=f) q hN g s t hx m (j+1) fuel (by omega) (by omega)
  have go:∀ e:CaseD,CaseI 20000000000000 e->Six e->(drop (0+(Int.toNat (j:Int))*8) (c.av++d.av)).take 8=e.av->ble 8 (drop (0+(Int.toNat (j:Int))*8) (c.av++d.av)).length=true->Cg N K (Av l) l.length false false (fuel+1) (j:Int) f (c.av++d.av)=K true:=fun e k B C D=>by
   have sm:=Aq5 hN k B
   rw[Cg];unfold Hz
   rw[decide_eq_true (show(j:Int)<2 by omega),ct,show Ad (j:Int) 2=true by simp[Ad];omega,ct,D,ct,C,show((beq 0 0)&&((beq e.av.length 8)&&(beq 8 8)))=true from rfl,ct,Ik,ct,D2,OO (by omega),A,QW sm]
   cases u:In e with
   |some y => 
    have:(B5 (some y) != 0)=true:=by simp[B5,y.2.2]
    rw[this];rfl
   |none =>
    have a:=A14 k (Av9 u)
    have v:=A5k a
    show IN N e.av f _=_
    rw[Ap9 fX Avu hN k,v,show Aw6 e=FF e by unfold Aw6;rw[if_pos v],Auf q (by omega) a]
    show CX N (QX e).av false _=_
    rw[QW (A18 sm),A16,u];rfl
  have n:j=0\/j=1:=by omega
  rcases n with rfl|rfl
  ·exact go c (Ag7 (M:=20000000000000) (by decide) g).1 (Awc g) rfl rfl
  ·exact go d t hx rfl rfl
def Aq6{l:List Int}{K:Bool->O R}(e:fit 2000 N)(hN:20000000000000<N)(hr:CaseI 20000000000000 (Aq4 H res bs ls us ss ts os))(hx:Six (Aq4 H res bs ls us ss ts os))(j:l.length<=9223372036854775807):
  Lo N H (res.flatMap O9) res.length false false (bs.flatMap BusD.av) bs.length false false (ls.flatMap LineD.av) ls.length false false (us.flatMap UnitD.av) us.length false false (ss.flatMap StoreD.av) ss.length false false (ts.flatMap TieD.av) ts.length false false (os.flatMap OutD.av) os.length false false (Av l) l.length false false K=K true:=by
 rw[T3];unfold Kd
 obtain⟨c,g,d⟩:=Ala (R:=R) (N:=N) (l:=l) (n:=l.length) (t:=false) (o:=false) rfl (by omega) j
 rw[d]
 exact Ahj (f:=false) e hN g d hr hx 2 0 N (by omega) (by omega)
end
end Gx.Ct
namespace Gx
open Go Go.Proofs Go.RowKit Go.ChangeShapes
def A5r{n:Int}(h:(Lit.int .i64 n).wf=true):-9223372036854775808<=n/\n<=9223372036854775807:=by simp only[Lit.wf,A81,decide_eq_true_eq,show IntKind.i64.min=-9223372036854775808 from rfl,show IntKind.i64.max=9223372036854775807 from rfl]at h;omega
open Cf Ct
section
def F0:OpensW Tryz.prog 3 (α:={z:Int // JR z}) (fun n=>[.int .i64 n.1]) 1:=(Af3 Tryz.underlying3 (by kernel_rfl)).w.map _ (fun n=>⟨n.1,A5r n.2⟩) (fun _=>rfl) (fun _=>rfl)
def Ahk:OpensW Tryz.prog 9 (α:=Lu) (fun s=>[.str s]) 1:=(Air Tryz.underlying9 (by kernel_rfl)).w.map _ (fun n=>n.1) (fun _=>rfl) (fun _=>rfl)
def A5s:OpensW Tryz.prog 4 (α:=Bool) (fun b=>[.bool b]) 1:=(Ar4 Tryz.underlying4 (by kernel_rfl)).w
def Aq7{q:Int->Prop}:∀ m:List {n:Int // q n},m.flatMap (fun n=>[AV.int .i64 n.1])=(m.map (·.1)).flatMap O9
|[]=>rfl
|a::r=>by rw[A9o,Aq7 r];rfl
def Awd{α:Type}{q:α->Prop}(l:List {a:α // q a}):∀ x∈l.map (·.1),q x:=fun x hx=>by obtain⟨y,_,rfl⟩:=A9p.1 hx;exact y.2
def LP{α:Type}(q:α->Prop)(l:List α):Prop:=(∀ x∈l,q x)/\l.length<=20000000000000
def A19{t d:TypeId}{α:Type}{q:α->Prop}{e:α->LA}{n:Nat}(f:Tryz.prog.underlying t=some (.slice d))(j:Tryz.prog.cellsOf t=1)(m:8<=Tryz.prog.bytesOf d)
  (h:OpensW Tryz.prog d (α:={b:α // q b}) (fun b=>e b.1) n):OpensW Tryz.prog t (α:={l:List α // LP q l}) (fun l=>[.imm (l.1.flatMap e) l.1.length n false false]) 1 :=
 (m0 (k:=8) f j h m).map _ (fun l=>⟨l.1.map (·.1),Awd l.1,by rw[A85];have:=l.2;have:reachBytes=140737488351232:=rfl;omega⟩)
  (fun l=>by show [AV.imm (l.1.flatMap fun b=>e b.1) l.1.length n false false]=[AV.imm ((l.1.map (·.1)).flatMap e) (l.1.map (·.1)).length n false false];rw[List.flatMap_map,A85]) (fun _=>rfl)
def A3v:OpensW Tryz.prog 22 (α:={l:List Int // LP JR l}) (fun l=>[.imm (l.1.flatMap O9) l.1.length 1 false false]) 1:=A19 (e:=O9) Tryz.underlying22 (by kernel_rfl) (of_decide_eq_true (by kernel_rfl)) F0
def A70{α:Type}(q:α->Prop)(l:List α):Prop:=(∀ x∈l,q x)/\l.length<=6000000000000
def YM{t d:TypeId}{α:Type}{q:α->Prop}{e:α->LA}{n:Nat}(f:Tryz.prog.underlying t=some (.slice d))(j:Tryz.prog.cellsOf t=1)(m:24<=Tryz.prog.bytesOf d)
  (h:OpensW Tryz.prog d (α:={b:α // q b}) (fun b=>e b.1) n):OpensW Tryz.prog t (α:={l:List α // A70 q l}) (fun l=>[.imm (l.1.flatMap e) l.1.length n false false]) 1 :=
 (m0 (k:=24) f j h m).map _ (fun l=>⟨l.1.map (·.1),Awd l.1,by rw[A85];have:=l.2;have:reachBytes=140737488351232:=rfl;omega⟩)
  (fun l=>by show [AV.imm (l.1.flatMap fun b=>e b.1) l.1.length n false false]=[AV.imm ((l.1.map (·.1)).flatMap e) (l.1.map (·.1)).length n false false];rw[List.flatMap_map,A85]) (fun _=>rfl)
def YN{α:Type}{q:α->Prop}{l:List α}(h:A70 q l):(∀ x∈l,q x)/\l.length<=6000000000000:=h
def A2a{α:Type}{q:α->Prop}{l:List α}(h:LP q l):(∀ x∈l,q x)/\l.length<=20000000000000:=h
def mF:OpensW Tryz.prog 22 (α:={s:Sl Int // Anj 20000000000000 s}) (fun s=>[s.1.av 1 O9]) 1:=A3v.map _ (fun l=>⟨.of l.1 false false,A2a l.2⟩) (fun _=>rfl) (fun _=>rfl)
def Als:OpensW Tryz.prog 52 (α:={f:FracD // JR f.num/\JR f.den}) (fun f=>[.int .i64 f.1.num,.int .i64 f.1.den]) 2:=(F3 Tryz.underlying52 (by kernel_rfl) (by decide) (Ai rfl F0 (Ai rfl F0 I7))).map _ (fun p=>⟨⟨p.1.1,p.2.1.1⟩,p.1.2,p.2.1.2⟩) (fun _=>rfl) (fun _=>rfl)
def ED:OpensW Tryz.prog 56 (α:={l:List SegD // LP (fun s=>JR s.width/\JR s.price) l}) (fun l=>[.imm (l.1.flatMap SegD.av) l.1.length 2 false false]) 1:=A19 Tryz.underlying56 (by kernel_rfl) (of_decide_eq_true (by kernel_rfl)) ((F3 Tryz.underlying96 (by kernel_rfl) (by decide) (Ai rfl F0 (Ai rfl F0 I7))).map _ (fun p=>⟨⟨p.1.1,p.2.1.1⟩,p.1.2,p.2.1.2⟩) (fun _=>rfl) fun _=>rfl)
def A3w:OpensW Tryz.prog 64 (α:={l:List MoveD // A70 (fun m=>JR m.up/\JR m.down) l}) (fun l=>[.imm (l.1.flatMap MoveD.av) l.1.length 3 false false]) 1:=YM Tryz.underlying64 (by kernel_rfl) (of_decide_eq_true (by kernel_rfl)) ((F3 Tryz.underlying98 (by kernel_rfl) (by decide) (Ai rfl F0 (Ai rfl F0 (Ai rfl F0 I7)))).map _ (fun p=>⟨⟨p.1.1,p.2.1.1,p.2.2.1.1⟩,p.2.1.2,p.2.2.1.2⟩) (fun _=>rfl) fun _=>rfl)
def A62:OpensW Tryz.prog 50 (α:={b:BusD // BusI 20000000000000 b}) (fun b=>b.1.av) 3:=(F3 Tryz.underlying50 (by kernel_rfl) (by decide) (Ai rfl Ahk (Ai rfl mF (Ai rfl F0 I7)))).map _ (fun p=>⟨⟨p.1,p.2.1.1,p.2.2.1.1⟩,p.2.1.2,p.2.2.1.2⟩) (fun _=>rfl) (fun _=>rfl)
def A5t:OpensW Tryz.prog 54 (α:={b:LineD // LineI 20000000000000 b}) (fun b=>b.1.av) 12 :=
 (F3 Tryz.underlying54 (by kernel_rfl) (by decide) (Ai rfl Ahk (Ai rfl F0 (Ai rfl F0 (Ai rfl Als (Ai rfl Als (Ai rfl Als (Ai rfl F0 (Ai rfl F0 (Ai rfl mF I7)))))))))).map _
  (fun ⟨a,b,c,d,e,f,g,h,i,_⟩=>⟨⟨a,b.1,c.1,d.1,e.1,f.1,g.1,h.1,i.1⟩,d.2,e.2,f.2,⟨g.2,h.2⟩,i.2⟩) (fun _=>rfl) (fun _=>rfl)
def A5u:OpensW Tryz.prog 58 (α:={b:UnitD // UnitI 20000000000000 b}) (fun b=>b.1.av) 22 :=
 (F3 Tryz.underlying58 (by kernel_rfl) (by decide) (Ai rfl Ahk (Ai rfl F0 (Ai rfl F0 (Ai rfl F0 (Ai rfl ED (Ai rfl F0 (Ai rfl F0 (Ai rfl F0 (Ai rfl F0 (Ai rfl F0 (Ai rfl F0
  (Ai rfl F0 (Ai rfl F0 (Ai rfl F0 (Ai rfl F0 (Ai rfl F0 (Ai rfl F0 (Ai rfl F0 (Ai rfl mF (Ai rfl F0 (Ai rfl F0 (Ai rfl F0 I7))))))))))))))))))))))).map _
  (fun ⟨a,b,c,d,s,f,g,h,i,j,k,l,m,n,o,p,q,r,w,x,y,z,_⟩=>⟨⟨a,b.1,c.1,d.1,.of s.1 false false,f.1,g.1,h.1,i.1,j.1,k.1,l.1,m.1,n.1,o.1,p.1,q.1,r.1,w.1,x.1,y.1,z.1⟩,
   by simp only[A88,A9v,or_false,forall_eq_or_imp,forall_eq];exact⟨c.2,d.2,f.2,g.2,h.2,i.2,j.2,k.2,l.2,m.2,n.2,o.2,p.2,q.2,r.2,y.2,z.2⟩,A2a s.2,w.2⟩) (fun _=>rfl) (fun _=>rfl)
def A3x:OpensW Tryz.prog 61 (α:={b:StoreD // StoreI 20000000000000 b}) (fun b=>b.1.av) 9 :=
 (F3 Tryz.underlying61 (by kernel_rfl) (by decide) (Ai rfl Ahk (Ai rfl F0 (Ai rfl F0 (Ai rfl F0 (Ai rfl F0 (Ai rfl F0 (Ai rfl F0 (Ai rfl Als I7))))))))).map _
  (fun ⟨a,b,c,d,e,f,g,h,_⟩=>⟨⟨a,b.1,c.1,d.1,e.1,f.1,g.1,h.1⟩,⟨by simp only[A88,A9v,or_false,forall_eq_or_imp,forall_eq];exact⟨c.2,d.2,e.2,f.2,g.2,h.2.1,h.2.2⟩⟩⟩) (fun _=>rfl) (fun _=>rfl)
def A63:OpensW Tryz.prog 63 (α:={b:TieD // TieI 20000000000000 b}) (fun b=>b.1.av) 5 :=
 (F3 Tryz.underlying63 (by kernel_rfl) (by decide) (Ai rfl Ahk (Ai rfl F0 (Ai rfl mF (Ai rfl mF (Ai rfl mF I7)))))).map _
  (fun ⟨a,b,c,d,e,_⟩=>⟨⟨a,b.1,c.1,d.1,e.1⟩,c.2,d.2,e.2⟩) (fun _=>rfl) (fun _=>rfl)
def A64:OpensW Tryz.prog 66 (α:={b:OutD // OutI 20000000000000 b/\b.moves.l.length<=6000000000000}) (fun b=>b.1.av) 4 :=
 (F3 Tryz.underlying66 (by kernel_rfl) (by decide) (Ai rfl Ahk (Ai rfl mF (Ai rfl A5s (Ai rfl A3w I7))))).map _
  (fun ⟨a,b,c,d,_⟩=>⟨⟨a,b.1,c,.of d.1 false false⟩,⟨b.2.2,⟨(YN d.2).1,Bag (YN d.2).2 (by decide)⟩⟩,(YN d.2).2⟩) (fun _=>rfl) (fun _=>rfl)
def A8c(H:Int)(res:List Int)(bs:List BusD)(ls:List LineD)(us:List UnitD)(ss:List StoreD)(ts:List TieD)(os:List OutD):Prop:=CaseI 20000000000000 (Aq4 H res bs ls us ss ts os)/\Six (Aq4 H res bs ls us ss ts os)
def A71:OpensW Tryz.prog 30 (α:={c:CaseD // ∃ H res bs ls us ss ts os,c=Aq4 H res bs ls us ss ts os/\A8c H res bs ls us ss ts os}) (fun c=>c.1.av) 8 :=
 (F3 Tryz.underlying30 (by kernel_rfl) (by decide) (Ai rfl F0 (Ai rfl A3v (Ai rfl (YM Tryz.underlying23 (by kernel_rfl) (of_decide_eq_true (by kernel_rfl)) A62)
  (Ai rfl (YM Tryz.underlying24 (by kernel_rfl) (of_decide_eq_true (by kernel_rfl)) A5t) (Ai rfl (YM Tryz.underlying25 (by kernel_rfl) (of_decide_eq_true (by kernel_rfl)) A5u) (Ai rfl (YM Tryz.underlying26 (by kernel_rfl) (of_decide_eq_true (by kernel_rfl)) A3x)
   (Ai rfl (YM Tryz.underlying27 (by kernel_rfl) (of_decide_eq_true (by kernel_rfl)) A63) (Ai rfl (YM Tryz.underlying28 (by kernel_rfl) (of_decide_eq_true (by kernel_rfl)) A64) I7))))))))).map _
  (fun ⟨h,r,b,l,u,s,t,o,_⟩=>⟨Aq4 h.1 r.1 b.1 l.1 u.1 s.1 t.1 o.1,h.1,r.1,b.1,l.1,u.1,s.1,t.1,o.1,rfl,⟨h.2,A2a r.2,b.2.1,l.2.1,u.2.1,s.2.1,t.2.1,fun x hx=>(o.2.1 x hx).1⟩,⟨(YN b.2).2,(YN l.2).2,(YN u.2).2,(YN s.2).2,(YN t.2).2,(YN o.2).2,fun x hx=>(o.2.1 x hx).2⟩⟩) (fun _=>rfl) (fun _=>rfl)
end
section
variable{W:World}{H:Type}{enc:TypeId×Value->H}{β:De}{h:A9}
def Ayx{v:Value}{d:DataW H}{p:List MemPlace}(e:∃ cs,v=.agg cs)(f:DataW.Trod enc Tryz.prog W 0 (fun _=>true) true 30 v d p)(j:WOk Tryz.prog 30 d):
  ∃(H:Int)(res:List Int)(bs:List BusD)(ls:List LineD)(us:List UnitD)(ss:List StoreD)(ts:List TieD)(os:List OutD),A8c H res bs ls us ss ts os/\Rep (fun _ k=>k<W.heap.size) β h W (.agg (Aq4 H res bs ls us ss ts os).av) v:=by
 obtain⟨cs,rfl⟩:=e
 obtain⟨fuel,l⟩:=f
 obtain⟨m,⟨c,H,res,bs,ls,us,ss,ts,os,rfl,k⟩,hr⟩:=A71.read enc W fuel _ _ _ l j
 refine⟨H,res,bs,ls,us,ss,ts,os,k,A2q ?_⟩
 rw[Rep]
 exact⟨cs.toList,rfl,m,hr⟩
def Ayy{a:Option Addr}{len cap:Nat}{d:DataW H}{p:List MemPlace}(f:DataW.Trod enc Tryz.prog W 0 (fun _=>true) true 22 (.slice a len cap) d p):
  ∃ l:List Int,l.length<=maxLen/\Rep (fun _ k=>k<W.heap.size) β h W (.imm (Av l) l.length 1 false false) (.slice a len cap):=by
 obtain⟨l,j,e⟩:=A2p (β:=β) (h:=h) Tryz.underlying22 (by kernel_rfl) (Af3 Tryz.underlying3 (by kernel_rfl)) f
 rw[Aq7,By]at e
 exact⟨l.map (·.1),by rw[A85];exact j,by rw[A85];exact e⟩
end
end Gx
