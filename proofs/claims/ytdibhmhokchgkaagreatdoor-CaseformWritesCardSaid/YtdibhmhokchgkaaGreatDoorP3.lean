/- A part of the proof; each theorem says what it holds. -/
import Derived.Test.YtdibhmhokchgkaaGreatDoorP2
set_option linter.unusedVariables false
set_option linter.defProp false
set_option linter.unusedSimpArgs false
open Nat (ble beq)
open List (take drop replicate)
open Go.IntKind (wrap)
namespace Gx.Ct
open Go Go.Proofs Gx.Cf
section
variable{R:Type}{N:Nat}
def A34{α:Type}{e:α->LA}{sz:Nat}(d:∀ a,(e a).length=sz){l:List α}{j:Nat}(h:j<l.length):drop (Int.toNat (j:Int)*sz) (l.flatMap e)=e l[j]++(l.drop (j+1)).flatMap e:=by rw[A8z,A3 d l j h]
def Fy{α:Type}{e:α->LA}{sz:Nat}(d:∀ a,(e a).length=sz){l:List α}{j:Nat}(h:j<l.length):take sz (drop (Int.toNat (j:Int)*sz) (l.flatMap e))=e l[j]:=by rw[A34 d h,List.take_append_of_le_length (by rw[d];exact A86 _),A80 (by rw[d];exact A86 _)]
def I3{α:Type}{e:α->LA}{sz:Nat}(d:∀ a,(e a).length=sz){l:List α}{j:Nat}(h:j<l.length):ble sz (drop (Int.toNat (j:Int)*sz) (l.flatMap e)).length=true:=by rw[A34 d h,A8y,d];simp
def OO{j:Nat}(h:j<4611686018427387904):wrap .i64 ((j:Int)+1)=((j+1:Nat):Int):=by rw[Gx.i64 (by omega)];omega
def Ff{α:Type}{l:List α}{j:Nat}(h:j<l.length):l.drop j=l[j]::l.drop (j+1):=Bai h
def Eg{α:Type}{l:List α}{j:Nat}(h:l.length<=j):l.drop j=[]:=Bbd h
def Ao4{c:CaseD}{t:Bool}{K:Int->O R}:S_ N c.av t K=K (cond (K3 c) 0 8):=by
 rw[ju];unfold XG HL K3
 rw[Dn,F9,Mi,O7,Wo,Pp]
 have e:∀(n m:Nat),decide ((n:Int)>(m:Int))=!decide (n<=m):=fun n m=>by
  by_cases h:n<=m
  ·rw[decide_eq_true h,decide_eq_false (by omega)];rfl
  ·rw[decide_eq_false h,decide_eq_true (by omega)];rfl
 have e1:decide ((c.buses.l.length:Int)>32)=!decide (c.buses.l.length<=32):=e _ 32
 have d:decide ((c.lines.l.length:Int)>64)=!decide (c.lines.l.length<=64):=e _ 64
 have e3:decide ((c.units.l.length:Int)>16)=!decide (c.units.l.length<=16):=e _ 16
 have e4:decide ((c.stores.l.length:Int)>8)=!decide (c.stores.l.length<=8):=e _ 8
 have f:decide ((c.ties.l.length:Int)>8)=!decide (c.ties.l.length<=8):=e _ 8
 have j:decide ((c.outs.l.length:Int)>64)=!decide (c.outs.l.length<=64):=e _ 64
 rw[e1,d,e3,e4,f,j]
 cases decide (c.buses.l.length<=32)<;>cases decide (c.lines.l.length<=64)<;>cases decide (c.units.l.length<=16)<;>cases decide (c.stores.l.length<=8)<;>cases decide (c.ties.l.length<=8)<;>cases decide (c.outs.l.length<=64)<;>rfl
def A4x(c:CaseD)(t:TieD):Bool:=WB c t.imp&&(WB c t.exp&&WB c t.price)
def uL{c:CaseD}{b:Bool}{K:Bool->O R}(e:c.ties.l.length<=1000000):∀(m j fuel:Nat)(ok:Bool),j+m=c.ties.l.length->m<fuel ->
  Sh N K (c.ties.l.flatMap TieD.av) c.ties.l.length b c.av fuel ok (c.ties.l.length:Int) (j:Int)=K (ok&&(c.ties.l.drop j).all (A4x c))
|0,j,fuel+1,ok,f,_=>by
  rw[Sh];unfold BF
  rw[Gu (by omega),cf,Eg (by omega),A9z,A91]
| m+1,j,fuel+1,ok,f,s=>by
  rw[Sh];unfold BF
  have h:j<c.ties.l.length:=by omega
  rw[F1 h,ct,Ab h,ct,I3 H2 h,ct,Fy H2 h,show((beq 0 0)&&((beq ((TieD.av c.ties.l[j]).length) 5)&&(beq 5 5)))=true from rfl,ct,OO (by omega),Ff h,A9i]
  have d:=fun ok=>uL (c:=c) (b:=b) (K:=K) e m (j+1) fuel ok (by omega) (by omega)
  have k:∀ F:LA->Nat->O R,Bh 1 (drop 2 (TieD.av c.ties.l[j])) F=F (Av c.ties.l[j].imp.l) c.ties.l[j].imp.l.length:=fun F=>by
   show Bh 1 (c.ties.l[j].imp.av 1 O9::_) F=_
   rw[Cq,By]
  have n:∀ F:LA->Nat->O R,Bh 1 (drop 3 (TieD.av c.ties.l[j])) F=F (Av c.ties.l[j].exp.l) c.ties.l[j].exp.l.length:=fun F=>by
   show Bh 1 (c.ties.l[j].exp.av 1 O9::_) F=_
   rw[Cq,By]
  have q:∀ F:LA->Nat->O R,Bh 1 (drop 4 (TieD.av c.ties.l[j])) F=F (Av c.ties.l[j].price.l) c.ties.l[j].price.l.length:=fun F=>by
   show Bh 1 (c.ties.l[j].price.av 1 O9::_) F=_
   rw[Cq,By]
  cases ok with
  |false=>exact(d false).trans (by simp)
  | true =>
   rw[show((true:Bool)==true)=true from rfl,ct,k,Ky]
   show cond (WB c c.ties.l[j].imp==true) _ _=_
   unfold A4x
   cases WB c c.ties.l[j].imp with
   |false=>exact(d false).trans (by simp)
   | true =>
    rw[show((true:Bool)==true)=true from rfl,ct,n,Ky]
    show cond (WB c c.ties.l[j].exp==true) _ _=_
    cases WB c c.ties.l[j].exp with
    |false=>exact(d false).trans (by simp)
    |true =>
     rw[show((true:Bool)==true)=true from rfl,ct,q,Ky]
     exact d (WB c c.ties.l[j].price)
def ou{c:CaseD}{b:Bool}{K:Bool->O R}(f:c.buses.l.length<=1000000)(d:c.ties.l.length<=1000000)(hN:1000000<N):∀(m j fuel:Nat)(ok:Bool),j+m=c.buses.l.length->m<fuel ->
  N1 N K (c.buses.l.flatMap BusD.av) c.buses.l.length b c.av fuel ok (c.buses.l.length:Int) (j:Int)=K (ok&&((c.buses.l.drop j).all (fun x=>WB c x.demand)&&c.ties.l.all (A4x c)))
|0,j,fuel+1,ok,k,_=>by
  rw[N1];unfold BG
  rw[Gu (by omega),cf,show c.buses.l.drop j=[]from Eg (by omega),A9z,Wo]
  refine(uL (b:=b) (K:=K) d c.ties.l.length 0 N ok (by omega) (by omega)).trans ?_
  rfl
| m+1,j,fuel+1,ok,k,q=>by
  rw[N1];unfold BG
  have h:j<c.buses.l.length:=by omega
  rw[F1 h,ct,Ab h,ct,I3 Ir h,ct,Fy Ir h,show((beq 0 0)&&((beq ((BusD.av c.buses.l[j]).length) 3)&&(beq 3 3)))=true from rfl,ct,OO (by omega),Ff h,A9i]
  have e:=fun ok=>ou (c:=c) (b:=b) (K:=K) f d hN m (j+1) fuel ok (by omega) (by omega)
  have n:∀ F:LA->Nat->O R,Bh 1 (drop 1 (BusD.av c.buses.l[j])) F=F (Av c.buses.l[j].demand.l) c.buses.l[j].demand.l.length:=fun F=>by
   show Bh 1 (c.buses.l[j].demand.av 1 O9::_) F=_
   rw[Cq,By]
  cases ok with
  |false=>exact(e false).trans (by simp)
  |true =>
   rw[show((true:Bool)==true)=true from rfl,ct,n,Ky]
   refine(e (WB c c.buses.l[j].demand)).trans ?_
   congr 1
   simp[Baq]
def Ao5{c:CaseD}{t:Bool}{K:Bool->O R}(d:c.buses.l.length<=1000000)(e:c.ties.l.length<=1000000)(hN:1000000<N):TA N c.av t K=K (NE c):=by
 rw[jv];unfold XH
 rw[lA,Ky,Dn]
 exact ou (b:=t) (K:=K) d e hN c.buses.l.length 0 N _ (by omega) (by omega)
def Akk(t:Lu):take (t.length*1) (Ay t)=Ay t:=by rw[A9j,A80 (by rw[cF];exact A86 _)]
def Avb(t:Lu)(k:UInt8):Ay t++[.int .u8 (k.toNat:Int)]=Ay (t++[k]):=by rw[<-cG];rfl
def Ata{n:Nat}(h:n<=140737488355328):((ble n 140737488355328)&&(ble (n*1) 140737488355328))=true:=by simp;omega
def Zn{s t:Lu}{bad:Bool}{K:Nat->LA->O R}(hs:s.length<=70000000000000):Aj N s t.length bad (Ay t) K=K (Dj t s).length (Ay (Dj t s)):=by
 rw[X8];unfold U9 Dj
 by_cases h:t.length>1048576
 ·rw[decide_eq_true (show(t.length:Int)>1048576 by omega),if_pos h];rfl
 ·rw[decide_eq_false (show ¬ (t.length:Int)>1048576 by omega),cf,if_neg h,Akk]
  have fin:∀ T:Lu,T.length<=1048577->cond ((ble (T.length+s.length) 140737488355328)&&(ble ((T.length+s.length)*1) 140737488355328)) (K (T.length+s.length) (Ay T++Ay s)) none=K (T++s).length (Ay (T++s)):=fun T hT=>by
   rw[Ata (by omega),ct,cG,A8y]
  by_cases h0:t=[]
  ·subst h0
   exact fin [] (by simp)
  ·have m:0<t.length:=Bdo.2 h0
   have e1:wrap .i64 ((t.length:Int) - 1)=((t.length - 1:Nat):Int):=by rw[Gx.i64 (by omega)];omega
   have d:t.length - 1<t.length:=by omega
   rw[decide_eq_true (show(t.length:Int)>0 by omega),show((true:Bool)==true)=true from rfl,ct,e1,Ab d,ct,A8z,A89,A9j,Aw3 d]
   have l:t.getLast?=some t[t.length - 1]:=by rw[List.getLast?_eq_getElem?,A84 d]
   show cond ((((t[t.length - 1]).toNat:Nat):Int) != 10) _ _=_
   unfold SD Aw7
   by_cases f:t[t.length - 1]=10
   ·rw[f,show((((10:UInt8).toNat:Nat):Int) != 10)=false from rfl,cf,if_pos (.inr (by rw[l,f]))]
    exact fin t (by omega)
   ·have j:((((t[t.length - 1]).toNat:Nat):Int) != 10)=true:=by
     rw[bne_iff_ne];intro e
     exact f (Bdd.1 (by show(t[t.length - 1]).toNat=10;omega))
    rw[j,ct,if_neg (by simp[h0,l,f]),Ata (show t.length+1<=140737488355328 by omega),ct]
    have k:take ((t.length+1)*1) (Ay t++[.int .u8 32])=Ay (t++[32]):=by
     rw[show([.int .u8 32]:LA)=[.int .u8 (((32:UInt8).toNat:Nat):Int)]from rfl,Avb,A9j,A80 (by rw[cF];simp)]
    have:=fin (t++[32]) (by simp;omega)
    rw[A8y,A94]at this
    rw[A9j]at k
    simp only[A9j]at this k ⊢
    rw[k];exact this
def KX{t:Lu}{bad:Bool}{K:Nat->LA->O R}:C9 N t.length bad (Ay t) K=K (D_ t).length (Ay (D_ t)):=by
 rw[OL];unfold KS D_
 by_cases h:t.length>1048576
 ·rw[decide_eq_false (show ¬ (t.length:Int)<=1048576 by omega),if_pos h];rfl
 ·rw[decide_eq_true (show(t.length:Int)<=1048576 by omega),ct,if_neg h,Akk,Ata (by omega),ct,show([.int .u8 10]:LA)=[.int .u8 (((10:UInt8).toNat:Nat):Int)]from rfl,Avb,A8y];rfl
def Avc(ws:List Ar):Prop:=∀ w∈ws,w.length<=70000000000000
def Aa3{ws:List Ar}{d f bad:Bool}{K:Nat->LA->O R}(e:Avc ws)(k:ws.length<=20000000000000):∀(m j fuel:Nat)(t:Lu),j+m=ws.length->m<fuel ->
  Fl N K (Au ws) ws.length d f bad fuel (ws.length:Int) (j:Int) t.length (Ay t)=K ((ws.drop j).foldl Dj t).length (Ay ((ws.drop j).foldl Dj t))
|0,j,fuel+1,t,l,_=>by
  rw[Fl];unfold L4
  rw[Gu (by omega),cf,Eg (by omega)];rfl
|m+1,j,fuel+1,t,l,n=>by
  rw[Fl];unfold L4
  have h:j<ws.length:=by omega
  rw[F1 h,ct,Ab h,ct,A8z,A9j,Ju h,Zn (e _ (A9c h)),OO (by omega),Ff h,A9u]
  exact Aa3 e k m (j+1) fuel _ (by omega) (by omega)
def Atb{ws:List Ar}{d f bad:Bool}{t:Lu}{K:Nat->LA->O R}(e:Avc ws)(j:ws.length<=20000000000000)(hN:20000000000000<N):Cn N (Au ws) ws.length d f t.length bad (Ay t) K=K (ws.foldl Dj t).length (Ay (ws.foldl Dj t)):=by
 rw[FK];unfold Sk
 exact Aa3 e j ws.length 0 N t (by omega) (by omega)
def gj{z:Int}(h:JR z){K:Lu->O R}:strconv_Itoa N z K=K (tx z):=by
 rw[Sc];unfold Tv
 rw[decide_eq_true h.1,decide_eq_true h.2];rfl
def Ig:Prop:=∀ z,JR z->(tx z).length<=30
def DA{l:List Int}{c d:Bool}{K:Nat->Bool->LA->O R}(hx:Ig)(hi:∀ z∈l,JR z)(k:l.length<=20000000000000):∀(m j fuel:Nat)(t:Lu)(bad:Bool),j+m=l.length->m<fuel ->
  Ep N K (Av l) l.length c d fuel (l.length:Int) (j:Int) t.length bad (Ay t)=K (((l.drop j).map tx).foldl Dj t).length (bad||Bf (l.drop j)) (Ay (((l.drop j).map tx).foldl Dj t))
|0,j,fuel+1,t,bad,n,_=>by
  rw[Ep];unfold Lc
  rw[Gu (by omega),cf,Eg (by omega)]
  show _=K _ (bad||false) _
  rw[Bcg];rfl
|m+1,j,fuel+1,t,bad,n,q=>by
  rw[Ep];unfold Lc
  have h:j<l.length:=by omega
  have e:=hi _ (A9c h)
  have f:=fun bad=>DA (c:=c) (d:=d) (K:=K) hx hi k m (j+1) fuel (Dj t (tx l[j])) bad (by omega) (by omega)
  rw[F1 h,ct,Ab h,ct,Xx h,gj e,gj e,Zn (by have:=hx _ e;omega),Zn (by have:=hx _ e;omega),OO (by omega),Ff h,A9a,A9u,f,f]
  show _=K _ (bad||(DY l[j]||Bf (l.drop (j+1)))) _
  unfold DY
  cases decide (l[j]< -1073741824)<;>cases decide (l[j]>1073741824)<;>cases bad<;>rfl
def DB{l:List Int}{c d bad:Bool}{t:Lu}{K:Nat->Bool->LA->O R}(hx:Ig)(hi:∀ z∈l,JR z)(e:l.length<=20000000000000)(hN:20000000000000<N):Ae N (Av l) l.length c d t.length bad (Ay t) K=K ((l.map tx).foldl Dj t).length (bad||Bf l) (Ay ((l.map tx).foldl Dj t)):=by
 rw[CZ];unfold Py
 exact DA hx hi e l.length 0 N t bad (by omega) (by omega)
end
end Gx.Ct
namespace Gx
open Go Go.Proofs Go.RowKit
noncomputable section
variable{R:Type}(N:Nat)
def D8(_N:Nat)(s:Lu)(c:Int)(r0:Int->O R):O R:=r0 (Lib.indexByte s c.toNat.toUInt8)
def G8:=(Ac (@D8 R)).1
def Dg:@G8 R=@D8 R:=(Ac _).2
def Dh(a:LA)(h:A9)(k:KF R):O R :=
 match a,h with
|[.str s,.int .u8 c],[]=>G8 N s c fun x=>k (.int .i64 x) []
|_,_=>none
def Kh:Tw:=⟨fun {R} a h k=>@Dh R N a h k,fun {R} a h k=>by
 unfold Dh
 split
 ·rw[Dg,Dg];rfl
 ·rfl⟩
end
def V8(N:Nat):qz Tryz.prog 117 (Kh N):=by
 intro f h res h' j
 have d:Dh N f h (fun v h'=>some (v,h'))=some (res,h'):=j
 unfold Dh at d
 split at d
 ·rename_i s c
  rw[Dg,D8]at d
  simp at d
  obtain⟨rfl,rfl⟩:=d
  refine RM fun J β w vs G hr=>?_
  obtain⟨u,v,rfl,e1,k⟩:=yM hr
  simp only[Rep]at e1 k;subst e1 k
  refine(Any.stringslite_IndexByte {Tryz.lays145 with} ⟨⟨s⟩⟩ c w).mono ?_
  rintro e w' ⟨rfl,rfl⟩
  exact⟨_,rfl,Below.refl _ _,fun J β w=>by rw[Rep]⟩
 ·cases d
noncomputable def Xa(N:Nat):=Azq (Kh N) (V8 N)
end Gx
namespace Gx
open Go Go.Proofs
set_option maxRecDepth 100000
noncomputable section
variable{R:Type}(N:Nat)
def L6(r0:Nat->Bool->LA->O R)(g:LA)(m:Nat)(a:Bool)(b:LA)(k5:Int->Int->Nat->Bool->LA->O R)(ab u:Int)(ac:Nat)(ad:Bool)(ae:LA):O R:=(cond (decide (u<ab)) (cond (Ad u m) (cond (ble 4 ((g.drop (u.toNat*4)).length)) (cond ((beq 0 0)&&((beq (((g.drop (u.toNat*4)).take 4).length) 4)&&(beq 4 4))) (cond (ble 8 b.length) (cond (ble 4 (((g.drop (u.toNat*4)).take 4).length)) (Mn N (b.take 8) a (((g.drop (u.toNat*4)).take 4).take 4) a ac ad ae fun bl bm bn=>k5 ab (wrap .i64 (u+1)) bl bm bn) none) none) none) none) none) (r0 ac ad ae))
def G9(r0:Nat->Bool->LA->O R)(g:LA)(m:Nat)(a:Bool)(b:LA):Nat->Int->Int->Nat->Bool->LA->O R
|0=>fun _ _ _ _ _=>none
|n+1=>L6 N r0 g m a b (G9 r0 g m a b n)
def L7(r0:Nat->Bool->LA->O R)(d:LA)(o:Nat)(a:Bool)(b:LA)(k4:Int->Int->Nat->Bool->LA->O R)(q5:LA->Nat->Int->Int->Nat->Bool->LA->O R)(af s:Int)(ag:Nat)(y:Bool)(ah:LA):O R:=(cond (decide (s<af)) (cond (Ad s o) (cond (ble 5 ((d.drop (s.toNat*5)).length)) (cond ((beq 0 0)&&((beq (((d.drop (s.toNat*5)).take 5).length) 5)&&(beq 5 5))) (Km ((d.drop (s.toNat*5)).take 5) fun bo=>Bh 3 (b.drop 2) fun bp bq=>As .i64 (((d.drop (s.toNat*5)).take 5).drop 1) fun ay=>cond (Ad ay bq) (Km (bp.drop (ay.toNat*3)) fun br=>Cn N [.str ([116,105,101]:Lu),.str bo,.str br,.str ([105,109,112,111,114,116]:Lu)] 4 false true ag y ah fun bs bt=>Bh 1 (((d.drop (s.toNat*5)).take 5).drop 2) fun bu bv=>Ae N bu bv false a bs y bt fun bw az bx=>Aj N ([101,120,112,111,114,116]:Lu) bw az bx fun bz ca=>Bh 1 (((d.drop (s.toNat*5)).take 5).drop 3) fun cb cc=>Ae N cb cc false a bz az ca fun cd ba ce=>Aj N ([112,114,105,99,101]:Lu) cd ba ce fun cf cg=>Bh 1 (((d.drop (s.toNat*5)).take 5).drop 4) fun ch ci=>Ae N ch ci false a cf ba cg fun cj bb ck=>C9 N cj bb ck fun cl cm=>k4 af (wrap .i64 (s+1)) cl bb cm) none) none) none) none) (Bh 4 (b.drop 7) fun g m=>q5 g m (m:Int) 0 ag y ah))
def Ha(r0:Nat->Bool->LA->O R)(d:LA)(o:Nat)(a:Bool)(b:LA):Nat->Int->Int->Nat->Bool->LA->O R
|0=>fun _ _ _ _ _=>none
|n+1=>L7 N r0 d o a b (Ha r0 d o a b n) (fun g m=>G9 N r0 g m a b N)
def L8(r0:Nat->Bool->LA->O R)(c:LA)(p:Nat)(a:Bool)(b:LA)(k3:Int->Int->Nat->Bool->LA->O R)(q4:LA->Nat->Int->Int->Nat->Bool->LA->O R)(ai l:Int)(aj:Nat)(z:Bool)(ak:LA):O R:=(cond (decide (l<ai)) (cond (Ad l p) (cond (ble 9 ((c.drop (l.toNat*9)).length)) (cond ((beq 0 0)&&((beq (((c.drop (l.toNat*9)).take 9).length) 9)&&(beq 9 9))) (Km ((c.drop (l.toNat*9)).take 9) fun cn=>Bh 3 (b.drop 2) fun co cp=>As .i64 (((c.drop (l.toNat*9)).take 9).drop 1) fun bc=>cond (Ad bc cp) (Km (co.drop (bc.toNat*3)) fun cq=>Cn N [.str ([115,116,111,114,101]:Lu),.str cn,.str cq,.str ([99,97,112,97,99,105,116,121]:Lu)] 4 false true aj z ak fun cr cs=>As .i64 (((c.drop (l.toNat*9)).take 9).drop 2) fun ct=>Ae N [.int .i64 ct] 1 false true cr z cs fun cu bd cv=>Aj N ([108,101,118,101,108]:Lu) cu bd cv fun cw cx=>As .i64 (((c.drop (l.toNat*9)).take 9).drop 3) fun cy=>As .i64 (((c.drop (l.toNat*9)).take 9).drop 4) fun cz=>Ae N [.int .i64 cy,.int .i64 cz] 2 false true cw bd cx fun da be db=>Aj N ([114,97,116,101]:Lu) da be db fun dc dd=>As .i64 (((c.drop (l.toNat*9)).take 9).drop 5) fun de=>As .i64 (((c.drop (l.toNat*9)).take 9).drop 6) fun df=>Ae N [.int .i64 de,.int .i64 df] 2 false true dc be dd fun dg bf dh=>Aj N ([101,102,102,105,99,105,101,110,99,121]:Lu) dg bf dh fun di dj=>cond (ble 2 ((((c.drop (l.toNat*9)).take 9).drop 7).length)) (cond ((!a)||(A0 ((((c.drop (l.toNat*9)).take 9).drop 7).take 2))) (Cc N ((((c.drop (l.toNat*9)).take 9).drop 7).take 2) false di bf dj fun dk bg dl=>C9 N dk bg dl fun dm dn=>k3 ai (wrap .i64 (l+1)) dm bg dn) none) none) none) none) none) none) (Bh 5 (b.drop 6) fun d o=>q4 d o (o:Int) 0 aj z ak))
def Hb(r0:Nat->Bool->LA->O R)(c:LA)(p:Nat)(a:Bool)(b:LA):Nat->Int->Int->Nat->Bool->LA->O R
|0=>fun _ _ _ _ _=>none
|n+1=>L8 N r0 c p a b (Hb r0 c p a b n) (fun d o=>Ha N r0 d o a b N)
def L9(r0:Nat->Bool->LA->O R)(h:LA)(q:Nat)(a:Bool)(b:LA)(k2:Int->Int->Nat->Bool->LA->O R)(q3:LA->Nat->Int->Int->Nat->Bool->LA->O R)(al v:Int)(am:Nat)(an:Bool)(ao:LA):O R:=(cond (decide (v<al)) (cond (Ad v q) (cond (ble 22 ((h.drop (v.toNat*22)).length)) (cond ((beq 0 0)&&((beq (((h.drop (v.toNat*22)).take 22).length) 22)&&(beq 22 22))) (cond (ble 8 b.length) (cond (ble 22 (((h.drop (v.toNat*22)).take 22).length)) (Rl N (b.take 8) a (((h.drop (v.toNat*22)).take 22).take 22) a am an ao fun dp dq dr=>k2 al (wrap .i64 (v+1)) dp dq dr) none) none) none) none) none) (Bh 9 (b.drop 5) fun c p=>q3 c p (p:Int) 0 am an ao))
def Hc(r0:Nat->Bool->LA->O R)(h:LA)(q:Nat)(a:Bool)(b:LA):Nat->Int->Int->Nat->Bool->LA->O R
|0=>fun _ _ _ _ _=>none
|n+1=>L9 N r0 h q a b (Hc r0 h q a b n) (fun c p=>Hb N r0 c p a b N)
def Ma(r0:Nat->Bool->LA->O R)(i:LA)(r:Nat)(a:Bool)(b:LA)(k1:Int->Int->Nat->Bool->LA->O R)(q2:LA->Nat->Int->Int->Nat->Bool->LA->O R)(ap w:Int)(aq:Nat)(ar:Bool)(au:LA):O R:=(cond (decide (w<ap)) (cond (Ad w r) (cond (ble 12 ((i.drop (w.toNat*12)).length)) (cond ((beq 0 0)&&((beq (((i.drop (w.toNat*12)).take 12).length) 12)&&(beq 12 12))) (cond (ble 8 b.length) (cond (ble 12 (((i.drop (w.toNat*12)).take 12).length)) (W9 N (b.take 8) a (((i.drop (w.toNat*12)).take 12).take 12) a aq ar au fun ds dt du=>k1 ap (wrap .i64 (w+1)) ds dt du) none) none) none) none) none) (Bh 22 (b.drop 4) fun h q=>q2 h q (q:Int) 0 aq ar au))
def Hd(r0:Nat->Bool->LA->O R)(i:LA)(r:Nat)(a:Bool)(b:LA):Nat->Int->Int->Nat->Bool->LA->O R
|0=>fun _ _ _ _ _=>none
|n+1=>Ma N r0 i r a b (Hd r0 i r a b n) (fun h q=>Hc N r0 h q a b N)
def Mb(r0:Nat->Bool->LA->O R)(f:LA)(j:Nat)(a:Bool)(b:LA)(k0:Int->Int->Nat->Bool->LA->O R)(q1:LA->Nat->Int->Int->Nat->Bool->LA->O R)(av t:Int)(aw:Nat)(aa:Bool)(ax:LA):O R:=(cond (decide (t<av)) (cond (Ad t j) (cond (ble 3 ((f.drop (t.toNat*3)).length)) (cond ((beq 0 0)&&((beq (((f.drop (t.toNat*3)).take 3).length) 3)&&(beq 3 3))) (Km ((f.drop (t.toNat*3)).take 3) fun dv=>Cn N [.str ([98,117,115]:Lu),.str dv,.str ([100,101,109,97,110,100]:Lu)] 3 false true aw aa ax fun dw dx=>Bh 1 (((f.drop (t.toNat*3)).take 3).drop 1) fun dy dz=>Ae N dy dz false a dw aa dx fun ea bh eb=>Aj N ([115,104,101,100]:Lu) ea bh eb fun ec ed=>As .i64 (((f.drop (t.toNat*3)).take 3).drop 2) fun ee=>Ae N [.int .i64 ee] 1 false true ec bh ed fun ef bi eg=>C9 N ef bi eg fun eh ei=>k0 av (wrap .i64 (t+1)) eh bi ei) none) none) none) (Bh 12 (b.drop 3) fun i r=>q1 i r (r:Int) 0 aw aa ax))
def Fm(r0:Nat->Bool->LA->O R)(f:LA)(j:Nat)(a:Bool)(b:LA):Nat->Int->Int->Nat->Bool->LA->O R
|0=>fun _ _ _ _ _=>none
|n+1=>Mb N r0 f j a b (Fm r0 f j a b n) (fun i r=>Hd N r0 i r a b N)
def Sm(r0:Nat->Bool->LA->O R)(q0:LA->Nat->Int->Int->Nat->Bool->LA->O R)(b:LA)(a x:Bool):O R:=(KP N ([99,97,115,101]:Lu) x fun ej ek=>As .i64 b fun el=>Ae N [.int .i64 el] 1 false true ej x ek fun em bj en=>Aj N ([114,101,115,101,114,118,101]:Lu) em bj en fun eo ep=>Bh 1 (b.drop 1) fun er es=>Ae N er es false a eo bj ep fun et bk eu=>C9 N et bk eu fun ev ew=>Bh 3 (b.drop 2) fun f j=>q0 f j (j:Int) 0 ev bk ew)
def Kq:=(Ac fun N b a x r0=>Sm (R:=R) N r0 (fun f j=>Fm N r0 f j a b N) b a x).1
def FM(b a x r0):(@Kq R N b a x r0)=(Sm N r0 (fun f j=>Fm N r0 f j a b N) b a x):=by rw[Kq,(Ac _).2]
def KY:Hints:={H:=hK 6 (hS (hK 1 (hS (hP [0,3,32,33,34] hL) hL)) (hS (hK 1 (hS (hP [0,3,58,59,60] hL) hL)) (hS (hK 1 (hS (hP [0,3,70,71,72] hL) hL)) (hS (hK 1 (hS (hP [0,3,82,83,84] hL) hL)) (hS (hK 1 (hS (hP [0,3,133,134,135] hL) hL)) (hK 1 (hS (hP [0,3,171,172,173] hL) hL)))))))}
def Rn:=A5y (rn N) (Eo N) (Eq.refl 76)
def OP:O6:=[Rn N,N7 N,Um N,Pz N,ro N,rp N,C_ N,lX N]
def He(F:KF R):=Iq Tryz.f29 KY (OP N) [100000] N F
def lY(g:LA)(m:Nat)(a:Bool)(b:LA)(K:St->O R):=fun ab u ac ad ae=>K ⟨[(0,.optr 100000 0),(3,op 0),(171,.imm g m 4 false a),(172,iv ab),(173,iv u)],[(100000,bN 0 [Bff 1 ac,.bool ad]),(300000,bP a 0 b),(300001,⟨false,false,true,false,1,ae,false,some (5,0)⟩)]⟩
def lZ(d:LA)(o:Nat)(a:Bool)(b:LA)(K:St->O R):=fun af s ag y ah=>K ⟨[(0,.optr 100000 0),(3,op 0),(133,.imm d o 5 false a),(134,iv af),(135,iv s)],[(100000,bN 0 [Bff 1 ag,.bool y]),(300000,bP a 0 b),(300001,⟨false,false,true,false,1,ah,false,some (5,0)⟩)]⟩
def l7(c:LA)(p:Nat)(a:Bool)(b:LA)(K:St->O R):=fun ai l aj z ak=>K ⟨[(0,.optr 100000 0),(3,op 0),(82,.imm c p 9 false a),(83,iv ai),(84,iv l)],[(100000,bN 0 [Bff 1 aj,.bool z]),(300000,bP a 0 b),(300001,⟨false,false,true,false,1,ak,false,some (5,0)⟩)]⟩
def l8(h:LA)(q:Nat)(a:Bool)(b:LA)(K:St->O R):=fun al v am an ao=>K ⟨[(0,.optr 100000 0),(3,op 0),(70,.imm h q 22 false a),(71,iv al),(72,iv v)],[(100000,bN 0 [Bff 1 am,.bool an]),(300000,bP a 0 b),(300001,⟨false,false,true,false,1,ao,false,some (5,0)⟩)]⟩
def l_(i:LA)(r:Nat)(a:Bool)(b:LA)(K:St->O R):=fun ap w aq ar au=>K ⟨[(0,.optr 100000 0),(3,op 0),(58,.imm i r 12 false a),(59,iv ap),(60,iv w)],[(100000,bN 0 [Bff 1 aq,.bool ar]),(300000,bP a 0 b),(300001,⟨false,false,true,false,1,au,false,some (5,0)⟩)]⟩
def lc(f:LA)(j:Nat)(a:Bool)(b:LA)(K:St->O R):=fun av t aw aa ax=>K ⟨[(0,.optr 100000 0),(3,op 0),(32,.imm f j 3 false a),(33,iv av),(34,iv t)],[(100000,bN 0 [Bff 1 aw,.bool aa]),(300000,bP a 0 b),(300001,⟨false,false,true,false,1,ax,false,some (5,0)⟩)]⟩
def aQ(F:KF R)(g m a b):∀ n,lY g m a b (Ak (He N F (pz 89478484) []) n)=(G9 N (To F) g m a b n):=Ds fun n e=>(Bs (L6 N (To F) g m a b) e:_)
def aR(F:KF R)(d o a b):∀ n,lZ d o a b (Ak (He N F (pz 89478468) []) n)=(Ha N (To F) d o a b n):=Ds fun n e=>(Xs (L7 N (To F) d o a b) e (MR fun g m=>(lW ..).trans (aQ ..)):_)
def aS(F:KF R)(c p a b):∀ n,l7 c p a b (Ak (He N F (pz 22369604) []) n)=(Hb N (To F) c p a b n):=Ds fun n e=>(Xs (L8 N (To F) c p a b) e (MR fun d o=>(lW ..).trans (aR ..)):_)
def aT(F:KF R)(h q a b):∀ n,l8 h q a b (Ak (He N F (pz 5592388) []) n)=(Hc N (To F) h q a b n):=Ds fun n e=>(Xs (L9 N (To F) h q a b) e (MR fun c p=>(lW ..).trans (aS ..)):_)
def aU(F:KF R)(i r a b):∀ n,l_ i r a b (Ak (He N F (pz 1398084) []) n)=(Hd N (To F) i r a b n):=Ds fun n e=>(Xs (Ma N (To F) i r a b) e (MR fun h q=>(lW ..).trans (aT ..)):_)
def aV(F:KF R)(f j a b):∀ n,lc f j a b (Ak (He N F (pz 349508) []) n)=(Fm N (To F) f j a b n):=Ds fun n e=>(Xs (Mb N (To F) f j a b) e (MR fun i r=>(lW ..).trans (aU ..)):_)
def ov:=B4 N 29 (OP N) KY (fun
|[.optr 100000 0,.pagg b a],[(100000,⟨false,false,false,false,0,[.nsl,.bool x],false,none⟩)]=>some fun _ k=>Kq N b a x (To k)
| _,_=>none) fun _ _=>by split;intro R F;exact(Bs (Sm N (To F) · _ _ _) (MR fun f j=>(lW ..).trans (aV ..)):_).trans (FM ..).symm;trivial
def BM(r0:Lu->Int->O R)(c:LA)(d:Nat)(b:Bool)(a:LA)(k1:Int->Int->O R)(g f:Int):O R:=(cond (decide (f<g)) (cond (Ad f d) (cond (ble 4 ((c.drop (f.toNat*4)).length)) (cond ((beq 0 0)&&((beq (((c.drop (f.toNat*4)).take 4).length) 4)&&(beq 4 4))) (RL (((c.drop (f.toNat*4)).take 4).drop 2) fun l=>cond ((!l)==true) (Bh 3 (((c.drop (f.toNat*4)).take 4).drop 3) fun x m=>cond (cond true (decide ((m:Int)>0)) false) (r0 ([]:Lu) 16) (k1 g (wrap .i64 (f+1)))) (k1 g (wrap .i64 (f+1)))) none) none) none) (cond (ble 8 a.length) (Kq N (a.take 8) b false fun h o p=>cond o (r0 ([]:Lu) 3) (cond (decide ((h:Int)>1048576)) (r0 ([]:Lu) 8) (Option.bind (Z5 (p.take (h*1))) fun q=>r0 q 0))) none))
def Sn(r0:Lu->Int->O R)(c:LA)(d:Nat)(b:Bool)(a:LA):Nat->Int->Int->O R
|0=>fun _ _=>none
|n+1=>BM N r0 c d b a (Sn r0 c d b a n)
def QK(r0:Lu->Int->O R)(b:Bool)(a:LA)(q1:LA->Nat->Int->Int->O R):O R:=(cond (ble 8 a.length) (TA N (a.take 8) b fun r=>cond (!r) (r0 ([]:Lu) 4) (cond (ble 8 a.length) (eX N (a.take 8) b fun i=>cond (i != 0) (r0 ([]:Lu) i) (cond (ble 8 a.length) (eY N (a.take 8) b fun s=>cond (!s) (r0 ([]:Lu) 12) (Bh 4 (a.drop 7) fun c d=>q1 c d (d:Int) 0)) none)) none)) none)
def H'(r0:Lu->Int->O R)(b:Bool)(a:LA):O R:=QK N r0 b a fun c d=>Sn N r0 c d b a N
def XN(r0:Lu->Int->O R)(q0:O R)(a:LA)(b:Bool):O R:=(cond (ble 8 a.length) (S_ N (a.take 8) b fun j=>cond (j != 0) (r0 ([]:Lu) j) (As .i64 a fun t=>cond ((decide (t<1))==false) (As .i64 a fun u=>cond (cond false true (decide (u>24))) (r0 ([]:Lu) 3) q0) (r0 ([]:Lu) 3))) none)
def IN:=(Ac fun N a b r0=>XN (R:=R) N r0 (H' N r0 b a) a b).1
def jw(a b r0):(@IN R N a b r0)=(XN N r0 (H' N r0 b a) a b):=by rw[IN,(Ac _).2]
def ow:Hints:={H:=hK 2 (hJ [1] hL (hK 3 (hS (hK 1 (hS (hP [1,34,35,36] hL) hL)) hL)))}
def uM:O6:=[Aon N,Aoo N,As8 N,As9 N,ov N]
def pA(F:KF R):=Iq Tryz.f6 ow (uM N) [] N F
def So(F:KF R):Lu->Int->O R:=fun v w=>F (.tup [.str v,iv w]) []
def Akl(c:LA)(d:Nat)(b:Bool)(a:LA)(K:St->O R):=fun g f=>K ⟨[(1,op 0),(34,.imm c d 4 false b),(35,iv g),(36,iv f)],hq [bP b 0 a]⟩
def Akm(b:Bool)(a:LA)(K:St->O R):=K ⟨[(1,op 0)],hq [bP b 0 a]⟩
def wT(F:KF R)(c d b a):∀ n,Akl c d b a (Ak (pA N F (pz 349508) []) n)=(Sn N (So F) c d b a n):=Ds fun n e=>(Bs (BM N (So F) c d b a) e:_)
def wU(F:KF R)(b a):Akm b a (Bo (pA N F (pz 85) []))=(H' N (So F) b a):=(Bs (QK N (So F) b a) (MR fun c d=>(lW ..).trans (wT ..)):_)
def Ao6:=B4 N 6 (uM N) ow (fun
|[.pagg a b],[]=>some fun _ k=>IN N a b (So k)
| _,_=>none) fun _ _=>by split;intro R F;exact(Bs (XN N (So F) · _ _) ((jW ..).trans (wU ..)):_).trans (jw ..).symm;trivial
def Va(a:Lu)(b:Int)(r0:Int->O R):O R:=(G8 N a b fun c=>r0 c)
def Xb:=(Ac (@Va R)).1
def X9:@Xb R=@Va R:=(Ac _).2
def iq:=B4 N 85 [Xa N] Bt (fun
|[.str a,.int .u8 b],[]=>some fun _ k=>Xb N a b (B8 k)
| _,_=>none) fun _ _=>by split;intro R F;dsimp only;rw[X9];kernel_rfl;trivial
def QL(N:Nat)(a:Int)(r0:Bool->O R):O R:=(cond ((a==32)==false) (cond ((cond false true (a==9))==false) (r0 (cond false true (a==13))) (r0 true)) (r0 true))
def IA:=(Ac (@QL R)).1
def TE:@IA R=@QL R:=(Ac _).2
def Aa4:=B4 N 87 [] Bt (fun
|[.int .i32 a],[]=>some fun _ k=>IA N a (Da k)
| _,_=>none) fun _ _=>by split;intro R F;dsimp only;rw[TE];kernel_rfl;trivial
def I4(N:Nat)(r0:Nat->LA->O R)(a:Lu)(b:Nat)(c:LA)(k2:Int->Int->LA->O R)(l g:Int)(j:LA):O R:=(cond (decide (g<l)) (cond (Ad g b) (cond (ble 2 ((c.drop (0+(g.toNat*2))).length)) (cond ((beq (((c.drop (0+(g.toNat*2))).take 2).length) 2)&&((ble 2 2)&&(!false))) (As .i64 (setCells [Bfg,Bfg] 0 ((c.drop (0+(g.toNat*2))).take 2)) fun m=>As .i64 ((setCells [Bfg,Bfg] 0 ((c.drop (0+(g.toNat*2))).take 2)).drop 1) fun o=>cond ((decide (0<=m))&&((decide (m<=o))&&((decide (o<=((a.length:Nat):Int)))&&(decide (((a.length:Nat):Int)<=((a.length:Nat):Int)))))) (cond (Ad g b) (cond ((beq 1 1)&&((ble ((0+(g.toNat*1))+1) j.length)&&(!false))) (k2 l (wrap .i64 (g+1)) (j.set (0+(g.toNat*1)) (.str (take (o.toNat - m.toNat) (drop m.toNat a))))) none) none) none) none) none) none) (r0 b j))
def E9(r0:Nat->LA->O R)(a:Lu)(b:Nat)(c:LA):Nat->Int->Int->LA->O R
|0=>fun _ _ _=>none
|n+1=>I4 N r0 a b c (E9 r0 a b c n)
def N9(N:Nat)(r0:Nat->LA->O R)(a:Lu)(q2:Nat->LA->Int->Int->LA->O R)(b:Nat)(c:LA):O R:=(cond ((decide (0<=(b:Int)))&&((decide ((b:Int)<=(b:Int)))&&((decide ((b:Int)<=140737488355328))&&(decide (((b:Int)*((16:Nat):Int))<=140737488355328))))) (q2 b c (b:Int) 0 (replicate b (.str ([]:Lu)))) none)
def Kc(r0:Nat->LA->O R)(a:Lu)(b:Nat)(c:LA):O R:=N9 N r0 a (fun b c=>E9 N r0 a b c N) b c
def I5(r0:Nat->LA->O R)(a:Lu)(k0:Nat->Int->LA->Int->O R)(q1:Nat->LA->O R)(d:Nat)(h:Int)(i:LA)(f:Int):O R:=(cond (decide (f<((a.length:Nat):Int))) (IA N (((DR a f).1:Nat):Int) fun p=>cond p (cond (decide (h>=0)) (cond ((ble (d+1) 140737488355328)&&(ble ((d+1)*16) 140737488355328)) (k0 (d+1) (Aio .i64 (-1) h) ((i.take (d*2))++[.int .i64 h,.int .i64 f]) (f+(((DR a f).2:Nat):Int))) none) (k0 d h i (f+(((DR a f).2:Nat):Int)))) (cond (decide (h<0)) (k0 d f i (f+(((DR a f).2:Nat):Int))) (k0 d h i (f+(((DR a f).2:Nat):Int))))) (cond (decide (h>=0)) (cond ((ble (d+1) 140737488355328)&&(ble ((d+1)*16) 140737488355328)) (q1 (d+1) ((i.take (d*2))++[.int .i64 h,.int .i64 ((a.length:Nat):Int)])) none) (q1 d i)))
def D0(r0:Nat->LA->O R)(a:Lu):Nat->Nat->Int->LA->Int->O R
|0=>fun _ _ _ _=>none
|n+1=>I5 N r0 a (D0 r0 a n) (Kc N r0 a)
def Mc(N:Nat)(r0:Nat->LA->O R)(q0:Nat->Int->LA->Int->O R)(a:Lu):O R:=(q0 0 (-1) [] 0)
def Hf:=(Ac fun N a r0=>Mc (R:=R) N r0 (D0 N r0 a N) a).1
def Xc(a r0):(@Hf R N a r0)=(Mc N r0 (D0 N r0 a N) a):=by rw[Hf,(Ac _).2]
def Ya:Hints:={H:=hK 3 (hS (hK 1 (hS (hP [0,1,5,6,14] hL) hL)) (hJ [0,5] hL (hK 1 (hS (hK 1 (hS (hP [0,9,47,48,49] hL) hL)) hL)))),nils:=[(4,1)],modes:=[(2,1)]}
def DC:O6:=[Aa4 N]
def Pc(F:KF R):=Iq Tryz.f86 Ya (DC N) [] N F
def aW(a:Lu)(b:Nat)(c:LA)(K:St->O R):=fun l g j=>K ⟨[(0,.str a),(9,Bff 0 b),(47,Bff 1 b),(48,iv l),(49,iv g)],hq [bQ 1 j,bQ 2 c]⟩
def aX(a:Lu)(K:St->O R):=fun b c=>K ⟨[(0,.str a),(5,Bff 0 b)],hq [bQ 2 c]⟩
def aY(a:Lu)(K:St->O R):=fun d h i f=>K ⟨[(0,.str a),(1,.fn 87 []),(5,Bff 0 d),(6,iv h),(14,.omap 300001)],hq [bQ 2 i,⟨false,false,true,false,1,[.str a,iv f],true,none⟩]⟩
def QM(F:KF R)(a b c):∀ n,aW a b c (Ak (Pc N F (pz 349508) []) n)=(E9 N (Em F) a b c n):=Ds fun n e=>(Bs (I4 N (Em F) a b c) e:_)
def QN(F:KF R)a:aX a (Bo (Pc N F (pz 1365) []))=(Kc N (Em F) a):=(Bs (N9 N (Em F) a) (MR fun b c=>(lW ..).trans (QM ..)):_)
def QO(F:KF R)a:∀ n,aY a (Ak (Pc N F (pz 5444) []) n)=(D0 N (Em F) a n):=Ds fun n e=>(Xs (I5 N (Em F) a) e ((jW ..).trans (QN ..)):_)
def e_:=B4 N 86 (DC N) Ya (fun
|[.str a,.fn 87 []],[]=>some fun _ k=>Hf N a (Em k)
| _,_=>none) fun _ _=>by split;intro R F;exact(Bs (Mc N (Em F) · _) ((lW ..).trans (QO ..)):_).trans (Xc ..).symm;trivial
def rq(a:Lu)(r0:Nat->LA->O R):O R:=(Xb N a 35 fun b=>cond (decide (b>=0)) (cond ((decide ((0:Int)<=(0:Int)))&&((decide (0<=b))&&((decide (b<=((a.length:Nat):Int)))&&(decide (((a.length:Nat):Int)<=((a.length:Nat):Int)))))) (Hf N (take b.toNat a) fun c d=>r0 c d) none) (Hf N a fun e f=>r0 e f))
def pC:=(Ac (@rq R)).1
def pD:@pC R=@rq R:=(Ac _).2
def Atc:=B4 N 31 [iq N,e_ N] Azu (fun
|[.str a],[]=>some fun _ k=>pC N a (Em k)
| _,_=>none) fun _ _=>by split;intro R F;dsimp only;rw[pD];kernel_rfl;trivial
def ex(N:Nat)(s:RB)(r0:Bool->O R):O R:=(r0 (s.er==0))
def Lw:=(Ac (@ex R)).1
def OQ:@Lw R=@ex R:=(Ac _).2
def ZU:=B4 N 34 [] Bt (VJ fun
|[.optr 100000 0],s=>some fun _ k=>Lw N s (Azv s k)
| _,_=>none) (aI fun _ s=>by split;intro R F;dsimp only;rw[OQ];kernel_rfl;trivial)
def Xd(s:RB)(r0:Bool->O R):O R:=(Lw N s fun a=>cond (a==true) (r0 (cond true (decide (s.nx<(s.nw:Int))) false)) (r0 false))
def F5:=(Ac (@Xd R)).1
def Xe:@F5 R=@Xd R:=(Ac _).2
def O0:=B4 N 32 [ZU N] Bt (VJ fun
|[.optr 100000 0],s=>some fun _ k=>F5 N s (Azv s k)
| _,_=>none) (aI fun _ s=>by split;intro R F;dsimp only;rw[Xe];kernel_rfl;trivial)
def ey(N:Nat)(a:Int)(s:RB)(r0:Int->O R):O R:=(cond (s.er==0) (r0 a) (r0 s.er))
def Ap:=(Ac (@ey R)).1
def pE:@Ap R=@ey R:=(Ac _).2
def Bq:=B4 N 89 [] Bt (VJ fun
|[.optr 100000 0,.int .i64 a],s=>some fun _ k=>Ap N a s (A32 s k)
| _,_=>none) (aI fun _ s=>by split;intro R F;dsimp only;rw[pE];kernel_rfl;trivial)
def KZ(s:RB)(r0:Lu->Bool->Int->Int->O R):O R:=(F5 N s fun a=>cond (!a) (Ap N 2 s fun b=>r0 ([]:Lu) false s.nx b) (cond (Ad (wrap .i64 ((wrap .i64 (s.nx+1)) - 1)) s.nw) (Km (s.cw.drop (0+(((wrap .i64 ((wrap .i64 (s.nx+1)) - 1)).toNat)*1))) fun c=>r0 c true (wrap .i64 (s.nx+1)) s.er) none))
def B6:=(Ac (@KZ R)).1
def OR:@B6 R=@KZ R:=(Ac _).2
def rt(s:RB)(F:KF R):Lu->Bool->Int->Int->O R:=fun d e f g=>F (.tup [.str d,.bool e]) [(100000,bN 0 [.own 100001 0 s.nw,iv f,iv g,iv s.th,.own 100002 0 s.nR,.own 100003 0 s.nB,.own 100004 0 s.nL,.own 100005 0 s.nU,.own 100006 0 s.nS,.own 100007 0 s.nT,.own 100008 0 s.nO,.bool s.bg,.own 100009 0 s.zA,.own 100010 0 s.zB,.own 100011 0 s.zC,.own 100012 0 s.zD,.own 100013 0 s.zE,.own 100014 0 s.zF,.own 100015 0 s.zG]),(100001,bQ 1 s.cw),(100002,bQ 1 s.cR),(100003,bQ 3 s.cB),(100004,bQ 12 s.cL),(100005,bQ 22 s.cU),(100006,bQ 9 s.cS),(100007,bQ 5 s.cT),(100008,bQ 4 s.cO),(100009,bQ 1 s.yA),(100010,bQ 1 s.yB),(100011,bQ 1 s.yC),(100012,bQ 1 s.yD),(100013,bQ 1 s.yE),(100014,bQ 1 s.yF),(100015,bQ 1 s.yG)]
def B7:=B4 N 88 [O0 N,Bq N] Bt (VJ fun
|[.optr 100000 0],s=>some fun _ k=>B6 N s (rt s k)
| _,_=>none) (aI fun _ s=>by split;intro R F;dsimp only;rw[OR];kernel_rfl;trivial)
def D9(N:Nat)(a b:Lu)(r0:Bool->O R):O R:=(cond ((decide (((a.length:Nat):Int)>=((b.length:Nat):Int)))==true) (cond ((decide ((0:Int)<=(0:Int)))&&((decide (0<=((b.length:Nat):Int)))&&((decide (((b.length:Nat):Int)<=((a.length:Nat):Int)))&&(decide (((a.length:Nat):Int)<=((a.length:Nat):Int)))))) (r0 (cond true ((take b.length a)==b) false)) none) (r0 false))
def Hg:=(Ac (@D9 R)).1
def Fn:@Hg R=@D9 R:=(Ac _).2
def Xf:=B4 N 209 [] Bt (fun
|[.str a,.str b],[]=>some fun _ k=>Hg N a b (Da k)
| _,_=>none) fun _ _=>by split;intro R F;dsimp only;rw[Fn];kernel_rfl;trivial
def Ea(a b:Lu)(r0:Lu->Bool->O R):O R:=(Hg N a b fun c=>cond (!c) (r0 a false) (cond ((decide (0<=((b.length:Nat):Int)))&&((decide (((b.length:Nat):Int)<=((a.length:Nat):Int)))&&((decide (((a.length:Nat):Int)<=((a.length:Nat):Int)))&&(decide (((a.length:Nat):Int)<=((a.length:Nat):Int)))))) (r0 (take (a.length - b.length) (drop b.length a)) true) none))
def Hh:=(Ac (@Ea R)).1
def Fo:@Hh R=@Ea R:=(Ac _).2
def Xg:=B4 N 188 [Xf N] Bt (fun
|[.str a,.str b],[]=>some fun _ k=>Hh N a b (A33 k)
| _,_=>none) fun _ _=>by split;intro R F;dsimp only;rw[Fo];kernel_rfl;trivial
def Oa(a b:Lu)(r0:Lu->Bool->O R):O R:=(Hh N a b fun c d=>r0 c d)
def Gf:=(Ac (@Oa R)).1
def Pd:@Gf R=@Oa R:=(Ac _).2
def Tg:=B4 N 159 [Xg N] Bt (fun
|[.str a,.str b],[]=>some fun _ k=>Gf N a b (A33 k)
| _,_=>none) fun _ _=>by split;intro R F;dsimp only;rw[Pd];kernel_rfl;trivial
def Up(N:Nat)(r0:Bool->O R)(a:Lu)(k0:Int->O R)(b:Int):O R:=(cond (decide (b<((a.length:Nat):Int))) (cond ((decide ((((DR a b).1:Nat):Int)<48))==false) (cond (cond false true (decide ((((DR a b).1:Nat):Int)>57))) (r0 false) (k0 (b+(((DR a b).2:Nat):Int)))) (r0 false)) (r0 (!(a==([]:Lu)))))
def J3(r0:Bool->O R)(a:Lu):Nat->Int->O R
|0=>fun _=>none
|n+1=>Up N r0 a (J3 r0 a n)
def IB(N:Nat)(r0:Bool->O R)(q0:Int->O R)(a:Lu):O R:=(q0 0)
def Vy:=(Ac fun N a r0=>IB (R:=R) N r0 (J3 N r0 a N) a).1
def ZV(a r0):(@Vy R N a r0)=(IB N r0 (J3 N r0 a N) a):=by rw[Vy,(Ac _).2]
def ez:Hints:={H:=hK 1 (hS (hK 1 (hS (hP [0,6] hL) hL)) hL)}
def Aa5(F:KF R):=Iq Tryz.f189 ez [] [] N F
def Aa6(a:Lu)(K:St->O R):=fun b=>K ⟨[(0,.str a),(6,.omap 300000)],hq [⟨false,false,true,false,1,[.str a,iv b],true,none⟩]⟩
def pF(F:KF R)a:∀ n,Aa6 a (Ak (Aa5 N F (pz 324) []) n)=(J3 N (Da F) a n):=Ds fun n e=>(Bs (Up N (Da F) a) e:_)
def jx:=B4 N 189 [] ez (fun
|[.str a],[]=>some fun _ k=>Vy N a (Da k)
| _,_=>none) fun _ _=>by split;intro R F;exact(Bs (IB N (Da F) · _) ((lW ..).trans (pF ..)):_).trans (ZV ..).symm;trivial
def fA(a:Lu)(r0:Bool->O R):O R:=(Vy N a fun b=>cond (b==true) (cond ((a==([48]:Lu))==false) (cond (Ad 0 a.length) (r0 (cond true (cond false true (((UInt8.toNat (List.getD a 0 0):Nat):Int) != 48)) false)) none) (r0 true)) (r0 false))
def Zo:=(Ac (@fA R)).1
def fB:@Zo R=@fA R:=(Ac _).2
def pG:=B4 N 160 [jx N] Bt (fun
|[.str a],[]=>some fun _ k=>Zo N a (Da k)
| _,_=>none) fun _ _=>by split;intro R F;dsimp only;rw[fB];kernel_rfl;trivial
def XO(a:Lu)(r0:Bool->O R):O R:=(Gf N a ([45]:Lu) fun b c=>Zo N b fun d=>cond (d==true) (cond (c==true) (r0 (cond true (!(cond true (b==([48]:Lu)) false)) false)) (r0 true)) (r0 false))
def Vz:=(Ac (@XO R)).1
def ZW:@Vz R=@XO R:=(Ac _).2
def jy:=B4 N 144 [Tg N,pG N] Bt (fun
|[.str a],[]=>some fun _ k=>Vz N a (Da k)
| _,_=>none) fun _ _=>by split;intro R F;dsimp only;rw[ZW];kernel_rfl;trivial
def Xh(N:Nat)(r0:Bool->O R)(a:Lu)(k0:Int->Int->O R)(c b:Int):O R:=(cond (decide (b<((a.length:Nat):Int))) (cond ((decide ((((DR a b).1:Nat):Int)>=48))==true) (cond (cond true (decide ((((DR a b).1:Nat):Int)<=57)) false) (k0 (wrap .i64 (c+1)) (b+(((DR a b).2:Nat):Int))) (k0 c (b+(((DR a b).2:Nat):Int)))) (k0 c (b+(((DR a b).2:Nat):Int)))) (r0 (decide (c>4096))))
def Lx(r0:Bool->O R)(a:Lu):Nat->Int->Int->O R
|0=>fun _ _=>none
|n+1=>Xh N r0 a (Lx r0 a n)
def OS(N:Nat)(r0:Bool->O R)(q0:Int->Int->O R)(a:Lu):O R:=(q0 0 0)
def Zp:=(Ac fun N a r0=>OS (R:=R) N r0 (Lx N r0 a N) a).1
def fC(a r0):(@Zp R N a r0)=(OS N r0 (Lx N r0 a N) a):=by rw[Zp,(Ac _).2]
def jz:Hints:={H:=hK 2 (hS (hK 1 (hS (hP [3,7] hL) hL)) hL)}
def Aev(F:KF R):=Iq Tryz.f145 jz [] [] N F
def Aew(a:Lu)(K:St->O R):=fun c b=>K ⟨[(3,iv c),(7,.omap 300000)],hq [⟨false,false,true,false,1,[.str a,iv b],true,none⟩]⟩
def rx(F:KF R)a:∀ n,Aew a (Ak (Aev N F (pz 1348) []) n)=(Lx N (Da F) a n):=Ds fun n e=>(Bs (Xh N (Da F) a) e:_)
def pH:=B4 N 145 [] jz (fun
|[.str a],[]=>some fun _ k=>Zp N a (Da k)
| _,_=>none) fun _ _=>by split;intro R F;exact(Bs (OS N (Da F) · _) ((lW ..).trans (rx ..)):_).trans (fC ..).symm;trivial
def Sp(r0:Bool->Nat->LA->O R)(k0:Int->Bool->LA->Bool->Nat->LA->O R)(c:Int)(b:Bool)(a:LA)(i:Bool)(h:Nat)(j:LA):O R:=(cond (decide (c>0)) (cond ((Int.tmod c 2)==1) (cond (ble 2 a.length) (JX N [.bool i,.imm (j.take (h*1)) h 1 false true] true (a.take 2) b fun l m o=>cond (decide (c>1)) (cond (ble 2 a.length) (cond (ble 2 a.length) (JX N (a.take 2) b (a.take 2) b fun r p s=>cond ((beq 2 2)&&((ble 2 a.length)&&(!false))) (k0 (wrap .i64 (Int.tdiv c 2)) (b||false) (C3 a 0 [.bool r,.imm (s.take (p*1)) p 1 false false]) l m o) none) none) none) (k0 (wrap .i64 (Int.tdiv c 2)) b a l m o)) none) (cond (decide (c>1)) (cond (ble 2 a.length) (cond (ble 2 a.length) (JX N (a.take 2) b (a.take 2) b fun t q u=>cond ((beq 2 2)&&((ble 2 a.length)&&(!false))) (k0 (wrap .i64 (Int.tdiv c 2)) (b||false) (C3 a 0 [.bool t,.imm (u.take (q*1)) q 1 false false]) i h j) none) none) none) (k0 (wrap .i64 (Int.tdiv c 2)) b a i h j))) (r0 i h j))
def Lf(r0:Bool->Nat->LA->O R):Nat->Int->Bool->LA->Bool->Nat->LA->O R
|0=>fun _ _ _ _ _ _=>none
|n+1=>Sp N r0 (Lf r0 n)
def gk(r0:Bool->Nat->LA->O R)(q0:Int->Bool->LA->Bool->Nat->LA->O R)(d:LA)(f:Bool)(g:Int):O R:=(Jt N 1 fun v w x=>q0 g f d v w x)
def fD:=(Ac fun N d f g r0=>gk (R:=R) N r0 (Lf N r0 N) d f g).1
def pI(d f g r0):(@fD R N d f g r0)=(gk N r0 (Lf N r0 N) d f g):=by rw[fD,(Ac _).2]
def uN:Hints:={H:=hK 2 (hS (hS (hP [1,2,4,5] hL) hL) hL)}
def Aa7:O6:=[GM N,nK N]
def Ao7(F:KF R):=Iq Tryz.f162 uN (Aa7 N) [] N F
def Ao8(K:St->O R):=fun c b a i h j=>K ⟨[(1,iv c),(2,op 0),(4,op 1),(5,op 2)],hq [bP b 0 a,bN 0 [.bool false,.nsl],bN 0 [.bool i,Bff 3 h],bQ 1 j]⟩
def Aa8(F:KF R):∀ n,Ao8 (Ak (Ao7 N F (pz 336) []) n)=(Lf N (mZ F) n):=Ds fun n e=>(Bs (Sp N (mZ F)) e:_)
def Atd:=B4 N 162 (Aa7 N) uN (fun
|[.pagg d f,.int .i64 g],[]=>some fun _ k=>fD N d f g (mZ k)
| _,_=>none) fun _ _=>by split;intro R F;exact(Bs (gk N (mZ F) · _ _ _) ((lW ..).trans (Aa8 ..)):_).trans (pI ..).symm;trivial
def fE(N:Nat)(r0:Nat->LA->O R)(c:LA)(a:Nat)(d f:Bool)(b:Int)(k0:Nat->Int->Int->Int->LA->O R)(h:Nat)(j l g:Int)(i:LA):O R:=(cond (decide (g<l)) (cond (Ad g a) (As .u32 (c.drop (g.toNat*1)) fun m=>cond (decide (b<0)) none (cond (Ad g h) (cond ((beq 1 1)&&((ble ((0+(g.toNat*1))+1) i.length)&&(!false))) (k0 h (Int.fdiv (MQ .u64 j (wrap .u64 ((wrap .u64 m)*2 ^ (min b.toNat 64)))) (2 ^ 32)) l (wrap .i64 (g+1)) (i.set (0+(g.toNat*1)) (.int .u32 (wrap .u32 (MQ .u64 j (wrap .u64 ((wrap .u64 m)*2 ^ (min b.toNat 64)))))))) none) none)) none) (cond (Ad (a:Int) h) (cond ((beq 1 1)&&((ble ((0+(a*1))+1) i.length)&&(!false))) (r0 h (i.set (0+(a*1)) (.int .u32 (wrap .u32 j)))) none) none))
def BN(r0:Nat->LA->O R)(c:LA)(a:Nat)(d f:Bool)(b:Int):Nat->Nat->Int->Int->Int->LA->O R
|0=>fun _ _ _ _ _=>none
|n+1=>fE N r0 c a d f b (BN r0 c a d f b n)
def fF(N:Nat)(r0:Nat->LA->O R)(q0:Nat->Int->Int->Int->LA->O R)(c:LA)(a:Nat)(d f:Bool)(b:Int):O R:=(cond ((decide (0<=(wrap .i64 ((a:Int)+1))))&&((decide ((wrap .i64 ((a:Int)+1))<=(wrap .i64 ((a:Int)+1))))&&((decide ((wrap .i64 ((a:Int)+1))<=140737488355328))&&(decide (((wrap .i64 ((a:Int)+1))*((4:Nat):Int))<=140737488355328))))) (q0 ((wrap .i64 ((a:Int)+1)).toNat) 0 (a:Int) 0 (replicate ((wrap .i64 ((a:Int)+1)).toNat) (.int .u32 0))) none)
def K_:=(Ac fun N c a d f b r0=>fF (R:=R) N r0 (BN N r0 c a d f b N) c a d f b).1
def Aa9(c a d f b r0):(@K_ R N c a d f b r0)=(fF N r0 (BN N r0 c a d f b N) c a d f b):=by rw[K_,(Ac _).2]
def kA:Hints:={H:=hK 3 (hS (hK 1 (hS (hP [0,1,5,6,13,14,15] hL) hL)) hL),nils:=[(4,1)],modes:=[(2,1)]}
def Aex(F:KF R):=Iq Tryz.f231 kA [] [] N F
def Aey(c:LA)(a:Nat)(d f:Bool)(b:Int)(K:St->O R):=fun h j l g i=>K ⟨[(0,.imm c a 1 d f),(1,iv b),(5,Bff 0 h),(6,.int .u64 j),(13,.imm c a 1 d f),(14,iv l),(15,iv g)],hq [bQ 1 i]⟩
def ry(F:KF R)(c a d f b):∀ n,Aey c a d f b (Ak (Aex N F (pz 5444) []) n)=(BN N (Em F) c a d f b n):=Ds fun n e=>(Bs (fE N (Em F) c a d f b) e:_)
def Akn:=B4 N 231 [] kA (fun
|[.imm c a 1 d f,.int .i64 b],[]=>some fun _ k=>K_ N c a d f b (Em k)
| _,_=>none) fun _ _=>by split;intro R F;exact(Bs (fF N (Em F) · _ _ _ _ _) ((lW ..).trans (ry ..)):_).trans (Aa9 ..).symm;trivial
def TF(N:Nat)(r0:Int->LA->O R)(b c:Nat)(f j:Int)(d:LA)(a:Nat)(g h:Bool)(k4:Int->Int->Int->LA->O R)(t u o:Int)(r:LA):O R:=(cond (decide (o<u)) (cond (Ad o a) (As .u32 (d.drop (o.toNat*1)) fun y=>cond (Ad o c) (As .u32 (r.drop (b+(o.toNat*1))) fun z=>cond (Ad o c) (cond ((beq 1 1)&&((ble ((b+(o.toNat*1))+1) r.length)&&(!false))) (k4 (Int.fdiv (wrap .u64 (t+(wrap .u64 ((wrap .u64 z)+(wrap .u64 y))))) (2 ^ 32)) u (wrap .i64 (o+1)) (r.set (b+(o.toNat*1)) (.int .u32 (wrap .u32 (wrap .u64 (t+(wrap .u64 ((wrap .u64 z)+(wrap .u64 y))))))))) none) none) none) none) (cond (Ad f c) (As .u32 (r.drop (b+(f.toNat*1))) fun ag=>cond (Ad f c) (cond ((beq 1 1)&&((ble ((b+(f.toNat*1))+1) r.length)&&(!false))) (r0 (wrap .u32 (wrap .u64 (j - 1))) (r.set (b+(f.toNat*1)) (.int .u32 (wrap .u32 (ag+(wrap .u32 t)))))) none) none) none))
def EI(r0:Int->LA->O R)(b c:Nat)(f j:Int)(d:LA)(a:Nat)(g h:Bool):Nat->Int->Int->Int->LA->O R
|0=>fun _ _ _ _=>none
|n+1=>TF N r0 b c f j d a g h (EI r0 b c f j d a g h n)
def TG(N:Nat)(r0:Int->LA->O R)(b c:Nat)(d:LA)(a:Nat)(g h:Bool)(f j:Int)(k3:Int->Int->Int->LA->O R)(q4:Int->Int->Int->LA->O R)(s v p:Int)(q:LA):O R:=(cond (decide (p<v)) (cond (Ad p a) (As .u32 (d.drop (p.toNat*1)) fun w=>cond (Ad p c) (As .u32 (q.drop (b+(p.toNat*1))) fun aa=>cond (Ad p c) (cond ((beq 1 1)&&((ble ((b+(p.toNat*1))+1) q.length)&&(!false))) (k3 (wrap .u64 ((Int.fdiv (wrap .u64 ((wrap .u64 (j*(wrap .u64 w)))+s)) (2 ^ 32))+(Int.fdiv (wrap .u64 ((wrap .u64 aa) - (wrap .u64 (wrap .u32 (wrap .u64 ((wrap .u64 (j*(wrap .u64 w)))+s)))))) (2 ^ 63)))) v (wrap .i64 (p+1)) (q.set (b+(p.toNat*1)) (.int .u32 (wrap .u32 (wrap .u64 ((wrap .u64 aa) - (wrap .u64 (wrap .u32 (wrap .u64 ((wrap .u64 (j*(wrap .u64 w)))+s)))))))))) none) none) none) none) (cond (Ad f c) (As .u32 (q.drop (b+(f.toNat*1))) fun x=>cond (Ad f c) (cond ((beq 1 1)&&((ble ((b+(f.toNat*1))+1) q.length)&&(!false))) (cond ((Int.fdiv (wrap .u64 ((wrap .u64 x) - s)) (2 ^ 63))==0) (r0 (wrap .u32 j) (q.set (b+(f.toNat*1)) (.int .u32 (wrap .u32 (wrap .u64 ((wrap .u64 x) - s)))))) (q4 0 (a:Int) 0 (q.set (b+(f.toNat*1)) (.int .u32 (wrap .u32 (wrap .u64 ((wrap .u64 x) - s))))))) none) none) none))
def EJ(r0:Int->LA->O R)(b c:Nat)(d:LA)(a:Nat)(g h:Bool)(f j:Int):Nat->Int->Int->Int->LA->O R
|0=>fun _ _ _ _=>none
|n+1=>TG N r0 b c d a g h f j (EJ r0 b c d a g h f j n) (EI N r0 b c f j d a g h N)
def TH(N:Nat)(r0:Int->LA->O R)(b c:Nat)(d:LA)(a:Nat)(g h:Bool)(f:Int)(i:LA)(q3:Int->Int->Int->Int->LA->O R)(j:Int):O R:=(q3 j 0 (a:Int) 0 i)
def EK(r0:Int->LA->O R)(b c:Nat)(d:LA)(a:Nat)(g h:Bool)(f:Int)(i:LA)(j:Int):O R:=TH N r0 b c d a g h f i (fun j=>EJ N r0 b c d a g h f j N) j
def TI(N:Nat)(k0:Int->Int->Int->O R)(r0:Int->LA->O R)(b c:Nat)(d:LA)(a:Nat)(g h:Bool)(f l m:Int)(i:LA)(q2:Int->O R):O R:=(cond (Ad (wrap .i64 (f - 1)) a) (As .u32 (d.drop (((wrap .i64 (f - 1)).toNat)*1)) fun ab=>cond ((Int.fdiv (wrap .u64 (m+(wrap .u64 ab))) (2 ^ 32)) != 0) (q2 (wrap .u64 (l - 1))) (k0 f (wrap .u64 (l - 1)) (wrap .u64 (m+(wrap .u64 ab))))) none)
def EL(k0:Int->Int->Int->O R)(r0:Int->LA->O R)(b c:Nat)(d:LA)(a:Nat)(g h:Bool)(f l m:Int)(i:LA):O R:=TI N k0 r0 b c d a g h f l m i (EK N r0 b c d a g h f i)
def TJ(N:Nat)(r0:Int->LA->O R)(b c:Nat)(d:LA)(a:Nat)(g h:Bool)(i:LA)(k0:Int->Int->Int->O R)(q1:Int->Int->Int->O R)(q2:Int->Int->O R)(f l m:Int):O R:=(cond (((Int.fdiv l (2 ^ 32)) != 0)==false) (cond (Ad (wrap .i64 (f - 2)) a) (As .u32 (d.drop (((wrap .i64 (f - 2)).toNat)*1)) fun ah=>cond (Ad (wrap .i64 (f - 2)) c) (As .u32 (i.drop (b+(((wrap .i64 (f - 2)).toNat)*1))) fun ai=>cond (cond false true (decide ((wrap .u64 (l*(wrap .u64 ah)))>(MQ .u64 (wrap .u64 (m*2 ^ 32)) (wrap .u64 ai))))) (q1 f l m) (q2 f l)) none) none) (q1 f l m))
def O1(r0:Int->LA->O R)(b c:Nat)(d:LA)(a:Nat)(g h:Bool)(i:LA):Nat->Int->Int->Int->O R
|0=>fun _ _ _=>none
|n+1=>TJ N r0 b c d a g h i (O1 r0 b c d a g h i n) (fun f l m=>EL N (O1 r0 b c d a g h i n) r0 b c d a g h f l m i) (fun f=>EK N r0 b c d a g h f i)
def QP(N:Nat)(r0:Int->LA->O R)(q0:Int->Int->Int->O R)(b c:Nat)(d:LA)(a:Nat)(g h:Bool)(i:LA):O R:=(cond (Ad (a:Int) c) (As .u32 (i.drop (b+(a*1))) fun ac=>cond (Ad (wrap .i64 ((a:Int) - 1)) c) (As .u32 (i.drop (b+(((wrap .i64 ((a:Int) - 1)).toNat)*1))) fun ad=>cond (Ad (wrap .i64 ((a:Int) - 1)) a) (As .u32 (d.drop (((wrap .i64 ((a:Int) - 1)).toNat)*1)) fun ae=>cond ((wrap .u64 ae)==0) none (cond (Ad (wrap .i64 ((a:Int) - 1)) a) (As .u32 (d.drop (((wrap .i64 ((a:Int) - 1)).toNat)*1)) fun af=>cond ((wrap .u64 af)==0) none (q0 (a:Int) (wrap .u64 (Int.tdiv (MQ .u64 (wrap .u64 ((wrap .u64 ac)*2 ^ 32)) (wrap .u64 ad)) (wrap .u64 ae))) (Int.tmod (MQ .u64 (wrap .u64 ((wrap .u64 ac)*2 ^ 32)) (wrap .u64 ad)) (wrap .u64 af)))) none)) none) none) none)
def IC:=(Ac fun N b c d a g h i r0=>QP (R:=R) N r0 (O1 N r0 b c d a g h i N) b c d a g h i).1
def rz(b c d a g h i r0):(@IC R N b c d a g h i r0)=(QP N r0 (O1 N r0 b c d a g h i N) b c d a g h i):=by rw[IC,(Ac _).2]
def ZX:Hints:={H:=hK 4 (hJ [0,1,5,7] (hS (hP [0,1,5,7,8] (hJ [0,1,5,7,8] hL hL)) hL) (hK 1 (hS (hK 1 (hS (hP [0,1,5,7,9,84,85,86] hL) hL)) (hK 4 (hS (hK 1 (hS (hP [0,5,7,9,134,135,136] hL) hL)) hL)))))}
def O2(F:KF R):=Iq Tryz.f232 ZX [] [100000] N F
def C2(F:KF R):Int->LA->O R:=fun aj ak=>F (.int .u32 aj) [(100000,bQ 1 ak)]
def wV(b c:Nat)(f j:Int)(d:LA)(a:Nat)(g h:Bool)(K:St->O R):=fun t u o r=>K ⟨[(0,.own 100000 b c),(5,iv f),(7,.int .u64 j),(9,.int .u64 t),(134,.imm d a 1 g h),(135,iv u),(136,iv o)],[(100000,bQ 1 r)]⟩
def wW(b c:Nat)(d:LA)(a:Nat)(g h:Bool)(f j:Int)(K:St->O R):=fun s v p q=>K ⟨[(0,.own 100000 b c),(1,.imm d a 1 g h),(5,iv f),(7,.int .u64 j),(9,.int .u64 s),(84,.imm d a 1 g h),(85,iv v),(86,iv p)],[(100000,bQ 1 q)]⟩
def wX(b c:Nat)(d:LA)(a:Nat)(g h:Bool)(f:Int)(i:LA)(K:St->O R):=fun j=>K ⟨[(0,.own 100000 b c),(1,.imm d a 1 g h),(5,iv f),(7,.int .u64 j)],[(100000,bQ 1 i)]⟩
def wY(b c:Nat)(d:LA)(a:Nat)(g h:Bool)(f l m:Int)(i:LA)(K:St->O R):=K ⟨[(0,.own 100000 b c),(1,.imm d a 1 g h),(5,iv f),(7,.int .u64 l),(8,.int .u64 m)],[(100000,bQ 1 i)]⟩
def EM(b c:Nat)(d:LA)(a:Nat)(g h:Bool)(i:LA)(K:St->O R):=fun f l m=>K ⟨[(0,.own 100000 b c),(1,.imm d a 1 g h),(5,iv f),(7,.int .u64 l),(8,.int .u64 m)],[(100000,bQ 1 i)]⟩
def ld(F:KF R)(b c f j d a g h):∀ n,wV b c f j d a g h (Ak (O2 N F (pz 357913924) []) n)=(EI N (C2 F) b c f j d a g h n):=Ds fun n e=>(Bs (TF N (C2 F) b c f j d a g h) e:_)
def lf(F:KF R)(b c d a g h f j):∀ n,wW b c d a g h f j (Ak (O2 N F (pz 349508) []) n)=(EJ N (C2 F) b c d a g h f j n):=Ds fun n e=>(Xs (TG N (C2 F) b c d a g h f j) e ((lW ..).trans (ld ..)):_)
def K'(F:KF R)(b c d a g h f i):wX b c d a g h f i (Bo (O2 N F (pz 1365) []))=(EK N (C2 F) b c d a g h f i):=(Bs (TH N (C2 F) b c d a g h f i) (qY fun j=>(lW ..).trans (lf ..)):_)
def lh Q0 (F:KF R) (b c d a g h f l m i):wY b c d a g h f l m i (Bo (O2 N F (pz 87297) [Q0]))=(EL N (EM b c d a g h i Q0) (C2 F) b c d a g h f l m i):=(Bs (TI N (EM b c d a g h i Q0) (C2 F) b c d a g h f l m i) ((jW ..).trans (K' ..)):_)
def li(F:KF R)(b c d a g h i):∀ n,EM b c d a g h i (Ak (O2 N F (pz 5456) []) n)=(O1 N (C2 F) b c d a g h i n):=Ds fun n e=>(A7h (TJ N (C2 F) b c d a g h i) e (A2b fun f l m=>(jW ..).trans ((lh ..).trans (rB (EL _ · _ _ _ _ _ _ _ _ _ _ _) e))) (qY fun f=>(jW ..).trans (K' ..)):_)
def Aba:=B4 N 232 [] ZX (fun
|[.own 100000 b c,.imm d a 1 g h],[(100000,⟨false,false,true,false,1,i,false,none⟩)]=>some fun _ k=>IC N b c d a g h i (C2 k)
| _,_=>none) fun _ _=>by split;intro R F;exact(Bs (QP N (C2 F) · _ _ _ _ _ _ _) ((lW ..).trans (li ..)):_).trans (rz ..).symm;trivial
def OT(r0:Nat->Bool->LA->O R)(b:Bool)(k0:LA->Nat->Int->Nat->LA->Nat->Int->Int->LA->O R)(o:LA)(m:Nat)(f:Int)(l:Nat)(p:LA)(q:Nat)(r d:Int)(g:LA):O R:=(cond (decide (d<r)) (cond (Ad d q) (As .u32 (p.drop (d.toNat*1)) fun s=>cond (decide ((wrap .i64 (d+1))<(m:Int))) (cond (Ad (wrap .i64 (d+1)) m) (As .u32 (o.drop (((wrap .i64 (d+1)).toNat)*1)) fun u=>cond (decide (f<0)) none (cond (Ad d l) (cond ((beq 1 1)&&((ble ((0+(d.toNat*1))+1) g.length)&&(!false))) (k0 o m f l p q r (wrap .i64 (d+1)) (g.set (0+(d.toNat*1)) (.int .u32 (wrap .u32 (Int.fdiv (MQ .u64 (wrap .u64 s) (wrap .u64 ((wrap .u64 u)*2 ^ 32))) (2 ^ (min f.toNat 64))))))) none) none)) none) (cond (decide (f<0)) none (cond (Ad d l) (cond ((beq 1 1)&&((ble ((0+(d.toNat*1))+1) g.length)&&(!false))) (k0 o m f l p q r (wrap .i64 (d+1)) (g.set (0+(d.toNat*1)) (.int .u32 (wrap .u32 (Int.fdiv (wrap .u64 s) (2 ^ (min f.toNat 64))))))) none) none))) none) (JU N l g fun v=>r0 v true g))
def Sq(r0:Nat->Bool->LA->O R)(b:Bool):Nat->LA->Nat->Int->Nat->LA->Nat->Int->Int->LA->O R
|0=>fun _ _ _ _ _ _ _ _ _=>none
|n+1=>OT N r0 b (Sq r0 b n)
def LB(r0:Nat->Bool->LA->O R)(q0:LA->Nat->Int->Nat->LA->Nat->Int->Int->LA->O R)(h:LA)(i:Nat)(j b:Bool)(a:Int):O R:=(cond (decide (a<0)) (r0 0 false []) (D6 N h i j b fun t c=>cond (decide ((wrap .i64 (Int.tdiv a 32))>=(c:Int))) (r0 0 true []) (cond ((decide (0<=(wrap .i64 (Int.tdiv a 32))))&&((decide ((wrap .i64 (Int.tdiv a 32))<=(c:Int)))&&((decide ((c:Int)<=(c:Int)))&&(decide ((c:Int)<=(c:Int)))))) (cond ((decide (0<=(((c - ((wrap .i64 (Int.tdiv a 32)).toNat)):Nat):Int)))&&((decide ((((c - ((wrap .i64 (Int.tdiv a 32)).toNat)):Nat):Int)<=(((c - ((wrap .i64 (Int.tdiv a 32)).toNat)):Nat):Int)))&&((decide ((((c - ((wrap .i64 (Int.tdiv a 32)).toNat)):Nat):Int)<=140737488355328))&&(decide (((((c - ((wrap .i64 (Int.tdiv a 32)).toNat)):Nat):Int)*((4:Nat):Int))<=140737488355328))))) (q0 ((t.drop (((wrap .i64 (Int.tdiv a 32)).toNat)*1)).take ((c - ((wrap .i64 (Int.tdiv a 32)).toNat))*1)) (c - ((wrap .i64 (Int.tdiv a 32)).toNat)) (Int.tmod a 32) (c - ((wrap .i64 (Int.tdiv a 32)).toNat)) ((t.drop (((wrap .i64 (Int.tdiv a 32)).toNat)*1)).take ((c - ((wrap .i64 (Int.tdiv a 32)).toNat))*1)) (c - ((wrap .i64 (Int.tdiv a 32)).toNat)) (((c - ((wrap .i64 (Int.tdiv a 32)).toNat)):Nat):Int) 0 (replicate (c - ((wrap .i64 (Int.tdiv a 32)).toNat)) (.int .u32 0))) none) none)))
def BO:=(Ac fun N h i j b a r0=>LB (R:=R) N r0 (Sq N r0 b N) h i j b a).1
def pJ(h i j b a r0):(@BO R N h i j b a r0)=(LB N r0 (Sq N r0 b N) h i j b a):=by rw[BO,(Ac _).2]
def TK:Hints:={H:=hK 7 (hS (hK 1 (hS (hP [0,6,7,29,30,31] hL) hL)) hL),nils:=[(4,1)],modes:=[(2,1),(0,0)]}
def ZY:O6:=[Iz N]
def sA(F:KF R):=Iq Tryz.f233 TK (ZY N) [] N F
def sB(b:Bool)(K:St->O R):=fun o m f l p q r d g=>K ⟨[(0,.imm o m 1 false b),(6,iv f),(7,Bff 0 l),(29,.imm p q 1 false b),(30,iv r),(31,iv d)],hq [bQ 1 g]⟩
def iw(F:KF R)b:∀ n,sB b (Ak (sA N F (pz 1398084) []) n)=(Sq N (tU F) b n):=Ds fun n e=>(Bs (OT N (tU F) b) e:_)
def wZ:=B4 N 233 (ZY N) TK (fun
|[.imm h i 1 j b,.int .i64 a],[]=>some fun _ k=>BO N h i j b a (tU k)
| _,_=>none) fun _ _=>by split;intro R F;exact(Bs (LB N (tU F) · _ _ _ _ _) ((lW ..).trans (iw ..)):_).trans (pJ ..).symm;trivial
def OU(r0:Nat->Nat->LA->LA->O R)(c:Int)(a b:Nat)(d:LA)(k0:Nat->Int->Int->Int->Int->LA->LA->O R)(s:Nat)(h g t f:Int)(r u:LA):O R:=(cond (decide (f<t)) (cond ((decide (0<=(wrap .i64 ((wrap .i64 (g - 1)) - f))))&&((decide ((wrap .i64 ((wrap .i64 (g - 1)) - f))<=(wrap .i64 ((wrap .i64 ((wrap .i64 ((wrap .i64 (g - 1)) - f))+h))+1))))&&((decide ((wrap .i64 ((wrap .i64 ((wrap .i64 ((wrap .i64 (g - 1)) - f))+h))+1))<=(b:Int)))&&(decide ((b:Int)<=(b:Int)))))) (IC N (0+(((wrap .i64 ((wrap .i64 (g - 1)) - f)).toNat)*1)) (((wrap .i64 ((wrap .i64 ((wrap .i64 ((wrap .i64 (g - 1)) - f))+h))+1)).toNat) - ((wrap .i64 ((wrap .i64 (g - 1)) - f)).toNat)) (d.take (a*1)) a false true u fun w x=>cond (Ad (wrap .i64 ((wrap .i64 (g - 1)) - f)) s) (cond ((beq 1 1)&&((ble ((0+(((wrap .i64 ((wrap .i64 (g - 1)) - f)).toNat)*1))+1) r.length)&&(!false))) (k0 s h g t (wrap .i64 (f+1)) (r.set (0+(((wrap .i64 ((wrap .i64 (g - 1)) - f)).toNat)*1)) (.int .u32 w)) x) none) none) none) (cond ((decide ((0:Int)<=(0:Int)))&&((decide (0<=h))&&((decide (h<=(b:Int)))&&(decide ((b:Int)<=(b:Int)))))) (BO N (u.take (h.toNat*1)) h.toNat false true c fun y ad z=>JU N s r fun aa=>r0 aa y r z) none))
def Sr(r0:Nat->Nat->LA->LA->O R)(c:Int)(a b:Nat)(d:LA):Nat->Nat->Int->Int->Int->Int->LA->LA->O R
|0=>fun _ _ _ _ _ _ _=>none
|n+1=>OU N r0 c a b d (Sr r0 c a b d n)
def LC(r0:Nat->Nat->LA->LA->O R)(q0:Int->Nat->LA->Nat->Int->Int->Int->Int->LA->LA->O R)(j:LA)(l:Nat)(p m:Bool)(i:LA)(a:Nat)(q o:Bool):O R:=(cond (Ad (wrap .i64 ((a:Int) - 1)) a) (As .u32 (i.drop (((wrap .i64 ((a:Int) - 1)).toNat)*1)) fun ab=>Hu N ab fun c=>K_ N i a false o c fun v d=>cond ((decide ((0:Int)<=(0:Int)))&&((decide (0<=(a:Int)))&&((decide ((a:Int)<=(v:Int)))&&(decide ((v:Int)<=(v:Int)))))) (K_ N j l false m c fun b ac=>cond ((decide (0<=(wrap .i64 ((b:Int) - (a:Int)))))&&((decide ((wrap .i64 ((b:Int) - (a:Int)))<=(wrap .i64 ((b:Int) - (a:Int)))))&&((decide ((wrap .i64 ((b:Int) - (a:Int)))<=140737488355328))&&(decide (((wrap .i64 ((b:Int) - (a:Int)))*((4:Nat):Int))<=140737488355328))))) (q0 c b d ((wrap .i64 ((b:Int) - (a:Int))).toNat) (a:Int) (wrap .i64 ((b:Int) - (a:Int))) (wrap .i64 ((b:Int) - (a:Int))) 0 (replicate ((wrap .i64 ((b:Int) - (a:Int))).toNat) (.int .u32 0)) ac) none) none) none)
def BP:=(Ac fun N j l p m i a q o r0=>LC (R:=R) N r0 (fun c b d=>Sr N r0 c a b d N) j l p m i a q o).1
def pK(j l p m i a q o r0):(@BP R N j l p m i a q o r0)=(LC N r0 (fun c b d=>Sr N r0 c a b d N) j l p m i a q o):=by rw[BP,(Ac _).2]
def TL:Hints:={H:=hK 7 (hS (hK 1 (hS (hP [4,6,7,8,9,10,35,36] hL) hL)) hL),nils:=[(4,1),(5,1)],modes:=[(2,1),(2,1)]}
def ZZ:O6:=[Qq N,Akn N,Aba N,wZ N,nI N]
def sC(F:KF R):=Iq Tryz.f219 TL (ZZ N) [] N F
def sD(c:Int)(a b:Nat)(d:LA)(K:St->O R):=fun s h g t f r u=>K ⟨[(4,Bff 0 s),(6,iv h),(7,iv c),(8,Bff 1 a),(9,Bff 2 b),(10,iv g),(35,iv t),(36,iv f)],hq [bQ 1 r,bQ 1 d,bQ 1 u]⟩
def ix(F:KF R)(c a b d):∀ n,sD c a b d (Ak (sC N F (pz 1398084) []) n)=(Sr N (tV F) c a b d n):=Ds fun n e=>(Bs (OU N (tV F) c a b d) e:_)
def w_:=B4 N 219 (ZZ N) TL (fun
|[.imm j l 1 p m,.imm i a 1 q o],[]=>some fun _ k=>BP N j l p m i a q o (tV k)
| _,_=>none) fun _ _=>by split;intro R F;exact(Bs (LC N (tV F) · _ _ _ _ _ _ _ _) (A2b fun c b d=>(lW ..).trans (ix ..)):_).trans (pK ..).symm;trivial
def Abb(h:LA)(i:Nat)(j a:Bool)(l:LA)(m:Nat)(n b:Bool)(r0:Nat->Nat->Bool->LA->LA->O R):O R:=(D6 N h i j a fun e c=>D6 N l m n b fun f d=>cond ((d:Int)==0) (r0 0 0 false [] []) (Ht N e c false a f d false b fun p=>cond (decide (p<0)) (NI N e c false a fun q r=>r0 0 q true [] r) (cond (decide ((c:Int)<=2)) (GP N e c false a fun o=>GP N f d false b fun g=>cond (g==0) none (Du N (wrap .u64 (Int.tdiv o g)) fun s t=>cond (g==0) none (Du N (Int.tmod o g) fun u v=>r0 s u true t v))) (cond ((d:Int)==1) (cond (Ad 0 d) (As .u32 f fun w=>Ue N e c false a w fun x y z aa=>r0 x y true z aa) none) (BP N e c false a f d false b fun ab ac ad ae=>r0 ab ac true ad ae)))))
def Zq:=(Ac (@Abb R)).1
def Aez:@Zq R=@Abb R:=(Ac _).2
def Ako(F:KF R):Nat->Nat->Bool->LA->LA->O R:=fun af ag ah ai aj=>F (.tup [Bff 0 af,Bff 1 ag,.bool ah]) (hq [bQ 1 ai,bQ 1 aj])
def uO:=B4 N 204 [Qo N,Ua N,SE N,rX N,Kp N,ni N,w_ N] { H:=hL,nils:=[(4,1),(5,1)],modes:=[(2,1),(2,1),(0,0)] } (fun
|[.imm h i 1 j a,.imm l m 1 n b],[]=>some fun _ k=>Zq N h i j a l m n b (Ako k)
| _,_=>none) fun _ _=>by split;intro R F;dsimp only;rw[Aez];kernel_rfl;trivial
def uP(a:LA)(b:Nat)(i c:Bool)(d:Int)(e:LA)(f:Nat)(j g:Bool)(h:Int)(r0:Nat->LA->O R):O R:=(Du N d fun l p=>dG N a b false c (p.take (l*1)) l false true fun m q=>Du N h fun n r=>dG N e f false g (r.take (n*1)) n false true fun o s=>dH N (q.take (m*1)) m false true (s.take (o*1)) o false true fun t v u=>r0 t u)
def Zr:=(Ac (@uP R)).1
def Abc:@Zr R=@uP R:=(Ac _).2
def Akp:=B4 N 217 [Kp N,yi N,Anq N] { H:=hL,nils:=[(8,1)],modes:=[(2,1)] } (fun
|[.imm a b 1 i c,.int .u64 d,.imm e f 1 j g,.int .u64 h],[]=>some fun _ k=>Zr N a b i c d e f j g h (Em k)
| _,_=>none) fun _ _=>by split;intro R F;dsimp only;rw[Abc];kernel_rfl;trivial
def Abd(k1:LA->Nat->Bool->LA->Nat->Bool->O R)(r0:Nat->LA->O R)(k2:Int->Int->O R)(z s:Int):O R:=(cond (s != 0) (cond (s==0) none (k2 s (Int.tmod z s))) (Du N z fun aj ak=>r0 aj ak))
def gn(k1:LA->Nat->Bool->LA->Nat->Bool->O R)(r0:Nat->LA->O R):Nat->Int->Int->O R
|0=>fun _ _=>none
|n+1=>Abd N k1 r0 (gn k1 r0 n)
def Abe(r0:Nat->LA->O R)(k1:LA->Nat->Bool->LA->Nat->Bool->O R)(q2:Int->Int->O R)(g:LA)(a:Nat)(h:Bool)(i:LA)(b:Nat)(j:Bool):O R:=(cond (decide ((b:Int)>0)) (cond (decide ((a:Int)<=2)) (GP N g a false h fun al=>GP N i b false j fun am=>q2 al am) (WM N g a false h i b false j fun c=>cond ((beq c.length 5)&&((ble 5 5)&&(!false))) (As .u64 ((setCells [.int .u64 0,.int .u64 0,.int .u64 0,.int .u64 0,.bool false] 0 c).drop 2) fun an=>cond (an==0) (Zq N g a false h i b false j fun bh ae bi bj ao=>k1 i b j (ao.take (ae*1)) ae false) (RL ((setCells [.int .u64 0,.int .u64 0,.int .u64 0,.int .u64 0,.bool false] 0 c).drop 4) fun ap=>cond ap (As .u64 (setCells [.int .u64 0,.int .u64 0,.int .u64 0,.int .u64 0,.bool false] 0 c) fun aq=>As .u64 ((setCells [.int .u64 0,.int .u64 0,.int .u64 0,.int .u64 0,.bool false] 0 c).drop 2) fun ar=>Zr N g a false h aq i b false j ar fun af au=>As .u64 ((setCells [.int .u64 0,.int .u64 0,.int .u64 0,.int .u64 0,.bool false] 0 c).drop 3) fun av=>As .u64 ((setCells [.int .u64 0,.int .u64 0,.int .u64 0,.int .u64 0,.bool false] 0 c).drop 1) fun aw=>Zr N i b false j av g a false h aw fun ag ax=>k1 (au.take (af*1)) af false (ax.take (ag*1)) ag false) (As .u64 ((setCells [.int .u64 0,.int .u64 0,.int .u64 0,.int .u64 0,.bool false] 0 c).drop 2) fun ay=>As .u64 (setCells [.int .u64 0,.int .u64 0,.int .u64 0,.int .u64 0,.bool false] 0 c) fun az=>Zr N i b false j ay g a false h az fun ah ba=>As .u64 ((setCells [.int .u64 0,.int .u64 0,.int .u64 0,.int .u64 0,.bool false] 0 c).drop 1) fun bb=>As .u64 ((setCells [.int .u64 0,.int .u64 0,.int .u64 0,.int .u64 0,.bool false] 0 c).drop 3) fun bc=>Zr N g a false h bb i b false j bc fun ai bd=>k1 (ba.take (ah*1)) ah false (bd.take (ai*1)) ai false))) none)) (NI N g a false h fun be bf=>r0 be bf))
def gp(r0:Nat->LA->O R):Nat->LA->Nat->Bool->LA->Nat->Bool->O R
|0=>fun _ _ _ _ _ _=>none
|n+1=>Abe N r0 (gp r0 n) (gn N (gp r0 n) r0 N)
def Abf(N:Nat)(r0:Nat->LA->O R)(q1:LA->Nat->Bool->LA->Nat->Bool->O R)(t:LA)(u:Nat)(v:Bool)(w:LA)(x:Nat)(y:Bool):O R:=(q1 t u v w x y)
def sE(r0:Nat->LA->O R)(t:LA)(u:Nat)(v:Bool)(w:LA)(x:Nat)(y:Bool):O R:=Abf N r0 (gp N r0 N) t u v w x y
def Akq(r0:Nat->LA->O R)(q0:LA->Nat->Bool->LA->Nat->Bool->O R)(l:LA)(m:Nat)(o d:Bool)(p:LA)(q:Nat)(r f:Bool):O R:=(D6 N l m o d fun aa ab=>D6 N p q r f fun ac ad=>Ht N aa ab false d ac ad false f fun bg=>cond (decide (bg<0)) (q0 ac ad f aa ab d) (q0 aa ab d ac ad f))
def Akr:=(Ac fun N l m o d p q r f r0=>Akq (R:=R) N r0 (sE N r0) l m o d p q r f).1
def Ate(l m o d p q r f r0):(@Akr R N l m o d p q r f r0)=(Akq N r0 (sE N r0) l m o d p q r f):=by rw[Akr,(Ac _).2]
def Agm:Hints:={H:=hK 2 (hJ [0,1] hL (hS (hS (hP [0,1] (hK 1 (hS (hS (hK 1 (hS (hK 1 (hS (hS (hP [5,6] hL) hL) hL)) hL)) hL) hL))) hL) hL)),nils:=[(0,1000001),(1,1000001)],modes:=[(2,1)]}
def Ao9:O6:=[Qo N,Ua N,rX N,Ajr N,uO N,Akp N,SE N,Kp N]
def sF(F:KF R):=Iq Tryz.f203 Agm (Ao9 N) [] N F
def Axr(K:St->O R):=fun z s=>K ⟨[(5,.int .u64 z),(6,.int .u64 s)],[]⟩
def sG(K:St->O R):=fun g a h i b j=>K ⟨[(0,.imm g a 1 false h),(1,.imm i b 1 false j)],[]⟩
def Axs(K:St->O R):=fun t u v w x y=>K ⟨[(0,.imm t u 1 false v),(1,.imm w x 1 false y)],[]⟩
def Aks Q1 (F:KF R):∀ n,Axr (Ak (sF N F (pz 356532496) [Q1]) n)=(gn N (sG Q1) (Em F) n):=Ds fun n e=>(Bs (Abd N (sG Q1) (Em F)) e:_)
def Akt(F:KF R):∀ n,sG (Ak (sF N F (pz 1360) []) n)=(gp N (Em F) n):=Ds fun n e=>(Xs (Abe N (Em F)) e ((lW ..).trans ((Aks ..).trans (rB (gn _ · _ _) e))):_)
def Aku(F:KF R):Axs (Bo (sF N F (pz 85) []))=(sE N (Em F)):=(Bs (Abf N (Em F)) ((lW ..).trans (Akt ..)):_)
def A0f:=B4 N 203 (Ao9 N) Agm (fun
|[.imm l m 1 o d,.imm p q 1 r f],[]=>some fun _ k=>Akr N l m o d p q r f (Em k)
| _,_=>none) fun _ _=>by split;intro R F;exact(Bs (Akq N (Em F) · _ _ _ _ _ _ _ _) ((jW ..).trans (Aku ..)):_).trans (Ate ..).symm;trivial
def Abg(d:LA)(f:Bool)(i:LA)(j:Nat)(n l:Bool)(r0:LA->O R):O R:=(RL d fun s=>Bh 1 (d.drop 1) fun t u=>cond (beq d.length 2) (Ajq N [.bool s,.imm t u 1 false f] (f||false) fun m b g=>NI N i j false l fun c h=>cond ((b:Int)==0) (r0 [.bool false,.nsl,.imm [.int .u32 1] 1 1 false false]) (Akr N (g.take (b*1)) b false true (h.take (c*1)) c false true fun a e=>cond (((a:Int) != 1)==false) (cond (Ad 0 a) (As .u32 e fun v=>cond (cond false true (v != 1)) (Zq N (g.take (b*1)) b false true (e.take (a*1)) a false true fun o aa ab w ac=>Zq N (h.take (c*1)) c false true (e.take (a*1)) a false true fun p ad ae x af=>r0 [.bool m,.imm (w.take (o*1)) o 1 false false,.imm (x.take (p*1)) p 1 false false]) (r0 [.bool m,.imm (g.take (b*1)) b 1 false false,.imm (h.take (c*1)) c 1 false false])) none) (Zq N (g.take (b*1)) b false true (e.take (a*1)) a false true fun q ag ah y ai=>Zq N (h.take (c*1)) c false true (e.take (a*1)) a false true fun r aj ak z al=>r0 [.bool m,.imm (y.take (q*1)) q 1 false false,.imm (z.take (r*1)) r 1 false false]))) none)
def gq:=(Ac (@Abg R)).1
def Ae0:@gq R=@Abg R:=(Ac _).2
def uQ:=B4 N 174 [Axj N,SE N,A0f N,uO N] { H:=hL,modes:=[(3,0)],cob:=[2] } (fun
|[.pagg d f,.imm i j 1 n l],[]=>some fun _ k=>gq N d f i j n l (Ku k)
| _,_=>none) fun _ _=>by split;intro R F;dsimp only;rw[Ae0];kernel_rfl;trivial
def Abh(a:LA)(b:Bool)(r0:LA->O R):O R:=(cond (ble 3 a.length) (Wv N (a.take 3) b fun e f g=>cond g (Qp N e f fun c=>cond ((beq 0 0)&&((beq c.length 3)&&(beq 3 3))) (cond (ble 3 c.length) (r0 (c.take 3)) none) none) (cond (ble 3 a.length) (Wu N (a.take 3) b fun h i j l m=>gq N h i j l false m fun d=>cond ((beq 0 0)&&((beq d.length 3)&&(beq 3 3))) (cond (ble 3 d.length) (r0 (d.take 3)) none) none) none)) none)
def gr:=(Ac (@Abh R)).1
def uR:@gr R=@Abh R:=(Ac _).2
def sH:=B4 N 150 [lJ N,jb N,WL N,uQ N] Am8 (fun
|[.pagg a b],[]=>some fun _ k=>gr N a b (Ku k)
| _,_=>none) fun _ _=>by split;intro R F;dsimp only;rw[uR];kernel_rfl;trivial
def Akv(c:LA)(d:Bool)(r0:LA->O R):O R:=(RL c fun g=>Bh 1 (c.drop 1) fun h i=>Bh 1 (c.drop 2) fun j l=>cond (beq c.length 3) (gr N [.bool g,.imm h i 1 false d,.imm j l 1 false d] (d||(d||false)) fun a=>cond ((beq 0 0)&&((beq a.length 3)&&(beq 3 3))) (cond (ble 2 a.length) (rS N (a.take 2) false fun e b f=>cond ((beq 2 2)&&((ble 2 a.length)&&(!false))) (cond (ble 3 ((C3 a 0 [.bool e,.imm (f.take (b*1)) b 1 false false]).length)) (cond ((beq 0 0)&&((beq (((C3 a 0 [.bool e,.imm (f.take (b*1)) b 1 false false]).take 3).length) 3)&&(beq 3 3))) (cond (ble 3 (((C3 a 0 [.bool e,.imm (f.take (b*1)) b 1 false false]).take 3).length)) (r0 (((C3 a 0 [.bool e,.imm (f.take (b*1)) b 1 false false]).take 3).take 3)) none) none) none) none) none) none) none)
def Akw:=(Ac (@Akv R)).1
def Abi:@Akw R=@Akv R:=(Ac _).2
def A0g:=B4 N 149 [sH N,Ann N] { H:=hL,modes:=[(3,0)],cob:=[1] } (fun
|[.pagg c d],[]=>some fun _ k=>Akw N c d (Ku k)
| _,_=>none) fun _ _=>by split;intro R F;dsimp only;rw[Abi];kernel_rfl;trivial
def Akx(b:LA)(d:Bool)(c:LA)(a:Bool)(r0:LA->Bool->O R):O R:=(RL b fun i=>Bh 1 (b.drop 1) fun j l=>cond (beq b.length 2) (RL c fun f=>Bh 1 (c.drop 1) fun g h=>cond (beq c.length 2) (NL N [.bool f,.imm g h 1 false a] (a||false) fun m=>cond (m==0) (r0 [.bool false,.nsl,.nsl] false) (gr N [.bool (!(i==f)),.imm j l 1 false d,.imm g h 1 false a] (d||(a||false)) fun e=>cond ((beq 0 0)&&((beq e.length 3)&&(beq 3 3))) (cond (ble 3 e.length) (r0 (e.take 3) true) none) none)) none) none)
def Abj:=(Ac (@Akx R)).1
def Abk:@Abj R=@Akx R:=(Ac _).2
def Axt(F:KF R):LA->Bool->O R:=fun n o=>F (.tup [.pagg n false,.bool o]) []
def Apa:=B4 N 176 [rW N,sH N] { H:=hL,modes:=[(3,0),(0,0)],cob:=[2,3] } (fun
|[.pagg b d,.pagg c a],[]=>some fun _ k=>Abj N b d c a (Axt k)
| _,_=>none) fun _ _=>by split;intro R F;dsimp only;rw[Abk];kernel_rfl;trivial
def pM(b:LA)(d:Bool)(r0:LA->O R):O R:=(As .i64 b fun g=>Jt N g fun h e i=>As .i64 (b.drop 1) fun j=>Jt N j fun l f m=>Abj N [.bool h,.imm (i.take (e*1)) e 1 false true] true [.bool l,.imm (m.take (f*1)) f 1 false true] true fun a n=>cond ((beq 0 0)&&((beq a.length 3)&&(beq 3 3))) (cond (!n) (Y7 N 0 fun c=>cond ((beq 0 0)&&((beq c.length 3)&&(beq 3 3))) (cond (ble 3 c.length) (r0 (c.take 3)) none) none) (cond (ble 3 a.length) (cond ((beq 0 0)&&((beq ((a.take 3).length) 3)&&(beq 3 3))) (cond (ble 3 ((a.take 3).length)) (r0 ((a.take 3).take 3)) none) none) none)) none)
def OV:=(Ac (@pM R)).1
def wa:@OV R=@pM R:=(Ac _).2
def Ae1:=B4 N 181 [GM N,Apa N,WI N] Am8 (fun
|[.pagg b d],[]=>some fun _ k=>OV N b d (Ku k)
| _,_=>none) fun _ _=>by split;intro R F;dsimp only;rw[wa];kernel_rfl;trivial
def sI(r0:LA->O R)(c:Bool)(a:LA)(d:Bool)(b:LA):O R:=(cond (ble 3 a.length) (Wu N (a.take 3) c fun e l m n o=>cond ((beq 0 0)&&((beq e.length 2)&&(beq 2 2))) (cond (ble 3 b.length) (Wu N (b.take 3) d fun f p q r s=>cond ((beq 0 0)&&((beq f.length 2)&&(beq 2 2))) (cond (ble 2 e.length) (cond (ble 2 f.length) (JX N (e.take 2) l (f.take 2) p fun t i u=>dG N m n false o q r false s fun j v=>gq N [.bool t,.imm (u.take (i*1)) i 1 false true] true (v.take (j*1)) j false true fun g=>cond ((beq 0 0)&&((beq g.length 3)&&(beq 3 3))) (cond (ble 3 g.length) (r0 (g.take 3)) none) none) none) none) none) none) none) none)
def Aky(r0:LA->O R)(q0:O R)(a:LA)(c:Bool)(b:LA)(d:Bool):O R:=(cond (ble 3 a.length) (Wv N (a.take 3) c fun w x y=>cond (ble 3 b.length) (Wv N (b.take 3) d fun z aa ab=>cond (y==true) (cond (cond true ab false) (Qp N (wrap .i64 (w*z)) (wrap .i64 (x*aa)) fun h=>cond ((beq 0 0)&&((beq h.length 3)&&(beq 3 3))) (cond (ble 3 h.length) (r0 (h.take 3)) none) none) q0) q0) none) none)
def sJ:=(Ac fun N a c b d r0=>Aky (R:=R) N r0 (sI N r0 c a d b) a c b d).1
def Atf(a c b d r0):(@sJ R N a c b d r0)=(Aky N r0 (sI N r0 c a d b) a c b d):=by rw[sJ,(Ac _).2]
def Agn:Hints:={H:=hK 3 (hJ [2,3,4] hL hL),modes:=[(3,0)]}
def Apb:O6:=[lJ N,jb N,WL N,nK N,yi N,uQ N]
def Axu(F:KF R):=Iq Tryz.f154 Agn (Apb N) [] N F
def Axv(c:Bool)(a:LA)(d:Bool)(b:LA)(K:St->O R):=K ⟨[(2,op 0),(3,op 1),(4,op 2)],hq [bP c 0 a,bP d 0 b,bN 0 [.bool false,.nsl,.nsl]]⟩
def Akz(F:KF R)(c a d b):Axv c a d b (Bo (Axu N F (pz 341) []))=(sI N (Ku F) c a d b):=by kernel_rfl
def Apc:=B4 N 154 (Apb N) Agn (fun
|[.pagg a c,.pagg b d],[]=>some fun _ k=>sJ N a c b d (Ku k)
| _,_=>none) fun _ _=>by split;intro R F;exact(Bs (Aky N (Ku F) · _ _ _ _) ((jW ..).trans (Akz ..)):_).trans (Atf ..).symm;trivial
def Xi(k0:Lu->Bool->Nat->LA->O R)(r0:LA->O R)(b c:Bool)(a:Nat)(d:LA)(f:Lu)(g:Int)(p:Bool)(o:Nat)(q:LA):O R:=(cond ((decide ((0:Int)<=(0:Int)))&&((decide (0<=g))&&((decide (g<=((f.length:Nat):Int)))&&(decide (((f.length:Nat):Int)<=((f.length:Nat):Int)))))) (GR N (take g.toNat f) fun v=>JX N [.bool p,.imm (q.take (o*1)) o 1 false true] true [.bool c,.imm (d.take (a*1)) a 1 false true] true fun w r x=>Jt N v fun y s z=>Ajk N [.bool w,.imm (x.take (r*1)) r 1 false true] true [.bool y,.imm (z.take (s*1)) s 1 false true] true fun aa ab ac=>cond ((decide (0<=g))&&((decide (g<=((f.length:Nat):Int)))&&((decide (((f.length:Nat):Int)<=((f.length:Nat):Int)))&&(decide (((f.length:Nat):Int)<=((f.length:Nat):Int)))))) (k0 (take (f.length - g.toNat) (drop g.toNat f)) aa ab ac) none) none)
def QQ(r0:LA->O R)(b c:Bool)(a:Nat)(d:LA)(k0:Lu->Bool->Nat->LA->O R)(q1:Lu->Int->Bool->Nat->LA->O R)(j:Lu)(l:Bool)(h:Nat)(m:LA):O R:=(cond (!(j==([]:Lu))) (cond ((Int.tmod ((j.length:Nat):Int) 9)==0) (q1 j 9 l h m) (q1 j (Int.tmod ((j.length:Nat):Int) 9) l h m)) (cond b (rS N [.bool l,.imm (m.take (h*1)) h 1 false true] true fun ad t ae=>r0 [.bool ad,.imm (ae.take (t*1)) t 1 false false]) (r0 [.bool l,.imm (m.take (h*1)) h 1 false false])))
def Lg(r0:LA->O R)(b c:Bool)(a:Nat)(d:LA):Nat->Lu->Bool->Nat->LA->O R
|0=>fun _ _ _ _=>none
|n+1=>QQ N r0 b c a d (Lg r0 b c a d n) (Xi N (Lg r0 b c a d n) r0 b c a d)
def XP(r0:LA->O R)(q0:Bool->Bool->Nat->LA->Lu->Bool->Nat->LA->O R)(i:Lu):O R:=(Gf N i ([45]:Lu) fun af b=>Jt N 0 fun ag ah ai=>Jt N 10 fun aj u ak=>fD N [.bool aj,.imm (ak.take (u*1)) u 1 false true] true 9 fun c a d=>q0 b c a d af ag ah ai)
def Zs:=(Ac fun N i r0=>XP (R:=R) N r0 (fun b c a d=>Lg N r0 b c a d N) i).1
def kC(i r0):(@Zs R N i r0)=(XP N r0 (fun b c a d=>Lg N r0 b c a d N) i):=by rw[Zs,(Ac _).2]
def pN:Hints:={H:=hK 4 (hS (hS (hP [0,2,3,4,5] (hK 1 (hS (hK 1 (hJ [0,2,3,4,5,6] hL hL)) hL))) hL) hL),modes:=[(3,0)]}
def uS:O6:=[Tg N,GM N,Atd N,Ann N,zM N,nK N,A0c N]
def pP(F:KF R):=Iq Tryz.f146 pN (uS N) [] N F
def Ak0(b c:Bool)(a:Nat)(d:LA)(K:St->O R):=fun f g p o q=>K ⟨[(0,.str f),(2,op 0),(3,.bool b),(4,op 1),(5,op 2),(6,iv g)],hq [bN 0 [.bool false,.nsl],bN 0 [.bool p,Bff 3 o],bN 0 [.bool c,Bff 4 a],bQ 1 q,bQ 1 d]⟩
def pQ(b c:Bool)(a:Nat)(d:LA)(K:St->O R):=fun j l h m=>K ⟨[(0,.str j),(2,op 0),(3,.bool b),(4,op 1),(5,op 2)],hq [bN 0 [.bool false,.nsl],bN 0 [.bool l,Bff 3 h],bN 0 [.bool c,Bff 4 a],bQ 1 m,bQ 1 d]⟩
def wb Q0 (F:KF R) (b c a d):Ak0 b c a d (Bo (pP N F (pz 5587013) [Q0]))=(Xi N (pQ b c a d Q0) (Ku F) b c a d):=by kernel_rfl
def wc(F:KF R)(b c a d):∀ n,pQ b c a d (Ak (pP N F (pz 5456) []) n)=(Lg N (Ku F) b c a d n):=Ds fun n e=>(Xs (QQ N (Ku F) b c a d) e ((jW ..).trans ((wb ..).trans (rB (Xi _ · _ _ _ _ _) e))):_)
def uT:=B4 N 146 (uS N) pN (fun
|[.str i],[]=>some fun _ k=>Zs N i (Ku k)
| _,_=>none) fun _ _=>by split;intro R F;exact(Bs (XP N (Ku F) · _) (Aip fun b c a d=>(lW ..).trans (wc ..)):_).trans (kC ..).symm;trivial
def XQ(a:Lu)(r0:LA->Int->O R):O R:=(Vz N a fun c=>cond (!c) (r0 [.bool false,.nsl] 2) (Zp N a fun d=>cond d (r0 [.bool false,.nsl] 8) (Zs N a fun b=>cond ((beq 0 0)&&((beq b.length 2)&&(beq 2 2))) (cond (ble 2 b.length) (r0 (b.take 2) 0) none) none)))
def OW:=(Ac (@XQ R)).1
def Z_:@OW R=@XQ R:=(Ac _).2
def Ae2:=B4 N 137 [jy N,pH N,uT N] { H:=hL,modes:=[(3,0),(0,0)] } (fun
|[.str a],[]=>some fun _ k=>OW N a (Kv k)
| _,_=>none) fun _ _=>by split;intro R F;dsimp only;rw[Z_];kernel_rfl;trivial
def ID(N:Nat)(r0:Int->Bool->O R)(g:LA)(f:Nat)(d:Bool)(c:LA)(k2:Int->Int->Int->O R)(j l h:Int):O R:=(cond (decide (h<l)) (cond (Ad h f) (As .u32 (g.drop (h.toNat*1)) fun o=>k2 (wrap .i64 o) l (wrap .i64 (h+1))) none) (RL c fun p=>cond p (r0 (wrap .i64 ((0:Int) - j)) true) (r0 j true)))
def Ro(r0:Int->Bool->O R)(g:LA)(f:Nat)(d:Bool)(c:LA):Nat->Int->Int->Int->O R
|0=>fun _ _ _=>none
|n+1=>ID N r0 g f d c (Ro r0 g f d c n)
def XR(N:Nat)(r0:Int->Bool->O R)(q2:LA->Nat->Bool->LA->Int->Int->Int->O R)(d:Bool)(c:LA):O R:=(Bh 1 (c.drop 1) fun g f=>q2 g f d c 0 (f:Int) 0)
def OX(r0:Int->Bool->O R)(d:Bool)(c:LA):O R:=XR N r0 (fun g f d c=>Ro N r0 g f d c N) d c
def XS(r0:Int->Bool->O R)(b:Bool)(a:LA)(q1:Bool->LA->O R):O R:=(cond (ble 3 a.length) (gr N (a.take 3) b fun m=>cond ((beq m.length 3)&&((ble 3 a.length)&&(!false))) (Bh 1 ((setCells a 0 m).drop 2) fun z q=>cond (((q:Int) != 1)==false) (Bh 1 ((setCells a 0 m).drop 2) fun r s=>cond (Ad 0 s) (As .u32 r fun t=>cond (cond false true (t != 1)) (r0 0 false) (q1 (b||false) (setCells a 0 m))) none) (r0 0 false)) none) none)
def OY(r0:Int->Bool->O R)(b:Bool)(a:LA):O R:=XS N r0 b a (OX N r0)
def gt(r0:Int->Bool->O R)(q0:O R)(a:LA)(b:Bool):O R:=(Y7 N 1073741824 fun i=>cond ((beq 0 0)&&((beq i.length 3)&&(beq 3 3))) (cond (ble 3 a.length) (cond (ble 3 i.length) (Zb N (a.take 3) b (i.take 3) false fun u=>cond ((decide (u>0))==false) (cond (ble 3 a.length) (cond (ble 3 i.length) (Akw N (i.take 3) false fun v=>Zb N (a.take 3) b v false fun w=>cond (cond false true (decide (w<0))) (r0 0 false) q0) none) none) (r0 0 false)) none) none) none)
def LD:=(Ac fun N a b r0=>gt (R:=R) N r0 (OY N r0 b a) a b).1
def pR(a b r0):(@LD R N a b r0)=(gt N r0 (OY N r0 b a) a b):=by rw[LD,(Ac _).2]
def uU:Hints:={H:=hK 2 (hJ [1] hL (hK 1 (hJ [1] hL (hK 1 (hS (hK 1 (hS (hP [1,5,35,36,37] hL) hL)) hL)))))}
def Abl:O6:=[WI N,Ajp N,A0g N,sH N]
def fG(F:KF R):=Iq Tryz.f138 uU (Abl N) [] N F
def M1(F:KF R):Int->Bool->O R:=fun x y=>F (.tup [iv x,.bool y]) []
def Apd(g:LA)(f:Nat)(d:Bool)(c:LA)(K:St->O R):=fun j l h=>K ⟨[(1,op 0),(5,iv j),(35,.imm g f 1 false d),(36,iv l),(37,iv h)],hq [bP d 0 c]⟩
def Ape(K:St->O R):=fun d c=>K ⟨[(1,op 0)],hq [bP d 0 c]⟩
def Apf(b:Bool)(a:LA)(K:St->O R):=K ⟨[(1,op 0)],hq [bP b 0 a]⟩
def Abm(F:KF R)(g f d c):∀ n,Apd g f d c (Ak (fG N F (pz 349508) []) n)=(Ro N (M1 F) g f d c n):=Ds fun n e=>(Bs (ID N (M1 F) g f d c) e:_)
def Abn(F:KF R):Ape (Bo (fG N F (pz 1365) []))=(OX N (M1 F)):=(Bs (XR N (M1 F)) (Aip fun g f d c=>(lW ..).trans (Abm ..)):_)
def Abo(F:KF R)(b a):Apf b a (Bo (fG N F (pz 85) []))=(OY N (M1 F) b a):=(Bs (XS N (M1 F) b a) ((jW ..).trans (Abn ..)):_)
def Abp:=B4 N 138 (Abl N) uU (fun
|[.pagg a b],[]=>some fun _ k=>LD N a b (M1 k)
| _,_=>none) fun _ _=>by split;intro R F;exact(Bs (gt N (M1 F) · _ _) ((jW ..).trans (Abo ..)):_).trans (pR ..).symm;trivial
def Abq(b:Lu)(r0:Int->Bool->Int->O R):O R:=(OW N b fun a c=>cond ((beq 0 0)&&((beq a.length 2)&&(beq 2 2))) (cond (c==0) (cond (ble 2 a.length) (cond ((beq ((a.take 2).length) 2)&&(ble 2 3)) (cond ((beq 1 1)&&(ble 3 ((setCells [.bool false,.nsl,.nsl] 0 (a.take 2)).length))) (LD N ((setCells [.bool false,.nsl,.nsl] 0 (a.take 2)).set 2 (.imm [.int .u32 1] 1 1 false false)) false fun d e=>r0 d e 0) none) none) none) (cond (c==2) (r0 0 false c) (r0 0 false 0))) none)
def OZ:=(Ac (@Abq R)).1
def uV:@OZ R=@Abq R:=(Ac _).2
def Atg(F:KF R):Int->Bool->Int->O R:=fun f g h=>F (.tup [iv f,.bool g,iv h]) []
def Ago:=B4 N 118 [Ae2 N,Abp N] { H:=hL,cob:=[4000020] } (fun
|[.str b],[]=>some fun _ k=>OZ N b (Atg k)
| _,_=>none) fun _ _=>by split;intro R F;dsimp only;rw[uV];kernel_rfl;trivial
def Zt(c d:Int)(s:RB)(r0:Int->Int->Int->O R):O R:=(B6 N s fun g h a b=>cond (!h) (r0 0 a b) (OZ N g fun e i f=>cond (f != 0) (Ap N f {s with nx:=a,er:=b} (fun j=>r0 0 a j)) (cond ((!i)==false) (cond ((cond false true (decide (e<c)))==false) (cond (cond false true (decide (e>d))) (Ap N 3 {s with nx:=a,er:=b} (fun l=>r0 0 a l)) (r0 e a b)) (Ap N 3 {s with nx:=a,er:=b} (fun m=>r0 0 a m))) (Ap N 3 {s with nx:=a,er:=b} (fun n=>r0 0 a n)))))
def O3:=(Ac (@Zt R)).1
def FN:@O3 R=@Zt R:=(Ac _).2
def O_:=B4 N 90 [B7 N,Ago N,Bq N] Bt (VJ fun
|[.optr 100000 0,.int .i64 c,.int .i64 d],s=>some fun _ k=>O3 N c d s (kp s k)
| _,_=>none) (aI fun _ s=>by split;intro R F;dsimp only;rw[FN];kernel_rfl;trivial)
def EN(b:Lu)(s:RB)(r0:Int->Int->O R):O R:=(B6 N s fun d e a c=>cond (e==true) (cond (cond true (!(d==b)) false) (Ap N 2 {s with nx:=a,er:=c} (fun f=>r0 a f)) (r0 a c)) (r0 a c))
def Am:=(Ac (@EN R)).1
def LF:@Am R=@EN R:=(Ac _).2
def pV(s:RB)(F:KF R):Int->Int->O R:=fun g h=>F (.tup []) [(100000,bN 0 [.own 100001 0 s.nw,iv g,iv h,iv s.th,.own 100002 0 s.nR,.own 100003 0 s.nB,.own 100004 0 s.nL,.own 100005 0 s.nU,.own 100006 0 s.nS,.own 100007 0 s.nT,.own 100008 0 s.nO,.bool s.bg,.own 100009 0 s.zA,.own 100010 0 s.zB,.own 100011 0 s.zC,.own 100012 0 s.zD,.own 100013 0 s.zE,.own 100014 0 s.zF,.own 100015 0 s.zG]),(100001,bQ 1 s.cw),(100002,bQ 1 s.cR),(100003,bQ 3 s.cB),(100004,bQ 12 s.cL),(100005,bQ 22 s.cU),(100006,bQ 9 s.cS),(100007,bQ 5 s.cT),(100008,bQ 4 s.cO),(100009,bQ 1 s.yA),(100010,bQ 1 s.yB),(100011,bQ 1 s.yC),(100012,bQ 1 s.yD),(100013,bQ 1 s.yE),(100014,bQ 1 s.yF),(100015,bQ 1 s.yG)]
def Hi:=B4 N 91 [B7 N,Bq N] Bt (VJ fun
|[.optr 100000 0,.str b],s=>some fun _ k=>Am N b s (pV s k)
| _,_=>none) (aI fun _ s=>by split;intro R F;dsimp only;rw[LF];kernel_rfl;trivial)
def QR(N:Nat)(r0:Int->O R)(a:Lu)(k1:Int->O R)(c:Int):O R:=(cond ((decide (c>0))==true) (cond (Ad (wrap .i64 (c - 1)) a.length) (cond (cond true (((UInt8.toNat (List.getD a ((wrap .i64 (c - 1)).toNat) 0):Nat):Int)==47) false) (k1 (wrap .i64 (c - 1))) (r0 c)) none) (r0 c))
def Ss(r0:Int->O R)(a:Lu):Nat->Int->O R
|0=>fun _=>none
|n+1=>QR N r0 a (Ss r0 a n)
def BQ(N:Nat)(r0:Int->O R)(a:Lu)(k0:Int->O R)(q1:Int->O R)(b:Int):O R:=(cond ((decide (b<((a.length:Nat):Int)))==true) (cond (Ad b a.length) (cond ((decide (((UInt8.toNat (List.getD a b.toNat 0):Nat):Int)>=48))==true) (cond (Ad b a.length) (cond ((cond true (decide (((UInt8.toNat (List.getD a b.toNat 0):Nat):Int)<=57)) false)==false) (cond (Ad b a.length) (cond ((cond false true (((UInt8.toNat (List.getD a b.toNat 0):Nat):Int)==45))==false) (cond (Ad b a.length) (cond ((cond false true (((UInt8.toNat (List.getD a b.toNat 0):Nat):Int)==46))==false) (cond (Ad b a.length) (cond (cond true (cond false true (((UInt8.toNat (List.getD a b.toNat 0):Nat):Int)==47)) false) (k0 (wrap .i64 (b+1))) (q1 b)) none) (k0 (wrap .i64 (b+1)))) none) (k0 (wrap .i64 (b+1)))) none) (k0 (wrap .i64 (b+1)))) none) (cond (Ad b a.length) (cond ((cond false true (((UInt8.toNat (List.getD a b.toNat 0):Nat):Int)==45))==false) (cond (Ad b a.length) (cond ((cond false true (((UInt8.toNat (List.getD a b.toNat 0):Nat):Int)==46))==false) (cond (Ad b a.length) (cond (cond true (cond false true (((UInt8.toNat (List.getD a b.toNat 0):Nat):Int)==47)) false) (k0 (wrap .i64 (b+1))) (q1 b)) none) (k0 (wrap .i64 (b+1)))) none) (k0 (wrap .i64 (b+1)))) none)) none) (q1 b))
def Hy(r0:Int->O R)(a:Lu):Nat->Int->O R
|0=>fun _=>none
|n+1=>BQ N r0 a (Hy r0 a n) (Ss N r0 a N)
def XT(N:Nat)(r0:Int->O R)(q0:Int->O R)(a:Lu):O R:=(q0 0)
def TM:=(Ac fun N a r0=>XT (R:=R) N r0 (Hy N r0 a N) a).1
def kD(a r0):(@TM R N a r0)=(XT N r0 (Hy N r0 a N) a):=by rw[TM,(Ac _).2]
def pW:Hints:={H:=hK 2 (hS (hS (hP [0,3] hL) hL) (hS (hS (hP [0,3] hL) hL) hL))}
def pX(F:KF R):=Iq Tryz.f151 pW [] [] N F
def Ak1(a:Lu)(K:St->O R):=fun c=>K ⟨[(0,.str a),(3,iv c)],[]⟩
def Ak2(a:Lu)(K:St->O R):=fun b=>K ⟨[(0,.str a),(3,iv b)],[]⟩
def wd(F:KF R)a:∀ n,Ak1 a (Ak (pX N F (pz 1360) []) n)=(Ss N (B8 F) a n):=Ds fun n e=>(Bs (QR N (B8 F) a) e:_)
def wg(F:KF R)a:∀ n,Ak2 a (Ak (pX N F (pz 336) []) n)=(Hy N (B8 F) a n):=Ds fun n e=>(Xs (BQ N (B8 F) a) e ((lW ..).trans (wd ..)):_)
def Apg:=B4 N 151 [] pW (fun
|[.str a],[]=>some fun _ k=>TM N a (B8 k)
| _,_=>none) fun _ _=>by split;intro R F;exact(Bs (XT N (B8 F) · _) ((lW ..).trans (wg ..)):_).trans (kD ..).symm;trivial
def fH(r0:Lu->Lu->Bool->O R)(d:Bool)(c a b:Lu):O R:=(cond (ble (c.length+a.length) 140737488355328) (cond d (cond (ble (1+(List.length (c++a))) 140737488355328) (strings_Repeat N ([48]:Lu) ((a.length:Nat):Int) fun g=>cond (ble (1+g.length) 140737488355328) (r0 (([45]:Lu)++(c++a)) (([49]:Lu)++g) true) none) none) (strings_Repeat N ([48]:Lu) ((a.length:Nat):Int) fun h=>cond (ble (1+h.length) 140737488355328) (r0 (c++a) (([49]:Lu)++h) true) none)) none)
def gv(r0:Lu->Lu->Bool->O R)(q0:Bool->Lu->Lu->O R)(b:Lu):O R:=(Vz N b fun i=>cond i (r0 b ([49]:Lu) true) (strings_Cut N b ([47]:Lu) fun e f j=>cond j (Vz N e fun l=>cond (l==true) (Zo N f fun m=>r0 e f (cond true m false)) (r0 e f false)) (Gf N b ([45]:Lu) fun n d=>strings_Cut N n ([46]:Lu) fun c a t=>Zo N c fun o=>cond ((!o)==false) (Vy N a fun p=>cond (cond false true (!p)) (r0 ([]:Lu) ([]:Lu) false) (q0 d c a)) (r0 ([]:Lu) ([]:Lu) false))))
def fI:=(Ac fun N b r0=>gv (R:=R) N r0 (fun d c a=>fH N r0 d c a b) b).1
def pY(b r0):(@fI R N b r0)=(gv N r0 (fun d c a=>fH N r0 d c a b) b):=by rw[fI,(Ac _).2]
def uW:Hints:={H:=hK 5 (hJ [6,7,8] hL hL)}
def Abr:O6:=[jy N,P' N,pG N,Tg N,jx N,r6 N]
def Aph(F:KF R):=Iq Tryz.f175 uW (Abr N) [] N F
def fJ(F:KF R):Lu->Lu->Bool->O R:=fun q r s=>F (.tup [.str q,.str r,.bool s]) []
def Api(d:Bool)(c a b:Lu)(K:St->O R):=K ⟨[(6,.bool d),(7,.str c),(8,.str a)],[]⟩
def Abs(F:KF R)(d c a b):Api d c a b (Bo (Aph N F (pz 5461) []))=(fH N (fJ F) d c a b):=by kernel_rfl
def Ath:=B4 N 175 (Abr N) uW (fun
|[.str b],[]=>some fun _ k=>fI N b (fJ k)
| _,_=>none) fun _ _=>by split;intro R F;exact(Bs (gv N (fJ F) · _) (A2b fun d c a=>(jW ..).trans (Abs ..)):_).trans (pY ..).symm;trivial
def XU(b:Lu)(r0:LA->Int->O R):O R:=(fI N b fun c d e=>cond (!e) (r0 [.bool false,.nsl,.nsl] 2) (Zp N b fun f=>cond f (r0 [.bool false,.nsl,.nsl] 8) (Zs N c fun g=>Zs N d fun h=>Abj N g false h false fun a i=>cond ((beq 0 0)&&((beq a.length 3)&&(beq 3 3))) (cond (!i) (r0 [.bool false,.nsl,.nsl] 5) (cond (ble 3 a.length) (cond ((beq 0 0)&&((beq ((a.take 3).length) 3)&&(beq 3 3))) (cond (ble 3 ((a.take 3).length)) (r0 ((a.take 3).take 3) 0) none) none) none)) none)))
def O':=(Ac (@XU R)).1
def Z':@O' R=@XU R:=(Ac _).2
def Ae3:=B4 N 152 [Ath N,pH N,uT N,Apa N] { H:=hL,modes:=[(3,0),(0,0)] } (fun
|[.str b],[]=>some fun _ k=>O' N b (Kv k)
| _,_=>none) fun _ _=>by split;intro R F;dsimp only;rw[Z'];kernel_rfl;trivial
def uX(N:Nat)(k0:Nat->Int->Bool->Bool->Int->LA->O R)(r0:Nat->Int->LA->O R)(a:Lu)(b:Int)(w:Nat)(x:Bool)(y:LA):O R:=(cond ((decide (b<((a.length:Nat):Int)))==true) (cond (Ad b a.length) (k0 w (wrap .i64 (b+1)) (cond true (((UInt8.toNat (List.getD a b.toNat 0):Nat):Int)==47) false) x (wrap .i64 (b+1)) y) none) (k0 w (wrap .i64 (b+1)) false x (wrap .i64 (b+1)) y))
def pZ(N:Nat)(k0:Nat->Int->Bool->Bool->Int->LA->O R)(r0:Nat->Int->LA->O R)(a:Lu)(b:Int)(q3:Nat->Bool->LA->O R)(d:Nat)(f:Int)(r s:Bool)(m:LA):O R:=(cond (b==f) (r0 0 2 []) (cond (decide ((d:Int)<8)) (cond ((decide (0<=f))&&((decide (f<=b))&&((decide (b<=((a.length:Nat):Int)))&&(decide (((a.length:Nat):Int)<=((a.length:Nat):Int)))))) (cond ((ble (d+1) 140737488355328)&&(ble ((d+1)*24) 140737488355328)) (q3 (d+1) s ((m.take (d*2))++[.str (take (b.toNat - f.toNat) (drop f.toNat a)),.bool r])) none) none) (q3 d true m)))
def uY(k0:Nat->Int->Bool->Bool->Int->LA->O R)(r0:Nat->Int->LA->O R)(a:Lu)(b:Int)(d:Nat)(f:Int)(r s:Bool)(m:LA):O R:=pZ N k0 r0 a b (uX N k0 r0 a b) d f r s m
def p8(N:Nat)(k0:Nat->Int->Bool->Bool->Int->LA->O R)(r0:Nat->Int->LA->O R)(a:Lu)(q2:Int->Nat->Int->Bool->Bool->LA->O R)(g:Nat)(h:Int)(i j:Bool)(b:Int)(t:Bool)(l:LA):O R:=(cond t (cond (Ad b a.length) (cond ((((UInt8.toNat (List.getD a b.toNat 0):Nat):Int) != 37)==true) (cond ((decide (((UInt8.toNat (List.getD a b.toNat 0):Nat):Int)<97))==false) (cond ((cond true (cond false true (decide (((UInt8.toNat (List.getD a b.toNat 0):Nat):Int)>122))) false)==true) (cond ((decide (((UInt8.toNat (List.getD a b.toNat 0):Nat):Int)<65))==false) (cond (cond true (cond false true (decide (((UInt8.toNat (List.getD a b.toNat 0):Nat):Int)>90))) false) (r0 0 2 []) (k0 g h i j (wrap .i64 (b+1)) l)) (r0 0 2 [])) (k0 g h i j (wrap .i64 (b+1)) l)) (cond ((decide (((UInt8.toNat (List.getD a b.toNat 0):Nat):Int)<65))==false) (cond (cond true (cond false true (decide (((UInt8.toNat (List.getD a b.toNat 0):Nat):Int)>90))) false) (r0 0 2 []) (k0 g h i j (wrap .i64 (b+1)) l)) (r0 0 2 []))) (k0 g h i j (wrap .i64 (b+1)) l)) none) (q2 b g h i j l))
def fK(k0:Nat->Int->Bool->Bool->Int->LA->O R)(r0:Nat->Int->LA->O R)(a:Lu)(g:Nat)(h:Int)(i j:Bool)(b:Int)(t:Bool)(l:LA):O R:=p8 N k0 r0 a (fun b=>uY N k0 r0 a b) g h i j b t l
def p9(N:Nat)(r0:Nat->Int->LA->O R)(a:Lu)(k0:Nat->Int->Bool->Bool->Int->LA->O R)(q1:Nat->Int->Bool->Bool->Int->Bool->LA->O R)(o:Nat)(u:Int)(v p:Bool)(c:Int)(q:LA):O R:=(cond (decide (c<=((a.length:Nat):Int))) (cond ((decide (c<((a.length:Nat):Int)))==true) (cond (Ad c a.length) (cond ((cond true (((UInt8.toNat (List.getD a c.toNat 0):Nat):Int) != 42) false)==true) (cond (Ad c a.length) (q1 o u v p c (cond true (((UInt8.toNat (List.getD a c.toNat 0):Nat):Int) != 47) false) q) none) (q1 o u v p c false q)) none) (q1 o u v p c false q)) (cond p (r0 0 8 []) (r0 o 0 q)))
def DD(r0:Nat->Int->LA->O R)(a:Lu):Nat->Nat->Int->Bool->Bool->Int->LA->O R
|0=>fun _ _ _ _ _ _=>none
|n+1=>p9 N r0 a (DD r0 a n) (fK N (DD r0 a n) r0 a)
def sK(N:Nat)(r0:Nat->Int->LA->O R)(q0:Nat->Int->Bool->Bool->Int->LA->O R)(a:Lu):O R:=(q0 0 0 false false 0 [])
def p_:=(Ac fun N a r0=>sK (R:=R) N r0 (DD N r0 a N) a).1
def Ak3(a r0):(@p_ R N a r0)=(sK N r0 (DD N r0 a N) a):=by rw[p_,(Ac _).2]
def uZ:Hints:={H:=hK 3 (hS (hK 1 (hS (hP [0,4,5,6,7,8] (hK 1 (hS (hS (hJ [0,4,5,6,7,8] (hJ [0,4,5,6,7,8,31] hL hL) (hK 1 (hJ [0,4,7,8] hL hL))) hL) hL))) hL)) hL),nils:=[(2,2),(4,2)],modes:=[(2,2),(0,0)]}
def PA(F:KF R):=Iq Tryz.f177 uZ [] [] N F
def Lh(F:KF R):Nat->Int->LA->O R:=fun z aa ab=>F (.tup [Bff 0 z,iv aa]) (hq [bQ 2 ab])
def Apj(a:Lu)(b:Int)(K:St->O R):=fun w x y=>K ⟨[(0,.str a),(4,Bff 0 w),(7,.bool x),(8,iv b)],hq [bQ 2 y]⟩
def Apk(a:Lu)(b:Int)(K:St->O R):=fun d f r s m=>K ⟨[(0,.str a),(4,Bff 0 d),(5,iv f),(6,.bool r),(7,.bool s),(8,iv b)],hq [bQ 2 m]⟩
def Apl(a:Lu)(K:St->O R):=fun g h i j b t l=>K ⟨[(0,.str a),(4,Bff 0 g),(5,iv h),(6,.bool i),(7,.bool j),(8,iv b),(31,.bool t)],hq [bQ 2 l]⟩
def V0(a:Lu)(K:St->O R):=fun o u v p c q=>K ⟨[(0,.str a),(4,Bff 0 o),(5,iv u),(6,.bool v),(7,.bool p),(8,iv c)],hq [bQ 2 q]⟩
def Abt Q0 (F:KF R) (a b):Apj a b (Bo (PA N F (pz 89195541) [Q0]))=(uX N (V0 a Q0) (Lh F) a b):=by kernel_rfl
def Abu Q0 (F:KF R) (a b):Apk a b (Bo (PA N F (pz 5574721) [Q0]))=(uY N (V0 a Q0) (Lh F) a b):=(Bs (pZ N (V0 a Q0) (Lh F) a b) ((jW ..).trans (Abt ..)):_)
def Abv Q0 (F:KF R) a:Apl a (Bo (PA N F (pz 22298881) [Q0]))=(fK N (V0 a Q0) (Lh F) a):=(Bs (p8 N (V0 a Q0) (Lh F) a) (qY fun b=>(jW ..).trans (Abu ..)):_)
def Abw(F:KF R)a:∀ n,V0 a (Ak (PA N F (pz 5444) []) n)=(DD N (Lh F) a n):=Ds fun n e=>(Xs (p9 N (Lh F) a) e ((jW ..).trans ((Abv ..).trans (rB (fK _ · _ _) e))):_)
def Ati:=B4 N 177 [] uZ (fun
|[.str a],[]=>some fun _ k=>p_ N a (Lh k)
| _,_=>none) fun _ _=>by split;intro R F;exact(Bs (sK N (Lh F) · _) ((lW ..).trans (Abw ..)):_).trans (Ak3 ..).symm;trivial
def Abx(N:Nat)(a:Lu)(r0:LA->LA->Bool->O R):O R:=(cond (a==([107,87]:Lu)) (r0 [.int .i64 1,.int .i64 1000] [.int .i64 1,Bfg,Bfg,Bfg] true) (cond (a==([77,87]:Lu)) (r0 [.int .i64 1,.int .i64 1] [.int .i64 1,Bfg,Bfg,Bfg] true) (cond (a==([71,87]:Lu)) (r0 [.int .i64 1000,.int .i64 1] [.int .i64 1,Bfg,Bfg,Bfg] true) (cond (a==([109,105,110]:Lu)) (r0 [.int .i64 1,.int .i64 60] [Bfg,.int .i64 1,Bfg,Bfg] true) (cond (a==([104]:Lu)) (r0 [.int .i64 1,.int .i64 1] [Bfg,.int .i64 1,Bfg,Bfg] true) (cond (a==([100]:Lu)) (r0 [.int .i64 24,.int .i64 1] [Bfg,.int .i64 1,Bfg,Bfg] true) (cond (a==([107,87,104]:Lu)) (r0 [.int .i64 1,.int .i64 1000] [.int .i64 1,.int .i64 1,Bfg,Bfg] true) (cond (a==([77,87,104]:Lu)) (r0 [.int .i64 1,.int .i64 1] [.int .i64 1,.int .i64 1,Bfg,Bfg] true) (cond (a==([71,87,104]:Lu)) (r0 [.int .i64 1000,.int .i64 1] [.int .i64 1,.int .i64 1,Bfg,Bfg] true) (cond (a==([99,116]:Lu)) (r0 [.int .i64 1,.int .i64 100] [Bfg,Bfg,.int .i64 1,Bfg] true) (cond (a==([69,85,82]:Lu)) (r0 [.int .i64 1,.int .i64 1] [Bfg,Bfg,.int .i64 1,Bfg] true) (cond (a==([107,69,85,82]:Lu)) (r0 [.int .i64 1000,.int .i64 1] [Bfg,Bfg,.int .i64 1,Bfg] true) (cond (a==([109,114,97,100]:Lu)) (r0 [.int .i64 1,.int .i64 1000] [Bfg,Bfg,Bfg,.int .i64 1] true) (cond (a==([114,97,100]:Lu)) (r0 [.int .i64 1,.int .i64 1] [Bfg,Bfg,Bfg,.int .i64 1] true) (cond (a==([37]:Lu)) (r0 [.int .i64 1,.int .i64 100] [Bfg,Bfg,Bfg,Bfg] true) (cond (a==([112,117]:Lu)) (r0 [.int .i64 1,.int .i64 1] [Bfg,Bfg,Bfg,Bfg] true) (r0 [Bfg,Bfg] [Bfg,Bfg,Bfg,Bfg] false)))))))))))))))))
def sL:=(Ac (@Abx R)).1
def Ae4:@sL R=@Abx R:=(Ac _).2
def Ak4(F:KF R):LA->LA->Bool->O R:=fun b c d=>F (.tup [.pagg b false,.pagg c false,.bool d]) []
def Apm:=B4 N 178 [] { H:=hL,modes:=[(3,0),(3,0),(0,0)] } (fun
|[.str a],[]=>some fun _ k=>sL N a (Ak4 k)
| _,_=>none) fun _ _=>by split;intro R F;dsimp only;rw[Ae4];kernel_rfl;trivial
def Avd(N:Nat)(a:LA)(c:Bool)(b:LA)(d:Bool)(r0:LA->O R):O R:=(As .i64 a fun e=>As .i64 b fun f=>As .i64 (a.drop 1) fun g=>As .i64 (b.drop 1) fun h=>As .i64 (a.drop 2) fun i=>As .i64 (b.drop 2) fun j=>As .i64 (a.drop 3) fun l=>As .i64 (b.drop 3) fun m=>r0 [.int .i64 (wrap .i64 (e - f)),.int .i64 (wrap .i64 (g - h)),.int .i64 (wrap .i64 (i - j)),.int .i64 (wrap .i64 (l - m))])
def Atj:=(Ac (@Avd R)).1
def Atk:@Atj R=@Avd R:=(Ac _).2
def A0h:=B4 N 179 [] Am8 (fun
|[.pagg a c,.pagg b d],[]=>some fun _ k=>Atj N a c b d (Ku k)
| _,_=>none) fun _ _=>by split;intro R F;dsimp only;rw[Atk];kernel_rfl;trivial
def Ave(N:Nat)(a:LA)(c:Bool)(b:LA)(d:Bool)(r0:LA->O R):O R:=(As .i64 a fun e=>As .i64 b fun f=>As .i64 (a.drop 1) fun g=>As .i64 (b.drop 1) fun h=>As .i64 (a.drop 2) fun i=>As .i64 (b.drop 2) fun j=>As .i64 (a.drop 3) fun l=>As .i64 (b.drop 3) fun m=>r0 [.int .i64 (wrap .i64 (e+f)),.int .i64 (wrap .i64 (g+h)),.int .i64 (wrap .i64 (i+j)),.int .i64 (wrap .i64 (l+m))])
def Atl:=(Ac (@Ave R)).1
def Atm:@Atl R=@Ave R:=(Ac _).2
def A0i:=B4 N 180 [] Am8 (fun
|[.pagg a c,.pagg b d],[]=>some fun _ k=>Atl N a c b d (Ku k)
| _,_=>none) fun _ _=>by split;intro R F;dsimp only;rw[Atm];kernel_rfl;trivial
def u4(r0:LA->LA->Int->O R)(b:Nat)(a:LA)(k0:Int->Int->LA->LA->O R)(i f:Int)(c d:LA):O R:=(cond (decide (f<i)) (cond (Ad f b) (cond (ble 2 ((a.drop (0+(f.toNat*2))).length)) (cond ((beq 0 0)&&((beq (((a.drop (0+(f.toNat*2))).take 2).length) 2)&&(beq 2 2))) (Km ((a.drop (0+(f.toNat*2))).take 2) fun u=>sL N u fun g j v=>cond ((beq g.length 2)&&((ble 2 2)&&(!false))) (cond ((beq j.length 4)&&((ble 4 4)&&(!false))) (cond (!v) (r0 [.bool false,.nsl,.nsl] [Bfg,Bfg,Bfg,Bfg] 12) (RL (((a.drop (0+(f.toNat*2))).take 2).drop 1) fun w=>cond w (As .i64 ((setCells [Bfg,Bfg] 0 g).drop 1) fun l=>As .i64 (setCells [Bfg,Bfg] 0 g) fun m=>cond ((beq 1 1)&&((ble 1 ((setCells [Bfg,Bfg] 0 g).length))&&(!false))) (cond ((beq 1 1)&&((ble 2 (((setCells [Bfg,Bfg] 0 g).set 0 (.int .i64 l)).length))&&(!false))) (cond (ble 4 d.length) (cond (ble 4 ((setCells [Bfg,Bfg,Bfg,Bfg] 0 j).length)) (Atj N (d.take 4) false ((setCells [Bfg,Bfg,Bfg,Bfg] 0 j).take 4) false fun o=>cond ((beq o.length 4)&&((ble 4 d.length)&&(!false))) (cond (ble 3 c.length) (cond (ble 2 ((((setCells [Bfg,Bfg] 0 g).set 0 (.int .i64 l)).set 1 (.int .i64 m)).length)) (OV N ((((setCells [Bfg,Bfg] 0 g).set 0 (.int .i64 l)).set 1 (.int .i64 m)).take 2) false fun x=>sJ N (c.take 3) false x false fun p=>cond ((beq p.length 3)&&((ble 3 c.length)&&(!false))) (k0 i (wrap .i64 (f+1)) (setCells c 0 p) (setCells d 0 o)) none) none) none) none) none) none) none) none) (cond (ble 4 d.length) (cond (ble 4 ((setCells [Bfg,Bfg,Bfg,Bfg] 0 j).length)) (Atl N (d.take 4) false ((setCells [Bfg,Bfg,Bfg,Bfg] 0 j).take 4) false fun q=>cond ((beq q.length 4)&&((ble 4 d.length)&&(!false))) (cond (ble 3 c.length) (cond (ble 2 ((setCells [Bfg,Bfg] 0 g).length)) (OV N ((setCells [Bfg,Bfg] 0 g).take 2) false fun y=>sJ N (c.take 3) false y false fun r=>cond ((beq r.length 3)&&((ble 3 c.length)&&(!false))) (k0 i (wrap .i64 (f+1)) (setCells c 0 r) (setCells d 0 q)) none) none) none) none) none) none))) none) none) none) none) none) (cond (ble 3 c.length) (cond (ble 4 d.length) (cond ((beq 0 0)&&((beq ((c.take 3).length) 3)&&(beq 3 3))) (cond ((beq ((d.take 4).length) 4)&&((ble 4 4)&&(!false))) (cond (ble 3 ((c.take 3).length)) (cond (ble 4 ((setCells [Bfg,Bfg,Bfg,Bfg] 0 (d.take 4)).length)) (r0 ((c.take 3).take 3) ((setCells [Bfg,Bfg,Bfg,Bfg] 0 (d.take 4)).take 4) 0) none) none) none) none) none) none))
def XV(r0:LA->LA->Int->O R)(b:Nat)(a:LA):Nat->Int->Int->LA->LA->O R
|0=>fun _ _ _ _=>none
|n+1=>u4 N r0 b a (XV r0 b a n)
def Aby(r0:LA->LA->Int->O R)(q0:Nat->LA->Int->Int->LA->LA->O R)(h:Lu):O R:=(p_ N h fun b s a=>cond (s != 0) (r0 [.bool false,.nsl,.nsl] [Bfg,Bfg,Bfg,Bfg] s) (Y7 N 1 fun t=>cond ((beq 0 0)&&((beq t.length 3)&&(beq 3 3))) (q0 b a (b:Int) 0 t [Bfg,Bfg,Bfg,Bfg]) none))
def xE:=(Ac fun N h r0=>Aby (R:=R) N r0 (fun b a=>XV N r0 b a N) h).1
def Apn(h r0):(@xE R N h r0)=(Aby N r0 (fun b a=>XV N r0 b a N) h):=by rw[xE,(Ac _).2]
def Abz:Hints:={H:=hK 4 (hS (hK 1 (hS (hP [2,3,7,8,26,27,28] hL) hL)) hL),modes:=[(3,0),(3,0),(0,0)]}
def Agp:O6:=[Ati N,WI N,Apm N,A0h N,Ae1 N,Apc N,A0i N]
def Atn(F:KF R):=Iq Tryz.f153 Abz (Agp N) [] N F
def Ato(b:Nat)(a:LA)(K:St->O R):=fun i f c d=>K ⟨[(2,op 0),(3,op 1),(7,op 2),(8,op 3),(26,Bff 4 b),(27,iv i),(28,iv f)],hq [bN 0 [.bool false,.nsl,.nsl],bQ 0 [iv 0,iv 0,iv 0,iv 0],bQ 0 c,bQ 0 d,bQ 2 a]⟩
def Ae5(F:KF R)(b a):∀ n,Ato b a (Ak (Atn N F (pz 21828) []) n)=(XV N (yQ F) b a n):=Ds fun n e=>(Bs (u4 N (yQ F) b a) e:_)
def Axw:=B4 N 153 (Agp N) Abz (fun
|[.str h],[]=>some fun _ k=>xE N h (yQ k)
| _,_=>none) fun _ _=>by split;intro R F;exact(Bs (Aby N (yQ F) · _) (MR fun b a=>(lW ..).trans (Ae5 ..)):_).trans (Apn ..).symm;trivial
def fL(r0:LA->LA->Int->O R)(c:LA)(e:Lu):O R:=(xE N e fun f d h=>cond ((beq 0 0)&&((beq f.length 3)&&(beq 3 3))) (cond ((beq d.length 4)&&((ble 4 4)&&(!false))) (cond (h != 0) (r0 [.bool false,.nsl,.nsl] [Bfg,Bfg,Bfg,Bfg] h) (cond (ble 3 c.length) (cond (ble 3 f.length) (sJ N (c.take 3) false (f.take 3) false fun g=>cond (ble 4 ((setCells [Bfg,Bfg,Bfg,Bfg] 0 d).length)) (cond ((beq 0 0)&&((beq g.length 3)&&(beq 3 3))) (cond ((beq (((setCells [Bfg,Bfg,Bfg,Bfg] 0 d).take 4).length) 4)&&((ble 4 4)&&(!false))) (cond (ble 3 g.length) (cond (ble 4 ((setCells [Bfg,Bfg,Bfg,Bfg] 0 ((setCells [Bfg,Bfg,Bfg,Bfg] 0 d).take 4)).length)) (r0 (g.take 3) ((setCells [Bfg,Bfg,Bfg,Bfg] 0 ((setCells [Bfg,Bfg,Bfg,Bfg] 0 d).take 4)).take 4) 0) none) none) none) none) none) none) none)) none) none)
def gw(r0:LA->LA->Int->O R)(q0:LA->Lu->O R)(a:Lu):O R:=(TM N a fun b=>cond ((decide ((0:Int)<=(0:Int)))&&((decide (0<=b))&&((decide (b<=((a.length:Nat):Int)))&&(decide (((a.length:Nat):Int)<=((a.length:Nat):Int)))))) (O' N (take b.toNat a) fun c i=>cond ((beq 0 0)&&((beq c.length 3)&&(beq 3 3))) (cond (i != 0) (r0 [.bool false,.nsl,.nsl] [Bfg,Bfg,Bfg,Bfg] i) (cond ((decide (0<=b))&&((decide (b<=((a.length:Nat):Int)))&&((decide (((a.length:Nat):Int)<=((a.length:Nat):Int)))&&(decide (((a.length:Nat):Int)<=((a.length:Nat):Int)))))) (cond ((take (a.length - b.toNat) (drop b.toNat a))==([]:Lu)) (cond (ble 3 c.length) (cond ((beq 0 0)&&((beq ((c.take 3).length) 3)&&(beq 3 3))) (cond (ble 3 ((c.take 3).length)) (r0 ((c.take 3).take 3) [Bfg,Bfg,Bfg,Bfg] 0) none) none) none) (cond ((take (a.length - b.toNat) (drop b.toNat a))==([32]:Lu)) (r0 [.bool false,.nsl,.nsl] [Bfg,Bfg,Bfg,Bfg] 2) (cond (Ad 0 (List.length (take (a.length - b.toNat) (drop b.toNat a)))) (cond (((UInt8.toNat (List.getD (take (a.length - b.toNat) (drop b.toNat a)) 0 0):Nat):Int)==32) (cond ((decide ((0:Int)<=(1:Int)))&&((decide (1<=(((List.length (take (a.length - b.toNat) (drop b.toNat a))):Nat):Int)))&&((decide ((((List.length (take (a.length - b.toNat) (drop b.toNat a))):Nat):Int)<=(((List.length (take (a.length - b.toNat) (drop b.toNat a))):Nat):Int)))&&(decide ((((List.length (take (a.length - b.toNat) (drop b.toNat a))):Nat):Int)<=(((List.length (take (a.length - b.toNat) (drop b.toNat a))):Nat):Int)))))) (q0 c (take ((List.length (take (a.length - b.toNat) (drop b.toNat a))) - 1) (drop 1 (take (a.length - b.toNat) (drop b.toNat a))))) none) (q0 c (take (a.length - b.toNat) (drop b.toNat a)))) none))) none)) none) none)
def TN:=(Ac fun N a r0=>gw (R:=R) N r0 (fun c=>fL N r0 c) a).1
def pa(a r0):(@TN R N a r0)=(gw N r0 (fun c=>fL N r0 c) a):=by rw[TN,(Ac _).2]
def u5:Hints:={H:=hK 7 (hJ [2,3,6,8] hL hL),modes:=[(3,0),(3,0),(0,0)]}
def Ab0:O6:=[Apg N,Ae3 N,Axw N,Apc N]
def Apo(F:KF R):=Iq Tryz.f139 u5 (Ab0 N) [] N F
def App(c:LA)(K:St->O R):=fun e=>K ⟨[(2,op 0),(3,op 1),(6,op 2),(8,.str e)],hq [bN 0 [.bool false,.nsl,.nsl],bQ 0 [iv 0,iv 0,iv 0,iv 0],bQ 0 c]⟩
def Ab1(F:KF R)c:App c (Bo (Apo N F (pz 87381) []))=(fL N (yQ F) c):=by kernel_rfl
def Atp:=B4 N 139 (Ab0 N) u5 (fun
|[.str a],[]=>some fun _ k=>TN N a (yQ k)
| _,_=>none) fun _ _=>by split;intro R F;exact(Bs (gw N (yQ F) · _) (qY fun c=>(jW ..).trans (Ab1 ..)):_).trans (pa ..).symm;trivial
def It(r0:Int->Int->Int->O R)(s:RB)(a c:Int)(d:LA):O R:=(cond (ble 3 d.length) (LD N (d.take 3) false fun i j=>cond (!j) (Ap N 3 {s with nx:=a,er:=c} (fun l=>r0 0 a l)) (r0 i a c)) none)
def P1(r0:Int->Int->Int->O R)(q0:Int->Int->LA->O R)(b:LA)(f:Bool)(s:RB):O R:=(B6 N s fun g m a c=>cond (!m) (r0 0 a c) (TN N g fun d e h=>cond ((beq 0 0)&&((beq d.length 3)&&(beq 3 3))) (cond ((beq e.length 4)&&((ble 4 4)&&(!false))) (cond (h != 0) (Ap N h {s with nx:=a,er:=c} (fun n=>r0 0 a n)) (cond (Ad (wrap .i64 (((g.length:Nat):Int) - 1)) g.length) (cond ((decide (((UInt8.toNat (List.getD g ((wrap .i64 (((g.length:Nat):Int) - 1)).toNat) 0):Nat):Int)<48))==false) (cond ((cond false true (decide (((UInt8.toNat (List.getD g ((wrap .i64 (((g.length:Nat):Int) - 1)).toNat) 0):Nat):Int)>57)))==true) (cond (ble 4 ((setCells [Bfg,Bfg,Bfg,Bfg] 0 e).length)) (cond (ble 4 b.length) (cond ((!f)||(A0 (b.take 4))) (cond ((ble 1 4)&&((beq (((setCells [Bfg,Bfg,Bfg,Bfg] 0 e).take 4).length) 4)&&((beq ((b.take 4).length) 4)&&(true&&(!false))))) (As .i64 ((setCells [Bfg,Bfg,Bfg,Bfg] 0 e).take 4) fun o=>As .i64 (b.take 4) fun p=>As .i64 (((setCells [Bfg,Bfg,Bfg,Bfg] 0 e).take 4).drop 1) fun q=>As .i64 ((b.take 4).drop 1) fun r=>As .i64 (((setCells [Bfg,Bfg,Bfg,Bfg] 0 e).take 4).drop 2) fun t=>As .i64 ((b.take 4).drop 2) fun u=>As .i64 (((setCells [Bfg,Bfg,Bfg,Bfg] 0 e).take 4).drop 3) fun v=>As .i64 ((b.take 4).drop 3) fun w=>cond (cond true (!((o==p)&&((q==r)&&((t==u)&&((v==w)&&true))))) false) (Ap N 15 {s with nx:=a,er:=c} (fun x=>r0 0 a x)) (q0 a c d)) none) none) none) none) (q0 a c d)) (cond (ble 4 ((setCells [Bfg,Bfg,Bfg,Bfg] 0 e).length)) (cond (ble 4 b.length) (cond ((!f)||(A0 (b.take 4))) (cond ((ble 1 4)&&((beq (((setCells [Bfg,Bfg,Bfg,Bfg] 0 e).take 4).length) 4)&&((beq ((b.take 4).length) 4)&&(true&&(!false))))) (As .i64 ((setCells [Bfg,Bfg,Bfg,Bfg] 0 e).take 4) fun y=>As .i64 (b.take 4) fun z=>As .i64 (((setCells [Bfg,Bfg,Bfg,Bfg] 0 e).take 4).drop 1) fun aa=>As .i64 ((b.take 4).drop 1) fun ab=>As .i64 (((setCells [Bfg,Bfg,Bfg,Bfg] 0 e).take 4).drop 2) fun ac=>As .i64 ((b.take 4).drop 2) fun ad=>As .i64 (((setCells [Bfg,Bfg,Bfg,Bfg] 0 e).take 4).drop 3) fun ae=>As .i64 ((b.take 4).drop 3) fun af=>cond (cond true (!((y==z)&&((aa==ab)&&((ac==ad)&&((ae==af)&&true))))) false) (Ap N 15 {s with nx:=a,er:=c} (fun ag=>r0 0 a ag)) (q0 a c d)) none) none) none) none)) none)) none) none))
def Dv:=(Ac fun N b f s r0=>P1 (R:=R) N r0 (fun a c d=>It N r0 s a c d) b f s).1
def DE(b f s r0):(@Dv R N b f s r0)=(P1 N r0 (fun a c d=>It N r0 s a c d) b f s):=by rw[Dv,(Ac _).2]
def FO:Hints:={H:=hK 5 (hJ [0,7] hL hL)}
def LG:O6:=[B7 N,Atp N,Bq N,Abp N]
def iy(F:KF R):=Iq Tryz.f119 FO (LG N) [100000,100001,100002,100003,100004,100005,100006,100007,100008,100009,100010,100011,100012,100013,100014,100015] N F
def iz(s:RB)(a c:Int)(d:LA)(K:St->O R):=K ⟨[(0,.optr 100000 0),(7,op 0)],[(100000,bN 0 [.own 100001 0 s.nw,iv a,iv c,iv s.th,.own 100002 0 s.nR,.own 100003 0 s.nB,.own 100004 0 s.nL,.own 100005 0 s.nU,.own 100006 0 s.nS,.own 100007 0 s.nT,.own 100008 0 s.nO,.bool s.bg,.own 100009 0 s.zA,.own 100010 0 s.zB,.own 100011 0 s.zC,.own 100012 0 s.zD,.own 100013 0 s.zE,.own 100014 0 s.zF,.own 100015 0 s.zG]),(100001,bQ 1 s.cw),(100002,bQ 1 s.cR),(100003,bQ 3 s.cB),(100004,bQ 12 s.cL),(100005,bQ 22 s.cU),(100006,bQ 9 s.cS),(100007,bQ 5 s.cT),(100008,bQ 4 s.cO),(100009,bQ 1 s.yA),(100010,bQ 1 s.yB),(100011,bQ 1 s.yC),(100012,bQ 1 s.yD),(100013,bQ 1 s.yE),(100014,bQ 1 s.yF),(100015,bQ 1 s.yG),(300000,bQ 0 d)]⟩
def XW(F:KF R)(s a c d):iz s a c d (Bo (iy N F (pz 5461) []))=(It N (kp s F) s a c d):=by kernel_rfl
def Hj:=B4 N 119 (LG N) FO (VJ fun
|[.optr 100000 0,.pagg b f],s=>some fun _ k=>Dv N b f s (kp s k)
| _,_=>none) (aI fun _ s=>by split;rename_i b f;intro R F;exact(Bs (P1 N (kp s F) · b f s) (A2b fun a c d=>(jW ..).trans (XW ..)):_).trans (DE ..).symm;trivial)
def EO(s:RB)(r0:Int->Int->Int->O R):O R:=(Dv N [.int .i64 1,Bfg,Bfg,Bfg] false s fun a b c=>r0 a b c)
def A5:=(Ac (@EO R)).1
def LH:@A5 R=@EO R:=(Ac _).2
def Mo:=B4 N 93 [Hj N] Bt (VJ fun
|[.optr 100000 0],s=>some fun _ k=>A5 N s (kp s k)
| _,_=>none) (aI fun _ s=>by split;intro R F;dsimp only;rw[LH];kernel_rfl;trivial)
def Li(r0:Nat->Int->Int->LA->O R)(s:RB)(k0:Nat->Int->Int->Int->LA->O R)(a:Nat)(b c d:Int)(f:LA):O R:=(cond (decide (b<s.th)) (A5 N {s with nx:=c,er:=d} (fun g h i=>cond ((ble (a+1) 140737488355328)&&(ble ((a+1)*8) 140737488355328)) (k0 (a+1) (wrap .i64 (b+1)) h i ((f.take (a*1))++[.int .i64 g])) none)) (r0 a c d f))
def Dy(r0:Nat->Int->Int->LA->O R)(s:RB):Nat->Nat->Int->Int->Int->LA->O R
|0=>fun _ _ _ _ _=>none
|n+1=>Li N r0 s (Dy r0 s n)
def P2(N:Nat)(r0:Nat->Int->Int->LA->O R)(q0:Nat->Int->Int->Int->LA->O R)(s:RB):O R:=(q0 0 0 s.nx s.er [])
def C6:=(Ac fun N s r0=>P2 (R:=R) N r0 (Dy N r0 s N) s).1
def DF(s r0):(@C6 R N s r0)=(P2 N r0 (Dy N r0 s N) s):=by rw[C6,(Ac _).2]
def FP:Hints:={H:=hK 2 (hS (hK 1 (hS (hP [1,5,10,11] hL) hL)) hL),nils:=[(4,1),(5,1)],modes:=[(2,1)]}
def LI:O6:=[Mo N]
def jA(F:KF R):=Iq Tryz.f92 FP (LI N) [100000,100001,100002,100003,100004,100005,100006,100007,100008,100009,100010,100011,100012,100013,100014,100015] N F
def jB(s:RB)(K:St->O R):=fun a b c d f=>K ⟨[(1,.fn 1000093 [.optr 100000 0]),(5,Bff 0 a),(10,iv s.th),(11,iv b)],[(100000,bN 0 [.own 100001 0 s.nw,iv c,iv d,iv s.th,.own 100002 0 s.nR,.own 100003 0 s.nB,.own 100004 0 s.nL,.own 100005 0 s.nU,.own 100006 0 s.nS,.own 100007 0 s.nT,.own 100008 0 s.nO,.bool s.bg,.own 100009 0 s.zA,.own 100010 0 s.zB,.own 100011 0 s.zC,.own 100012 0 s.zD,.own 100013 0 s.zE,.own 100014 0 s.zF,.own 100015 0 s.zG]),(100001,bQ 1 s.cw),(100002,bQ 1 s.cR),(100003,bQ 3 s.cB),(100004,bQ 12 s.cL),(100005,bQ 22 s.cU),(100006,bQ 9 s.cS),(100007,bQ 5 s.cT),(100008,bQ 4 s.cO),(100009,bQ 1 s.yA),(100010,bQ 1 s.yB),(100011,bQ 1 s.yC),(100012,bQ 1 s.yD),(100013,bQ 1 s.yE),(100014,bQ 1 s.yF),(100015,bQ 1 s.yG),(300000,bQ 1 f)]⟩
def XX(F:KF R)s:∀ n,jB s (Ak (jA N F (pz 1348) []) n)=(Dy N (YZ s F) s n):=Ds fun n e=>(Bs (Li N (YZ s F) s) e:_)
def Vb:=B4 N 92 (LI N) FP (VJ fun
|[.optr 100000 0,.fn 1000093 [.optr 100000 0]],s=>some fun _ k=>C6 N s (YZ s k)
| _,_=>none) (aI fun _ s=>by split;intro R F;exact(Bs (P2 N (YZ s F) · s) ((lW ..).trans (XX ..)):_).trans (DF ..).symm;trivial)
def QS(s:RB)(r0:Int->O R):O R:=(F5 N s fun a=>cond a (Ap N 2 s fun b=>r0 b) (r0 s.er))
def Gg:=(Ac (@QS R)).1
def TO:@Gg R=@QS R:=(Ac _).2
def Ab2:=B4 N 100 [O0 N,Bq N] Bt (VJ fun
|[.optr 100000 0],s=>some fun _ k=>Gg N s (A32 s k)
| _,_=>none) (aI fun _ s=>by split;intro R F;dsimp only;rw[TO];kernel_rfl;trivial)
def Apq(N:Nat)(a:Int)(r0:Int->O R):O R:=(cond (a==1) (r0 32) (cond (a==2) (r0 64) (cond (a==3) (r0 16) (cond (a==4) (r0 8) (cond (a==5) (r0 8) (r0 64))))))
def PB:=(Ac (@Apq R)).1
def Rp:@PB R=@Apq R:=(Ac _).2
def IP:=B4 N 140 [] Bt (fun
|[.int .i64 a],[]=>some fun _ k=>PB N a (B8 k)
| _,_=>none) fun _ _=>by split;intro R F;dsimp only;rw[Rp];kernel_rfl;trivial
def EP(s:RB)(r0:Int->Int->O R)(r1:Lu->Int->Int->Nat->LA->O R):O R:=(B6 N s fun c d a b=>cond (!d) (r0 a b) (Gc N c fun e=>cond (!e) (Ap N 9 {s with nx:=a,er:=b} (fun f=>r0 a f)) (Al N (s.yB.take (s.zB*1)) s.zB false true c fun g=>cond g (Ap N 10 {s with nx:=a,er:=b} (fun h=>r0 a h)) (PB N 1 fun i=>cond (decide ((s.zB:Int)>=i)) (Ap N 8 {s with nx:=a,er:=b} (fun j=>r0 a j)) (cond ((ble (s.zB+1) 140737488355328)&&(ble ((s.zB+1)*16) 140737488355328)) (r1 c a b (s.zB+1) ((s.yB.take (s.zB*1))++[.str c])) none)))))
def Xj:=(Ac (@EP R)).1
def LJ:@Xj R=@EP R:=(Ac _).2
def pb(s:RB)(F:KF R):Lu->Int->Int->Nat->LA->O R:=fun l m n o p=>F (.str l) [(100000,bN 0 [Bff 0 s.nw,iv m,iv n,iv s.th,Bff 1 s.nR,Bff 2 s.nB,Bff 3 s.nL,Bff 4 s.nU,Bff 5 s.nS,Bff 6 s.nT,Bff 7 s.nO,.bool s.bg,Bff 8 s.zA,.own 300014 0 o,Bff 9 s.zC,.own 300010 0 s.zD,.own 300011 0 s.zE,.own 300012 0 s.zF,.own 300013 0 s.zG]),(300000,bQ 1 s.cw),(300001,bQ 1 s.cR),(300002,bQ 3 s.cB),(300003,bQ 12 s.cL),(300004,bQ 22 s.cU),(300005,bQ 9 s.cS),(300006,bQ 5 s.cT),(300007,bQ 4 s.cO),(300008,bQ 1 s.yA),(300009,bQ 1 s.yC),(300010,bQ 1 s.yD),(300011,bQ 1 s.yE),(300012,bQ 1 s.yF),(300013,bQ 1 s.yG),(300014,bQ 1 p)]
def sM:=B4 N 120 [B7 N,Jg N,Bq N,Bm N,IP N] yO (VJ fun
|[.optr 100000 0,.int .i64 1],s=>some fun _ k=>Xj N s (Am9 s k) (pb s k)
| _,_=>none) (aI fun _ s=>by split;intro R F;dsimp only;rw[LJ];kernel_rfl;trivial)
def EQ(s:RB)(r0:Int->Int->Int->O R):O R:=(Dv N [.int .i64 (-1),.int .i64 (-1),.int .i64 1,Bfg] false s fun a b c=>r0 a b c)
def H9:=(Ac (@EQ R)).1
def LK:@H9 R=@EQ R:=(Ac _).2
def Zu:=B4 N 121 [Hj N] Bt (VJ fun
|[.optr 100000 0],s=>some fun _ k=>H9 N s (kp s k)
| _,_=>none) (aI fun _ s=>by split;intro R F;dsimp only;rw[LK];kernel_rfl;trivial)
def LL(s:RB)(r0:Int->Int->Nat->Nat->LA->LA->O R):O R:=(Xj N s (fun e f=>Am N ([100,101,109,97,110,100]:Lu) {s with nx:=e,er:=f} (fun g h=>C6 N {s with nx:=g,er:=h} (fun c i j l=>Am N ([115,104,101,100]:Lu) {s with nx:=i,er:=j} (fun m n=>H9 N {s with nx:=m,er:=n} (fun o p q=>cond ((ble (s.nB+1) 140737488355328)&&(ble ((s.nB+1)*48) 140737488355328)) (r0 p q (s.nB+1) s.zB ((s.cB.take (s.nB*3))++[.str ([]:Lu),.imm (l.take (c*1)) c 1 false false,.int .i64 o]) s.yB) none))))) fun r t u a b=>Am N ([100,101,109,97,110,100]:Lu) {s with nx:=t,er:=u,zB:=a,yB:=b} (fun v w=>C6 N {s with nx:=v,er:=w,zB:=a,yB:=b} (fun d x y z=>Am N ([115,104,101,100]:Lu) {s with nx:=x,er:=y,zB:=a,yB:=b} (fun aa ab=>H9 N {s with nx:=aa,er:=ab,zB:=a,yB:=b} (fun ac ad ae=>cond ((ble (s.nB+1) 140737488355328)&&(ble ((s.nB+1)*48) 140737488355328)) (r0 ad ae (s.nB+1) a ((s.cB.take (s.nB*3))++[.str r,.imm (z.take (d*1)) d 1 false false,.int .i64 ac]) b) none)))))
def BR:=(Ac (@LL R)).1
def PC:@BR R=@LL R:=(Ac _).2
def sN(s:RB)(F:KF R):Int->Int->Nat->Nat->LA->LA->O R:=fun af ag ah ai aj ak=>F (.tup []) [(100000,bN 0 [Bff 0 s.nw,iv af,iv ag,iv s.th,Bff 1 s.nR,Bff 2 ah,Bff 3 s.nL,Bff 4 s.nU,Bff 5 s.nS,Bff 6 s.nT,Bff 7 s.nO,.bool s.bg,Bff 8 s.zA,Bff 9 ai,.own 300010 0 s.zC,.own 300011 0 s.zD,.own 300012 0 s.zE,.own 300013 0 s.zF,.own 300014 0 s.zG]),(300000,bQ 1 s.cw),(300001,bQ 1 s.cR),(300002,bQ 3 aj),(300003,bQ 12 s.cL),(300004,bQ 22 s.cU),(300005,bQ 9 s.cS),(300006,bQ 5 s.cT),(300007,bQ 4 s.cO),(300008,bQ 1 s.yA),(300009,bQ 1 ak),(300010,bQ 1 s.yC),(300011,bQ 1 s.yD),(300012,bQ 1 s.yE),(300013,bQ 1 s.yF),(300014,bQ 1 s.yG)]
def wh:=B4 N 94 [sM N,Hi N,Vb N,Zu N] Au3 (VJ fun
|[.optr 100000 0],s=>some fun _ k=>BR N s (sN s k)
| _,_=>none) (aI fun _ s=>by split;intro R F;dsimp only;rw[PC];kernel_rfl;trivial)
def Vc(s:RB)(r0:Int->Int->O R)(r1:Lu->Int->Int->Nat->LA->O R):O R:=(B6 N s fun c d a b=>cond (!d) (r0 a b) (Gc N c fun e=>cond (!e) (Ap N 9 {s with nx:=a,er:=b} (fun f=>r0 a f)) (Al N (s.yC.take (s.zC*1)) s.zC false true c fun g=>cond g (Ap N 10 {s with nx:=a,er:=b} (fun h=>r0 a h)) (PB N 2 fun i=>cond (decide ((s.zC:Int)>=i)) (Ap N 8 {s with nx:=a,er:=b} (fun j=>r0 a j)) (cond ((ble (s.zC+1) 140737488355328)&&(ble ((s.zC+1)*16) 140737488355328)) (r1 c a b (s.zC+1) ((s.yC.take (s.zC*1))++[.str c])) none)))))
def P3:=(Ac (@Vc R)).1
def Yb:@P3 R=@Vc R:=(Ac _).2
def fM(s:RB)(F:KF R):Lu->Int->Int->Nat->LA->O R:=fun l m n o p=>F (.str l) [(100000,bN 0 [Bff 0 s.nw,iv m,iv n,iv s.th,Bff 1 s.nR,Bff 2 s.nB,Bff 3 s.nL,Bff 4 s.nU,Bff 5 s.nS,Bff 6 s.nT,Bff 7 s.nO,.bool s.bg,Bff 8 s.zA,Bff 9 s.zB,.own 300014 0 o,.own 300010 0 s.zD,.own 300011 0 s.zE,.own 300012 0 s.zF,.own 300013 0 s.zG]),(300000,bQ 1 s.cw),(300001,bQ 1 s.cR),(300002,bQ 3 s.cB),(300003,bQ 12 s.cL),(300004,bQ 22 s.cU),(300005,bQ 9 s.cS),(300006,bQ 5 s.cT),(300007,bQ 4 s.cO),(300008,bQ 1 s.yA),(300009,bQ 1 s.yB),(300010,bQ 1 s.yD),(300011,bQ 1 s.yE),(300012,bQ 1 s.yF),(300013,bQ 1 s.yG),(300014,bQ 1 p)]
def jC:=B4 N 120 [B7 N,Jg N,Bq N,Bm N,IP N] yO (VJ fun
|[.optr 100000 0,.int .i64 2],s=>some fun _ k=>P3 N s (Am9 s k) (fM s k)
| _,_=>none) (aI fun _ s=>by split;intro R F;dsimp only;rw[Yb];kernel_rfl;trivial)
def Zv(s:RB)(r0:Int->Int->Int->O R):O R:=(B6 N s fun d e a b=>cond (!e) (r0 0 a b) (Ba N (s.yB.take (s.zB*1)) s.zB false true d fun c=>cond (decide (c<0)) (Ap N 12 {s with nx:=a,er:=b} (fun f=>r0 0 a f)) (r0 c a b)))
def Co:=(Ac (@Zv R)).1
def FQ:@Co R=@Zv R:=(Ac _).2
def P4:=B4 N 122 [B7 N,Et N,Bq N] Bt (VJ fun
|[.optr 100000 0,.int .i64 1],s=>some fun _ k=>Co N s (kp s k)
| _,_=>none) (aI fun _ s=>by split;intro R F;dsimp only;rw[FQ];kernel_rfl;trivial)
def Lj(r0:LA->Int->Int->O R)(c:Int)(d:Bool)(e:Int)(f:Bool)(s:RB)(a b:Int):O R:=(cond ((!d)==false) (cond ((cond false true (!f))==false) (cond (cond false true (decide (e<1))) (Ap N 3 {s with nx:=a,er:=b} (fun i=>r0 [Bfg,Bfg] a i)) (r0 [.int .i64 c,.int .i64 e] a b)) (Ap N 3 {s with nx:=a,er:=b} (fun j=>r0 [Bfg,Bfg] a j))) (Ap N 3 {s with nx:=a,er:=b} (fun l=>r0 [Bfg,Bfg] a l)))
def Pe(r0:LA->Int->Int->O R)(c:Int)(d:Bool)(s:RB)(a b:Int)(q1:Int->Bool->O R)(g:Lu):O R:=(OZ N g fun e f m=>cond ((m != 0)==false) (cond (Ad 0 g.length) (cond (cond false true (((UInt8.toNat (List.getD g 0 0):Nat):Int)==45)) (Ap N 2 {s with nx:=a,er:=b} (fun n=>r0 [Bfg,Bfg] a n)) (q1 e f)) none) (Ap N 2 {s with nx:=a,er:=b} (fun o=>r0 [Bfg,Bfg] a o)))
def Ia(r0:LA->Int->Int->O R)(c:Int)(d:Bool)(s:RB)(a b:Int)(g:Lu):O R:=Pe N r0 c d s a b (fun e f=>Lj N r0 c d e f s a b) g
def Ob(r0:LA->Int->Int->O R)(q0:Int->Bool->Int->Int->Lu->O R)(s:RB):O R:=(B6 N s fun p q a b=>cond (!q) (r0 [Bfg,Bfg] a b) (strings_Cut N p ([47]:Lu) fun r t u=>OZ N r fun c d h=>cond (h != 0) (Ap N h {s with nx:=a,er:=b} (fun v=>r0 [Bfg,Bfg] a v)) (cond (!u) (q0 c d a b ([49]:Lu)) (q0 c d a b t))))
def Ca:=(Ac fun N s r0=>Ob (R:=R) N r0 (fun c d a b=>Ia N r0 c d s a b) s).1
def Yc(s r0):(@Ca R N s r0)=(Ob N r0 (fun c d a b=>Ia N r0 c d s a b) s):=by rw[Ca,(Ac _).2]
def DG:Hints:={H:=hK 6 (hJ [0,2,6,8,9] hL (hK 1 (hJ [0,2,8,9,11,12] hL hL))),modes:=[(3,0)]}
def FR:O6:=[B7 N,P' N,Ago N,Bq N]
def DH(F:KF R):=Iq Tryz.f123 DG (FR N) [100000,100001,100002,100003,100004,100005,100006,100007,100008,100009,100010,100011,100012,100013,100014,100015] N F
def Ib(s:RB)(F:KF R):LA->Int->Int->O R:=fun w x y=>F (.pagg w false) [(100000,bN 0 [.own 100001 0 s.nw,iv x,iv y,iv s.th,.own 100002 0 s.nR,.own 100003 0 s.nB,.own 100004 0 s.nL,.own 100005 0 s.nU,.own 100006 0 s.nS,.own 100007 0 s.nT,.own 100008 0 s.nO,.bool s.bg,.own 100009 0 s.zA,.own 100010 0 s.zB,.own 100011 0 s.zC,.own 100012 0 s.zD,.own 100013 0 s.zE,.own 100014 0 s.zF,.own 100015 0 s.zG]),(100001,bQ 1 s.cw),(100002,bQ 1 s.cR),(100003,bQ 3 s.cB),(100004,bQ 12 s.cL),(100005,bQ 22 s.cU),(100006,bQ 9 s.cS),(100007,bQ 5 s.cT),(100008,bQ 4 s.cO),(100009,bQ 1 s.yA),(100010,bQ 1 s.yB),(100011,bQ 1 s.yC),(100012,bQ 1 s.yD),(100013,bQ 1 s.yE),(100014,bQ 1 s.yF),(100015,bQ 1 s.yG)]
def fN(c:Int)(d:Bool)(e:Int)(f:Bool)(s:RB)(a b:Int)(K:St->O R):=K ⟨[(0,.optr 100000 0),(2,op 0),(8,iv c),(9,.bool d),(11,iv e),(12,.bool f)],[(100000,bN 0 [.own 100001 0 s.nw,iv a,iv b,iv s.th,.own 100002 0 s.nR,.own 100003 0 s.nB,.own 100004 0 s.nL,.own 100005 0 s.nU,.own 100006 0 s.nS,.own 100007 0 s.nT,.own 100008 0 s.nO,.bool s.bg,.own 100009 0 s.zA,.own 100010 0 s.zB,.own 100011 0 s.zC,.own 100012 0 s.zD,.own 100013 0 s.zE,.own 100014 0 s.zF,.own 100015 0 s.zG]),(100001,bQ 1 s.cw),(100002,bQ 1 s.cR),(100003,bQ 3 s.cB),(100004,bQ 12 s.cL),(100005,bQ 22 s.cU),(100006,bQ 9 s.cS),(100007,bQ 5 s.cT),(100008,bQ 4 s.cO),(100009,bQ 1 s.yA),(100010,bQ 1 s.yB),(100011,bQ 1 s.yC),(100012,bQ 1 s.yD),(100013,bQ 1 s.yE),(100014,bQ 1 s.yF),(100015,bQ 1 s.yG),(300000,bQ 0 [iv 0,iv 0])]⟩
def fO(c:Int)(d:Bool)(s:RB)(a b:Int)(K:St->O R):=fun g=>K ⟨[(0,.optr 100000 0),(2,op 0),(6,.str g),(8,iv c),(9,.bool d)],[(100000,bN 0 [.own 100001 0 s.nw,iv a,iv b,iv s.th,.own 100002 0 s.nR,.own 100003 0 s.nB,.own 100004 0 s.nL,.own 100005 0 s.nU,.own 100006 0 s.nS,.own 100007 0 s.nT,.own 100008 0 s.nO,.bool s.bg,.own 100009 0 s.zA,.own 100010 0 s.zB,.own 100011 0 s.zC,.own 100012 0 s.zD,.own 100013 0 s.zE,.own 100014 0 s.zF,.own 100015 0 s.zG]),(100001,bQ 1 s.cw),(100002,bQ 1 s.cR),(100003,bQ 3 s.cB),(100004,bQ 12 s.cL),(100005,bQ 22 s.cU),(100006,bQ 9 s.cS),(100007,bQ 5 s.cT),(100008,bQ 4 s.cO),(100009,bQ 1 s.yA),(100010,bQ 1 s.yB),(100011,bQ 1 s.yC),(100012,bQ 1 s.yD),(100013,bQ 1 s.yE),(100014,bQ 1 s.yF),(100015,bQ 1 s.yG),(300000,bQ 0 [iv 0,iv 0])]⟩
def TP(F:KF R)(c d e f s a b):fN c d e f s a b (Bo (DH N F (pz 349525) []))=(Lj N (Ib s F) c d e f s a b):=by kernel_rfl
def TQ(F:KF R)(c d s a b):fO c d s a b (Bo (DH N F (pz 21845) []))=(Ia N (Ib s F) c d s a b):=(Bs (Pe N (Ib s F) c d s a b) (MR fun e f=>(jW ..).trans (TP ..)):_)
def FS:=B4 N 123 (FR N) DG (VJ fun
|[.optr 100000 0],s=>some fun _ k=>Ca N s (Ib s k)
| _,_=>none) (aI fun _ s=>by split;intro R F;exact(Bs (Ob N (Ib s F) · s) (Aip fun c d a b=>(jW ..).trans (TQ ..)):_).trans (Yc ..).symm;trivial)
def P5(a:Lu)(s:RB)(r0:Bool->O R):O R:=(F5 N s fun b=>cond (b==true) (cond (Ad s.nx s.nw) (Km (s.cw.drop (0+(s.nx.toNat*1))) fun c=>r0 (cond true (!(c==a)) false)) none) (r0 false))
def Hk:=(Ac (@P5 R)).1
def Rq:@Hk R=@P5 R:=(Ac _).2
def Vd:=B4 N 125 [O0 N] Bt (VJ fun
|[.optr 100000 0,.str a],s=>some fun _ k=>Hk N a s (Azv s k)
| _,_=>none) (aI fun _ s=>by split;intro R F;dsimp only;rw[Rq];kernel_rfl;trivial)
def LM(s:RB)(r0:Int->Int->Int->O R):O R:=(O3 N (-1073741824) 1073741824 s fun a b c=>r0 a b c)
def BS:=(Ac (@LM R)).1
def PD:@BS R=@LM R:=(Ac _).2
def wi:=B4 N 141 [O_ N] Bt (VJ fun
|[.optr 100000 0],s=>some fun _ k=>BS N s (kp s k)
| _,_=>none) (aI fun _ s=>by split;intro R F;dsimp only;rw[PD];kernel_rfl;trivial)
def Oc(r0:Nat->Int->Int->LA->O R)(a:Lu)(s:RB)(k0:Nat->Int->Int->LA->O R)(b:Nat)(c d:Int)(f:LA):O R:=(Hk N a {s with nx:=c,er:=d} (fun g=>cond g (BS N {s with nx:=c,er:=d} (fun h i j=>cond ((ble (b+1) 140737488355328)&&(ble ((b+1)*8) 140737488355328)) (k0 (b+1) i j ((f.take (b*1))++[.int .i64 h])) none)) (r0 b c d f)))
def Gh(r0:Nat->Int->Int->LA->O R)(a:Lu)(s:RB):Nat->Nat->Int->Int->LA->O R
|0=>fun _ _ _ _=>none
|n+1=>Oc N r0 a s (Gh r0 a s n)
def Uq(N:Nat)(r0:Nat->Int->Int->LA->O R)(q0:Nat->Int->Int->LA->O R)(a:Lu)(s:RB):O R:=(q0 0 s.nx s.er [])
def J4:=(Ac fun N a s r0=>Uq (R:=R) N r0 (Gh N r0 a s N) a s).1
def LN(a s r0):(@J4 R N a s r0)=(Uq N r0 (Gh N r0 a s N) a s):=by rw[J4,(Ac _).2]
def PE:Hints:={H:=hK 2 (hS (hS (hP [0,1,5] hL) hL) hL),nils:=[(4,1),(5,1)],modes:=[(2,1)]}
def TR:O6:=[Vd N,wi N]
def pc(F:KF R):=Iq Tryz.f124 PE (TR N) [100000,100001,100002,100003,100004,100005,100006,100007,100008,100009,100010,100011,100012,100013,100014,100015] N F
def pd(a:Lu)(s:RB)(K:St->O R):=fun b c d f=>K ⟨[(0,.optr 100000 0),(1,.str a),(5,Bff 0 b)],[(100000,bN 0 [.own 100001 0 s.nw,iv c,iv d,iv s.th,.own 100002 0 s.nR,.own 100003 0 s.nB,.own 100004 0 s.nL,.own 100005 0 s.nU,.own 100006 0 s.nS,.own 100007 0 s.nT,.own 100008 0 s.nO,.bool s.bg,.own 100009 0 s.zA,.own 100010 0 s.zB,.own 100011 0 s.zC,.own 100012 0 s.zD,.own 100013 0 s.zE,.own 100014 0 s.zF,.own 100015 0 s.zG]),(100001,bQ 1 s.cw),(100002,bQ 1 s.cR),(100003,bQ 3 s.cB),(100004,bQ 12 s.cL),(100005,bQ 22 s.cU),(100006,bQ 9 s.cS),(100007,bQ 5 s.cT),(100008,bQ 4 s.cO),(100009,bQ 1 s.yA),(100010,bQ 1 s.yB),(100011,bQ 1 s.yC),(100012,bQ 1 s.yD),(100013,bQ 1 s.yE),(100014,bQ 1 s.yF),(100015,bQ 1 s.yG),(300000,bQ 1 f)]⟩
def fP(F:KF R)(a s):∀ n,pd a s (Ak (pc N F (pz 336) []) n)=(Gh N (YZ s F) a s n):=Ds fun n e=>(Bs (Oc N (YZ s F) a s) e:_)
def TS:=B4 N 124 (TR N) PE (VJ fun
|[.optr 100000 0,.str a],s=>some fun _ k=>J4 N a s (YZ s k)
| _,_=>none) (aI fun _ s=>by split;rename_i a;intro R F;exact(Bs (Uq N (YZ s F) · a s) ((lW ..).trans (fP ..)):_).trans (LN ..).symm;trivial)
end
end Gx
namespace Gx.Ct
open Go Go.Proofs Gx.Cf
section
variable{R:Type}{N:Nat}
def At(nw:Nat)(cw:LA)(nx:Int)(r:List Ar):Prop:=∃ p:List Ar,cw=(p++r).map AV.str/\nw=(p++r).length/\nx=(p.length:Int)/\(p++r).length<=2000000
def Ab3{ws:List Ar}(h:ws.length<=2000000):At ws.length (ws.map AV.str) 0 ws:=⟨[],rfl,rfl,rfl,h⟩
def Ak5{nw:Nat}{cw:LA}{nx:Int}{w:Ar}{r:List Ar}(h:At nw cw nx (w::r)):At nw cw (wrap .i64 (nx+1)) r/\Ad nx nw=true/\decide (nx<(nw:Int))=true/\wrap .i64 ((wrap .i64 (nx+1)) - 1)=nx/\∀ F:Ar->O R,Km (cw.drop (0+nx.toNat*1)) F=F w:=by
 obtain⟨p,e1,d,e3,e4⟩:=h
 have f:(p++w::r).length=p.length+(r.length+1):=by rw[A8y];rfl
 have e:wrap .i64 (nx+1)=((p.length+1:Nat):Int):=by rw[e3];exact OO (by omega)
 refine⟨⟨p++[w],?_,?_,?_,?_⟩,?_,?_,?_,?_⟩
 ·rw[e1,A9l];rfl
 ·rw[d,A9l];rfl
 ·rw[e,A8y];rfl
 ·rw[A9l];exact e4
 ·rw[d,e3];exact Ab (by omega)
 ·rw[d,e3];exact decide_eq_true (by omega)
 ·rw[e,e3,Gx.i64 (by omega)];omega
 ·intro F
  rw[e1,e3,A93,show 0+Int.toNat (p.length:Int)*1=(p.map AV.str).length from by rw[A85];omega,Bco]
  rfl
def A4y{nw:Nat}{cw:LA}{nx:Int}(h:At nw cw nx []):decide (nx<(nw:Int))=false:=by
 obtain⟨p,e1,d,e3,e4⟩:=h
 rw[A9g]at d
 rw[d,e3];exact decide_eq_false (by omega)
def A2s{s:RB}{K:Bool->O R}:Lw N s K=K (s.er==0):=by rw[OQ];rfl
def xF{s:RB}(d:s.er=0){K:Bool->O R}{Y:O R}(k:K true=Y):Lw N s K=Y:=by rw[A2s,d];exact k
def gy{s:RB}{w:Ar}{r:List Ar}(h:At s.nw s.cw s.nx (w::r))(d:s.er=0){K:Bool->O R}{Y:O R}(k:K true=Y):F5 N s K=Y:=by
 rw[Xe];unfold Xd
 refine xF d ?_
 rw[(Ak5 (R:=R) h).2.2.1];exact k
def fQ{s:RB}(h:At s.nw s.cw s.nx [])(d:s.er=0){K:Bool->O R}{Y:O R}(k:K false=Y):F5 N s K=Y:=by
 rw[Xe];unfold Xd
 refine xF d ?_
 rw[A4y h];exact k
def Gi{s:RB}{w:Ar}{r:List Ar}(h:At s.nw s.cw s.nx (w::r))(d:s.er=0){K:Lu->Bool->Int->Int->O R}{Y:O R}(k:∀ x,At s.nw s.cw x r->K w true x 0=Y):B6 N s K=Y:=by
 rw[OR];unfold KZ
 refine gy h d ?_
 obtain⟨e,f,m,j,l⟩:=Ak5 (R:=R) h
 rw[j,f,l,d]
 exact k _ e
def Cy{s:RB}{w:Ar}{r:List Ar}(h:At s.nw s.cw s.nx (w::r))(d:s.er=0){K:Int->Int->O R}{Y:O R}(k:∀ x,At s.nw s.cw x r->K x 0=Y):Am N w s K=Y:=by
 rw[LF];unfold EN
 refine Gi h d fun x hx=>?_
 show cond (cond true (!(w==w)) false) _ _=_
 rw[beq_self_eq_true];exact k x hx
def Zw{s:RB}{a w:Ar}{r:List Ar}(h:At s.nw s.cw s.nx (w::r))(d:s.er=0){K:Bool->O R}{Y:O R}(k:K (!(w==a))=Y):Hk N a s K=Y:=by
 rw[Rq];unfold P5
 refine gy h d ?_
 obtain⟨j,e,l,m,f⟩:=Ak5 (R:=R) h
 rw[e,f]
 exact k
def u6{s:RB}{a:Ar}(h:At s.nw s.cw s.nx [])(d:s.er=0){K:Bool->O R}{Y:O R}(k:K false=Y):Hk N a s K=Y:=by
 rw[Rq];unfold P5
 exact fQ h d k
def TT{ws:List Ar}{L:LA}{n:Nat}{d f bad:Bool}{t:Lu}{K:Nat->LA->O R}{Y:O R}(hL:L=Au ws)(hn:n=ws.length)(e:Avc ws)(j:ws.length<=20000000000000)(hN:20000000000000<N)(h:K (ws.foldl Dj t).length (Ay (ws.foldl Dj t))=Y):Cn N L n d f t.length bad (Ay t) K=Y:=by subst hL hn;rw[Atb e j hN,h]
def Cp{l:List Int}{L:LA}{n:Nat}{c d bad:Bool}{t:Lu}{K:Nat->Bool->LA->O R}{Y:O R}(hL:L=Av l)(hn:n=l.length)(hx:Ig)(hi:∀ z∈l,JR z)(e:l.length<=20000000000000)(hN:20000000000000<N)(h:K ((l.map tx).foldl Dj t).length (bad||Bf l) (Ay ((l.map tx).foldl Dj t))=Y):Ae N L n c d t.length bad (Ay t) K=Y:=by subst hL hn;rw[DB hx hi e hN,h]
def Ej{s t:Lu}{bad:Bool}{K:Nat->LA->O R}{Y:O R}(hs:s.length<=70000000000000)(h:K (Dj t s).length (Ay (Dj t s))=Y):Aj N s t.length bad (Ay t) K=Y:=by rw[Zn hs,h]
def gz{f:FracD}{j bad:Bool}{t:Lu}{K:Nat->Bool->LA->O R}(hx:Ig)(m:JR f.num)(n:JR f.den):Cc N [.int .i64 f.num,.int .i64 f.den] j t.length bad (Ay t) K=K (Dj t (Oo f)).length (bad||Pu f) (Ay (Dj t (Oo f))):=by
 have l1:=hx _ m;have l2:=hx _ n
 have d:∀ F:Int->O R,As .i64 [.int .i64 f.num,.int .i64 f.den] F=F f.num:=fun F=>rfl
 have k:∀ F:Int->O R,As .i64 (drop 1 [AV.int .i64 f.num,.int .i64 f.den]) F=F f.den:=fun F=>rfl
 have e1:ble ((tx f.num).length+1) 140737488355328=true:=by simp;omega
 have q:ble ((tx f.num++([47]:Lu)).length+(tx f.den).length) 140737488355328=true:=by simp;omega
 have s:∀(b:Bool)(K:Nat->LA->O R),Aj N ((tx f.num++([47]:Lu))++tx f.den) t.length b (Ay t) K=K (Dj t (Oo f)).length (Ay (Dj t (Oo f))):=fun b K=>by
  have:(tx f.num++([47]:Lu))++tx f.den=Oo f:=by simp[Oo]
  rw[this,Zn (by rw[<-this];simp;omega)]
 have tail:∀ b:Bool,(As .i64 [.int .i64 f.num,.int .i64 f.den] fun u=>strconv_Itoa N u fun e=>cond (ble (e.length+1) 140737488355328) (As .i64 (drop 1 [AV.int .i64 f.num,.int .i64 f.den]) fun v=>strconv_Itoa N v fun l=>cond (ble ((e++([47]:Lu)).length+l.length) 140737488355328) (Aj N ((e++([47]:Lu))++l) t.length b (Ay t) fun w x=>K w b x) none) none)=K (Dj t (Oo f)).length b (Ay (Dj t (Oo f))):=fun b=>by
  rw[d,gj m,e1,ct,k,gj n,q,ct,s]
 rw[W8];unfold Te Pu DY
 rw[d]
 cases decide (f.num< -1073741824)with
|true=>exact(tail true).trans (by cases bad<;>rfl)
| false =>
  rw[show((false:Bool)==false)=true from rfl,ct,d]
  cases decide (f.num>1073741824)with
  |true=>exact(tail true).trans (by cases bad<;>rfl)
  | false =>
   show As .i64 (drop 1 [AV.int .i64 f.num,.int .i64 f.den]) _=_
   rw[k]
   cases decide (f.den<1)with
   |true=>exact(tail true).trans (by cases bad<;>rfl)
   |false =>
    show As .i64 (drop 1 [AV.int .i64 f.num,.int .i64 f.den]) _=_
    rw[k]
    cases decide (f.den>1073741824)with
    |true=>exact(tail true).trans (by cases bad<;>rfl)
    |false=>exact(tail bad).trans (by cases bad<;>rfl)
def Apr{c:CaseD}{i:Int}(h:Kf i c.buses.l.length=true){F:Ar->O R}:Km (drop ((Int.toNat i)*3) (c.buses.l.flatMap BusD.av)) F=F (Bw (Ci c) i):=by
 unfold Kf at h
 simp only[A81,decide_eq_true_eq]at h
 have d:i.toNat<c.buses.l.length:=by omega
 rw[A3 Ir _ _ d]
 have e:Bw (Ci c) i=c.buses.l[i.toNat].name:=by
  unfold Bw Ci
  rw[A9e,Baw,A84 d];rfl
 rw[e];rfl
def XY{i:Int}{n:Nat}(h:Kf i n=true):Ad i n=true:=by
 unfold Kf at h;unfold Ad
 simp only[A81,decide_eq_true_eq]at h
 simp;omega
def TU{ws:List Ar}(h:ws.all fun w=>decide (w.length<=16)):Avc ws:=fun w d=>by
 have:=A9b.1 h w d
 simp only[decide_eq_true_eq]at this;omega
def hE{c:CaseD}{l:LineD}{g b bad:Bool}{t:Lu}{K:Nat->Bool->LA->O R}(hx:Ig)(hN:20000000000000<N)(hI:LineI 20000000000000 l)(d:Kf l.fr c.buses.l.length=true)(e:Kf l.tl c.buses.l.length=true)(f:l.name.length<=16)(s1:(Bw (Ci c) l.fr).length<=16)(s2:(Bw (Ci c) l.tl).length<=16):
  W9 N c.av g l.av b t.length bad (Ay t) K=K (D_ ((Vp (Ci c) l).foldl Dj t)).length (bad||ND l) (Ay (D_ ((Vp (Ci c) l).foldl Dj t))):=by
 rw[KU];unfold EH
 have j:∀ F:Ar->O R,Km l.av F=F l.name:=fun F=>rfl
 have k:∀ F:Int->O R,As .i64 (drop 1 l.av) F=F l.fr:=fun F=>rfl
 have m:∀ F:Int->O R,As .i64 (drop 2 l.av) F=F l.tl:=fun F=>rfl
 have p:∀(b:Bool)(x y:Int),(!b||A0 [AV.int .i64 x,.int .i64 y])=true:=fun b x y=>by cases b<;>rfl
 rw[j,Dn,k,XY d,ct,Apr d,Dn,m,XY e,ct,Apr e]
 refine TT (ws:=[Jr,l.name,Bw (Ci c) l.fr,Bw (Ci c) l.tl,A58]) rfl rfl (TU (by simp[f,s1,s2,Jr,A58])) (by simp) hN ?_
 show cond true (cond (!b||A0 [AV.int .i64 l.re.num,.int .i64 l.re.den]) (Cc N [.int .i64 l.re.num,.int .i64 l.re.den] false _ _ _ _) none) none=_
 rw[ct,p,ct,gz hx hI.f1.1 hI.f1.2]
 refine Ej (s:=wz) (by decide) ?_
 show cond true (cond (!b||A0 [AV.int .i64 l.smin.num,.int .i64 l.smin.den]) (Cc N [.int .i64 l.smin.num,.int .i64 l.smin.den] false _ _ _ _) none) none=_
 rw[ct,p,ct,gz hx hI.f2.1 hI.f2.2]
 show cond true (cond (!b||A0 [AV.int .i64 l.smax.num,.int .i64 l.smax.den]) (Cc N [.int .i64 l.smax.num,.int .i64 l.smax.den] false _ _ _ _) none) none=_
 rw[ct,p,ct,gz hx hI.f3.1 hI.f3.2]
 refine Ej (s:=xA) (by decide) ?_
 show As .i64 (drop 9 l.av) _=_
 show Ae N [.int .i64 l.limit,.int .i64 l.emer] 2 false true _ _ _ _=_
 refine Cp (l:=[l.limit,l.emer]) rfl rfl hx (by simp[hI.n.1,hI.n.2]) (by simp) hN ?_
 refine Ej (s:=V') (by decide) ?_
 show Bh 1 (l.away.av 1 O9::_) _=_
 rw[Cq,By]
 refine Cp rfl rfl hx hI.a.1 hI.a.2 hN ?_
 rw[KX]
 have eB:((((bad||Pu l.re)||Pu l.smin)||Pu l.smax)||Bf [l.limit,l.emer]||Bf l.away.l)=(bad||ND l):=by unfold ND;simp[Bau]
 rw[eB]
 simp only[Vp,Bab,A9u,Ba8,A9a,A9x]
end
end Gx.Ct
namespace Gx.Ct
open Go Go.Proofs Gx.Cf
def Ab4(u:UnitD):List Ar:=[CG,tx u.noLoad,yb,tx u.rampUp,tx u.rampDown,nC,tx u.startRamp,yc,tx u.stopRamp,nD,tx u.upTime,tx u.downTime,tx u.startTime,yd,tx u.hotCost,tx u.coldCost,tx u.hotHours,If,tx u.reserve,tx u.reservePrice,V']++(u.away.l.map tx++(WA::(DX u.state++[tx u.hours,tx u.output])))
def pe(u:UnitD):Bool:=Bf [u.noLoad,u.rampUp,u.rampDown,u.startRamp,u.stopRamp,u.upTime,u.downTime,u.startTime,u.hotCost,u.coldCost,u.hotHours,u.reserve,u.reservePrice]||(Bf u.away.l||Bf [u.hours,u.output])
section
variable{R:Type}{N:Nat}
def TV{u:UnitD}{b:Bool}{K:Nat->Bool->LA->O R}(hx:Ig)(hN:20000000000000<N)(hI:UnitI 20000000000000 u):∀(m j fuel:Nat)(t:Lu)(bad:Bool),j+m=u.segs.l.length->m<fuel ->
  Ge N K (u.segs.l.flatMap SegD.av) u.segs.l.length b u.av fuel (u.segs.l.length:Int) (j:Int) t.length bad (Ay t) =
   K (D_ ((Ab4 u).foldl Dj (((u.segs.l.drop j).flatMap Adt).foldl Dj t))).length ((bad||(u.segs.l.drop j).any rP)||pe u) (Ay (D_ ((Ab4 u).foldl Dj (((u.segs.l.drop j).flatMap Adt).foldl Dj t))))
| 0,j,fuel+1,t,bad,k,_=>by
  have hn:=hI.n
  simp only[A88,A9v,or_false,forall_eq_or_imp,forall_eq]at hn
  obtain⟨_,_,n1,n2,n3,n4,n5,n6,n7,n8,n9,n10,n11,n12,n13,n14,n15⟩:=hn
  rw[Ge];unfold N8
  rw[Gu (by omega),cf,show u.segs.l.drop j=[]from Eg (by omega)]
  refine Ej (s:=CG) (by decide) ?_
  show Ae N [.int .i64 u.noLoad] 1 false true _ _ _ _=_
  refine Cp (l:=[u.noLoad]) rfl rfl hx (by simp[*]) (by simp) hN ?_
  refine Ej (s:=yb) (by decide) ?_
  show Ae N [.int .i64 u.rampUp,.int .i64 u.rampDown] 2 false true _ _ _ _=_
  refine Cp (l:=[u.rampUp,u.rampDown]) rfl rfl hx (by simp[*]) (by simp) hN ?_
  refine Ej (s:=nC) (by decide) ?_
  show Ae N [.int .i64 u.startRamp] 1 false true _ _ _ _=_
  refine Cp (l:=[u.startRamp]) rfl rfl hx (by simp[*]) (by simp) hN ?_
  refine Ej (s:=yc) (by decide) ?_
  show Ae N [.int .i64 u.stopRamp] 1 false true _ _ _ _=_
  refine Cp (l:=[u.stopRamp]) rfl rfl hx (by simp[*]) (by simp) hN ?_
  refine Ej (s:=nD) (by decide) ?_
  show Ae N [.int .i64 u.upTime,.int .i64 u.downTime,.int .i64 u.startTime] 3 false true _ _ _ _=_
  refine Cp (l:=[u.upTime,u.downTime,u.startTime]) rfl rfl hx (by simp[*]) (by simp) hN ?_
  refine Ej (s:=yd) (by decide) ?_
  show Ae N [.int .i64 u.hotCost,.int .i64 u.coldCost,.int .i64 u.hotHours] 3 false true _ _ _ _=_
  refine Cp (l:=[u.hotCost,u.coldCost,u.hotHours]) rfl rfl hx (by simp[*]) (by simp) hN ?_
  refine Ej (s:=If) (by decide) ?_
  show Ae N [.int .i64 u.reserve,.int .i64 u.reservePrice] 2 false true _ _ _ _=_
  refine Cp (l:=[u.reserve,u.reservePrice]) rfl rfl hx (by simp[*]) (by simp) hN ?_
  refine Ej (s:=V') (by decide) ?_
  show Bh 1 (u.away.av 1 O9::_) _=_
  rw[Cq,By]
  refine Cp rfl rfl hx hI.a.1 hI.a.2 hN ?_
  refine Ej (s:=WA) (by decide) ?_
  show cond (u.state==0) _ _=_
  have eB:(((((((((bad||Bf [u.noLoad])||Bf [u.rampUp,u.rampDown])||Bf [u.startRamp])||Bf [u.stopRamp])||Bf [u.upTime,u.downTime,u.startTime])||Bf [u.hotCost,u.coldCost,u.hotHours])||Bf [u.reserve,u.reservePrice])||Bf u.away.l)||Bf [u.hours,u.output])=((bad||false)||pe u):=by unfold pe;simp[Bf,Bau]
  have last:∀(T:Lu)(f:Bool),Ae N [.int .i64 u.hours,.int .i64 u.output] 2 false true T.length f (Ay T) (fun x y z=>C9 N x y z fun p q=>K p y q)=K (D_ ([tx u.hours,tx u.output].foldl Dj T)).length (f||Bf [u.hours,u.output]) (Ay (D_ ([tx u.hours,tx u.output].foldl Dj T))):=fun T f=>by
   refine Cp (l:=[u.hours,u.output]) rfl rfl hx (by simp[*]) (by simp) hN ?_
   rw[KX];rfl
  by_cases d:u.state=0
  ·rw[show(u.state==0)=true by simp[d],ct]
   refine Ej (s:=Az2) (by decide) ?_
   refine(last _ _).trans ?_
   rw[eB]
   simp only[Ab4,DX,if_pos d,Bab,A9u,Ba8,A9a,A9x,Bbn,Bbo]
  ·rw[show(u.state==0)=false by simp[d],cf]
   by_cases s1:u.state=1
   ·rw[show(u.state==1)=true by simp[s1],ct]
    refine Ej (s:=lB) (by decide) ?_
    refine(last _ _).trans ?_
    rw[eB]
    simp only[Ab4,DX,if_neg d,if_pos s1,Bab,A9u,Ba8,A9a,A9x,Bbn,Bbo]
   ·rw[show(u.state==1)=false by simp[s1],cf]
    by_cases s2:u.state=2
    ·rw[show(u.state==2)=true by simp[s2],ct]
     refine Ej (s:=A4t) (by decide) ?_
     refine(last _ _).trans ?_
     rw[eB]
     simp only[Ab4,DX,if_neg d,if_neg s1,if_pos s2,Bab,A9u,Ba8,A9a,A9x,Bbn,Bbo]
    ·rw[show(u.state==2)=false by simp[s2],cf]
     refine(last _ _).trans ?_
     rw[eB]
     simp only[Ab4,DX,if_neg d,if_neg s1,if_neg s2,Bab,A9u,Ba8,A9a,A9x,Bbn,Bbo,A9t]
|m+1,j,fuel+1,t,bad,k,v=>by
  rw[Ge];unfold N8
  have h:j<u.segs.l.length:=by omega
  have A:=hI.s.2
  have hs:=hI.s.1 _ (A9c h)
  have e:take 2 (drop (Int.toNat (j:Int)*2) (u.segs.l.flatMap SegD.av))=[.int .i64 (u.segs.l[j]).width,.int .i64 (u.segs.l[j]).price]:=Fy (e:=SegD.av) (sz:=2) (fun _=>rfl) h
  rw[F1 h,ct,Ab h,ct,I3 (e:=SegD.av) (sz:=2) (fun _=>rfl) h,ct,e,show(!b||A0 [AV.int .i64 (u.segs.l[j]).width,.int .i64 (u.segs.l[j]).price])=true by cases b<;>rfl,ct,OO (by omega),Ff h]
  show Ae N [.int .i64 (u.segs.l[j]).width,.int .i64 (u.segs.l[j]).price] 2 false true _ _ _ _=_
  refine Cp (l:=[(u.segs.l[j]).width,(u.segs.l[j]).price]) rfl rfl hx (by simp[hs.1,hs.2]) (by simp) hN ?_
  refine(TV hx hN hI m (j+1) fuel _ _ (by omega) (by omega)).trans ?_
  rw[A9o,Bab,Bbt]
  show K _ (((bad||rP u.segs.l[j])||_)||_) _=K _ ((bad||(rP u.segs.l[j]||_))||_) _
  rw[Bau bad];rfl
def sO{c:CaseD}{u:UnitD}{g b bad:Bool}{t:Lu}{K:Nat->Bool->LA->O R}(hx:Ig)(hN:20000000000000<N)(hI:UnitI 20000000000000 u)(d:Kf u.bus c.buses.l.length=true)(e:u.name.length<=16)(s1:(Bw (Ci c) u.bus).length<=16):
  Rl N c.av g u.av b t.length bad (Ay t) K=K (D_ ((Ps (Ci c) u).foldl Dj t)).length (bad||GL u) (Ay (D_ ((Ps (Ci c) u).foldl Dj t))):=by
 have hn:=hI.n
 simp only[A88,A9v,or_false,forall_eq_or_imp,forall_eq]at hn
 obtain⟨n1,n2,_⟩:=hn
 rw[KV];unfold Uo
 have f:∀ F:Ar->O R,Km u.av F=F u.name:=fun F=>rfl
 have j:∀ F:Int->O R,As .i64 (drop 1 u.av) F=F u.bus:=fun F=>rfl
 rw[f,Dn,j,XY d,ct,Apr d]
 refine TT (ws:=[Iy,u.name,Bw (Ci c) u.bus,Af7]) rfl rfl (TU (by simp[e,s1,Iy,Af7])) (by simp) hN ?_
 show Ae N [.int .i64 u.min] 1 false true _ _ _ _=_
 refine Cp (l:=[u.min]) rfl rfl hx (by simp[*]) (by simp) hN ?_
 refine Ej (s:=Ani) (by decide) ?_
 show Ae N [.int .i64 u.max] 1 false true _ _ _ _=_
 refine Cp (l:=[u.max]) rfl rfl hx (by simp[*]) (by simp) hN ?_
 refine Ej (s:=JP) (by decide) ?_
 show Bh 2 (u.segs.av 2 SegD.av::_) _=_
 rw[Cq]
 refine(TV hx hN hI u.segs.l.length 0 N _ _ (by omega) (by have:=hI.s.2;omega)).trans ?_
 rw[A9f]
 have eB:((((bad||Bf [u.min])||Bf [u.max])||u.segs.l.any rP)||pe u)=(bad||GL u):=by unfold GL pe;simp[Bf,Bau]
 rw[eB]
 have eW:Ps (Ci c) u=[Iy,u.name,Bw (Ci c) u.bus,Af7,tx u.min,Ani,tx u.max,JP]++(u.segs.l.flatMap Adt++Ab4 u):=rfl
 rw[eW]
 simp only[Bab,A9u,Ba8,A9a,A9x]
end
end Gx.Ct
namespace Gx.Ct
open Go Go.Proofs Gx.Cf
structure Ready(M:Nat)(c:CaseD):Prop where
 i:CaseI M c
 n:∀ l∈Cz c,∀ s∈l,s.length<=16
 k:Tb c=true
 c:K3 c=true
def Od{l:List Ar}(h:∀ s∈l,s.length<=16)(i:Int):(Bw l i).length<=16:=by
 unfold Bw
 rw[A9e]
 cases d:l[i.toNat]? with
|none=>exact Bcj _
|some s=>exact h s (Bci d)
section
variable{R:Type}{N:Nat}
def A35{α:Type}{e:α->LA}{sz:Nat}(k:∀ a,(e a).length=sz){f:α->Ar}(d:∀ a (r:LA) (F:Ar->O R),Km (e a++r) F=F (f a)){l:List α}{i:Int}(h:Kf i l.length=true){F:Ar->O R}:Km (drop ((Int.toNat i)*sz) (l.flatMap e)) F=F (Bw (l.map f) i):=by
 unfold Kf at h
 simp only[A81,decide_eq_true_eq]at h
 have j:i.toNat<l.length:=by omega
 rw[A3 k _ _ j,d]
 congr 1
 unfold Bw
 rw[A9e,Baw,A84 j];rfl
def A6f{c:CaseD}{i:Int}(h:Kf i c.lines.l.length=true){F:Ar->O R}:Km (drop ((Int.toNat i)*12) (c.lines.l.flatMap LineD.av)) F=F (Bw (D5 c) i):=A35 Cm (fun _ _ _=>rfl) h
def A6g{c:CaseD}{i:Int}(h:Kf i c.units.l.length=true){F:Ar->O R}:Km (drop ((Int.toNat i)*22) (c.units.l.flatMap UnitD.av)) F=F (Bw (Di c) i):=A35 Ft (fun _ _ _=>rfl) h
def Agq{c:CaseD}{o:OutD}{a b:Bool}{K:Nat->Bool->LA->O R}(hx:Ig)(hN:20000000000000<N)(hI:OutI 20000000000000 o)(hU:∀ s∈Di c,s.length<=16)(d:∀ m∈o.moves.l,Kf m.unit c.units.l.length=true):∀(m j fuel:Nat)(t:Lu)(bad:Bool),j+m=o.moves.l.length->m<fuel ->
  Gk N K (o.moves.l.flatMap MoveD.av) o.moves.l.length a b c.av fuel (o.moves.l.length:Int) (j:Int) t.length bad (Ay t) =
   K (D_ (((o.moves.l.drop j).flatMap (NC (Di c))).foldl Dj t)).length (bad||(o.moves.l.drop j).any nG) (Ay (D_ (((o.moves.l.drop j).flatMap (NC (Di c))).foldl Dj t)))
|0,j,fuel+1,t,bad,k,_=>by
  rw[Gk];unfold Ld
  rw[Gu (by omega),cf,show o.moves.l.drop j=[]from Eg (by omega),KX,Bbo,Bcg];rfl
|m+1,j,fuel+1,t,bad,k,n=>by
  rw[Gk];unfold Ld
  have h:j<o.moves.l.length:=by omega
  have q:=hI.m.2
  have f:=hI.m.1 _ (A9c h)
  have hq:=d _ (A9c h)
  have e:take 3 (drop (Int.toNat (j:Int)*3) (o.moves.l.flatMap MoveD.av))=[.int .i64 (o.moves.l[j]).unit,.int .i64 (o.moves.l[j]).up,.int .i64 (o.moves.l[j]).down]:=Fy (e:=MoveD.av) (sz:=3) (fun _=>rfl) h
  rw[F1 h,ct,Ab h,ct,I3 (e:=MoveD.av) (sz:=3) (fun _=>rfl) h,ct,e,show(!a||A0 [AV.int .i64 (o.moves.l[j]).unit,.int .i64 (o.moves.l[j]).up,.int .i64 (o.moves.l[j]).down])=true by cases a<;>rfl,ct,OO (by omega),Ff h]
  rw[show((beq ([AV.int .i64 (o.moves.l[j]).unit,.int .i64 (o.moves.l[j]).up,.int .i64 (o.moves.l[j]).down].length) 3)&&((ble 3 3)&&(!false)))=true from rfl,ct,Mi]
  show cond (Ad (o.moves.l[j]).unit c.units.l.length) _ none=_
  rw[XY hq,ct,A6g hq]
  refine Ej (s:=Bw (Di c) (o.moves.l[j]).unit) (by have:=Od hU (o.moves.l[j]).unit;omega) ?_
  show Ae N [.int .i64 (o.moves.l[j]).up,.int .i64 (o.moves.l[j]).down] 2 false true _ _ _ _=_
  refine Cp (l:=[(o.moves.l[j]).up,(o.moves.l[j]).down]) rfl rfl hx (by simp[f.1,f.2]) (by simp) hN ?_
  refine(Agq hx hN hI hU d m (j+1) fuel _ _ (by omega) (by omega)).trans ?_
  rw[A9o,Bab,Bbt]
  show K _ ((bad||nG o.moves.l[j])||_) _=K _ (bad||(nG o.moves.l[j]||_)) _
  rw[Bau bad];rfl
def Agr{c:CaseD}{o:OutD}{a b bad:Bool}{K:Nat->Bool->LA->O R}(hx:Ig)(hN:20000000000000<N)(hI:OutI 20000000000000 o)(hL:∀ s∈D5 c,s.length<=16)(hU:∀ s∈Di c,s.length<=16)(d:∀ l∈o.lines.l,Kf l c.lines.l.length=true)(e:∀ m∈o.moves.l,Kf m.unit c.units.l.length=true):∀(m j fuel:Nat)(t:Lu),j+m=o.lines.l.length->m<fuel ->
  Er N K (Av o.lines.l) o.lines.l.length a bad b c.av o.av fuel (o.lines.l.length:Int) (j:Int) t.length (Ay t) =
   K (D_ (((o.lines.l.drop j).map (Bw (D5 c))++(cond o.corr [Cr] []++o.moves.l.flatMap (NC (Di c)))).foldl Dj t)).length (bad||DZ o) (Ay (D_ (((o.lines.l.drop j).map (Bw (D5 c))++(cond o.corr [Cr] []++o.moves.l.flatMap (NC (Di c)))).foldl Dj t)))
| 0,j,fuel+1,t,f,_=>by
  rw[Er];unfold Le
  rw[Gu (by omega),cf,show o.lines.l.drop j=[]from Eg (by omega)]
  have tail:∀ T:Lu,L5 N K bad b c.av a o.av T.length (Ay T)=K (D_ ((o.moves.l.flatMap (NC (Di c))).foldl Dj T)).length (bad||DZ o) (Ay (D_ ((o.moves.l.flatMap (NC (Di c))).foldl Dj T))):=fun T=>by
   unfold L5 Rm
   show Bh 3 (o.moves.av 3 MoveD.av::_) _=_
   rw[Cq]
   have:=Agq (K:=K) (a:=a) (b:=b) hx hN hI hU e o.moves.l.length 0 N T bad (by omega) (by have:=hI.m.2;omega)
   rw[A9f]at this
   exact this
  show cond o.corr _ _=_
  cases o.corr with
  |true =>
   rw[ct]
   refine Ej (s:=Cr) (by decide) ?_
   exact(tail _).trans rfl
  |false=>exact(tail t).trans rfl
|m+1,j,fuel+1,t,f,n=>by
  rw[Er];unfold Le
  have h:j<o.lines.l.length:=by omega
  have k:=hI.l
  have hq:=d _ (A9c h)
  rw[F1 h,ct,Ab h,ct,Xx h,F9,XY hq,ct,A6f hq]
  refine Ej (s:=Bw (D5 c) o.lines.l[j]) (by have:=Od hL o.lines.l[j];omega) ?_
  rw[OO (by omega)]
  refine(Agr hx hN hI hL hU d e m (j+1) fuel _ (by omega) (by omega)).trans ?_
  rw[Ff h,A9a];rfl
def A0j{c:CaseD}{o:OutD}{g b bad:Bool}{t:Lu}{K:Nat->Bool->LA->O R}(hx:Ig)(hN:20000000000000<N)(hI:OutI 20000000000000 o)(hL:∀ s∈D5 c,s.length<=16)(hU:∀ s∈Di c,s.length<=16)(d:∀ l∈o.lines.l,Kf l c.lines.l.length=true)(e:∀ m∈o.moves.l,Kf m.unit c.units.l.length=true)(f:o.name.length<=16):
  Mn N c.av g o.av b t.length bad (Ay t) K=K (D_ ((U3 (D5 c) (Di c) o).foldl Dj t)).length (bad||DZ o) (Ay (D_ ((U3 (D5 c) (Di c) o).foldl Dj t))):=by
 rw[C'];unfold P0
 show Cn N [.str Dc,.str o.name,.str NB] 3 false true _ _ _ _=_
 refine TT (ws:=[Dc,o.name,NB]) rfl rfl (TU (by simp[f,Dc,NB])) (by simp) hN ?_
 show Bh 1 (o.lines.av 1 O9::_) _=_
 rw[Cq,By]
 have:=Agr (K:=K) (a:=b) (b:=g) (bad:=bad) hx hN hI hL hU d e o.lines.l.length 0 N ([Dc,o.name,NB].foldl Dj t) (by omega) (by have:=hI.l;omega)
 rw[A9f]at this
 refine this.trans ?_
 unfold U3
 rw[Bab (l:=[Dc,o.name,NB])]
end
end Gx.Ct
namespace Gx.Ct
open Go Go.Proofs Gx.Cf
def Ready.bn{M:Nat}{c:CaseD}(h:Ready M c):∀ s∈Ci c,s.length<=16:=h.n _ (by simp[Cz])
def Ready.ln{M:Nat}{c:CaseD}(h:Ready M c):∀ s∈D5 c,s.length<=16:=h.n _ (by simp[Cz])
def Ready.un{M:Nat}{c:CaseD}(h:Ready M c):∀ s∈Di c,s.length<=16:=h.n _ (by simp[Cz])
def Ready.sn{M:Nat}{c:CaseD}(h:Ready M c):∀ s∈Y0 c,s.length<=16:=h.n _ (by simp[Cz])
def Ready.tn{M:Nat}{c:CaseD}(h:Ready M c):∀ s∈rM c,s.length<=16:=h.n _ (by simp[Cz])
def Ready.on{M:Nat}{c:CaseD}(h:Ready M c):∀ s∈rN c,s.length<=16:=h.n _ (by simp[Cz])
def Ready.cnt{M:Nat}{c:CaseD}(h:Ready M c):c.buses.l.length<=32/\c.lines.l.length<=64/\c.units.l.length<=16/\c.stores.l.length<=8/\c.ties.l.length<=8/\c.outs.l.length<=64:=by
 have:=h.c
 unfold K3 at this
 simpa only[A81,decide_eq_true_eq]using this
def Ready.kn{M:Nat}{c:CaseD}(h:Ready M c):(∀ l∈c.lines.l,Kf l.fr c.buses.l.length=true/\Kf l.tl c.buses.l.length=true)/\(∀ u∈c.units.l,Kf u.bus c.buses.l.length=true)/\(∀ s∈c.stores.l,Kf s.bus c.buses.l.length=true)/\(∀ t∈c.ties.l,Kf t.bus c.buses.l.length=true)/\∀ o∈c.outs.l,(∀ l∈o.lines.l,Kf l c.lines.l.length=true)/\∀ m∈o.moves.l,Kf m.unit c.units.l.length=true:=by
 have d:=h.k
 unfold Tb at d
 simp only[A81,A9b]at d
 exact⟨d.1,fun u e=>(d.2.1 u e).1,d.2.2.1,d.2.2.2.1,d.2.2.2.2⟩
def V1(t:Lu)(ws:List Ar)(r:List (List Ar)):Js t (ws::r)=Js (D_ (ws.foldl Dj t)) r:=rfl
section
variable{R:Type}{N:Nat}{c:CaseD}{a:Bool}{K:Nat->Bool->LA->O R}
def Ab5(hx:Ig)(hN:20000000000000<N)(h:Ready 20000000000000 c):∀(m j fuel:Nat)(t:Lu)(bad:Bool),j+m=c.outs.l.length->m<fuel ->
  G9 N K (c.outs.l.flatMap OutD.av) c.outs.l.length a c.av fuel (c.outs.l.length:Int) (j:Int) t.length bad (Ay t) =
   K (Js t ((c.outs.l.drop j).map (U3 (D5 c) (Di c)))).length (bad||((c.outs.l.drop j).any DZ)) (Ay (Js t ((c.outs.l.drop j).map (U3 (D5 c) (Di c)))))
|0,j,fuel+1,t,bad,k,_=>by
  rw[G9];unfold L6
  have n:=h.cnt
  rw[Gu (by omega),cf,show c.outs.l.drop j=[]from Eg (by omega),A9x,Bbo]
  show K _ _ _=K _ (bad||false) _
  rw[Bcg];rfl
|m+1,j,fuel+1,t,bad,k,s=>by
  rw[G9];unfold L6
  have d:j<c.outs.l.length:=by omega
  have n:=h.cnt
  have f:(c.outs.l[j])∈c.outs.l:=A9c d
  rw[F1 d,ct,Ab d,ct,I3 (e:=OutD.av) (sz:=4) (fun _=>rfl) d,ct,Fy (e:=OutD.av) (sz:=4) (fun _=>rfl) d,show((beq 0 0)&&((beq ((OutD.av c.outs.l[j]).length) 4)&&(beq 4 4)))=true from rfl,ct]
  have q:=fun t bad=>Ab5 hx hN h m (j+1) fuel t bad (by omega) (by omega)
  rw[Ff d,A9a,Bbt,V1]
  rw[Ik,ct,show ble 4 (OutD.av c.outs.l[j]).length=true from rfl,ct,D2,show take 4 (OutD.av c.outs.l[j])=OutD.av c.outs.l[j]from rfl,A0j hx hN (h.i.o _ f) h.ln h.un (h.kn.2.2.2.2 _ f).1 (h.kn.2.2.2.2 _ f).2 (h.on _ (A9p.2 ⟨_,f,rfl⟩)),OO (by omega)]
  refine(q _ _).trans ?_
  rw[Bau]
def Ab6(hx:Ig)(hN:20000000000000<N)(h:Ready 20000000000000 c):∀(m j fuel:Nat)(t:Lu)(bad:Bool),j+m=c.ties.l.length->m<fuel ->
  Ha N K (c.ties.l.flatMap TieD.av) c.ties.l.length a c.av fuel (c.ties.l.length:Int) (j:Int) t.length bad (Ay t) =
   K (Js t ((c.ties.l.drop j).map (GK (Ci c))++(c.outs.l.map (U3 (D5 c) (Di c))))).length (bad||((c.ties.l.drop j).any PY||(c.outs.l.any DZ))) (Ay (Js t ((c.ties.l.drop j).map (GK (Ci c))++(c.outs.l.map (U3 (D5 c) (Di c))))))
|0,j,fuel+1,t,bad,n,_=>by
  rw[Ha];unfold L7
  have q:=h.cnt
  rw[Gu (by omega),cf,show c.ties.l.drop j=[]from Eg (by omega),A9x,Bbo]
  rw[Pp]
  refine(Ab5 (a:=a) hx hN h c.outs.l.length 0 N t bad (by omega) (by omega)).trans ?_
  rw[A9f,Bah];rfl
|m+1,j,fuel+1,t,bad,n,x=>by
  rw[Ha];unfold L7
  have d:j<c.ties.l.length:=by omega
  have q:=h.cnt
  have f:(c.ties.l[j])∈c.ties.l:=A9c d
  rw[F1 d,ct,Ab d,ct,I3 (e:=TieD.av) (sz:=5) (fun _=>rfl) d,ct,Fy (e:=TieD.av) (sz:=5) (fun _=>rfl) d,show((beq 0 0)&&((beq ((TieD.av c.ties.l[j]).length) 5)&&(beq 5 5)))=true from rfl,ct]
  have u:=fun t bad=>Ab6 hx hN h m (j+1) fuel t bad (by omega) (by omega)
  rw[Ff d,A9a,Bbt,A9k,V1]
  have hI:=h.i.t _ f
  have k:=h.kn.2.2.2.1 _ f
  have v:(c.ties.l[j]).name.length<=16:=h.tn _ (A9p.2 ⟨_,f,rfl⟩)
  have s1:=Od h.bn (c.ties.l[j]).bus
  rw[show ∀ F:Ar->O R,Km (c.ties.l[j]).av F=F (c.ties.l[j]).name from fun _=>rfl,Dn]
  show cond (Ad (c.ties.l[j]).bus c.buses.l.length) _ none=_
  rw[XY k,ct,Apr k]
  refine TT (ws:=[Pr,(c.ties.l[j]).name,Bw (Ci c) (c.ties.l[j]).bus,SC]) rfl rfl (TU (by simp[v,s1,Pr,SC])) (by simp) hN ?_
  show Bh 1 ((c.ties.l[j]).imp.av 1 O9::_) _=_
  rw[Cq,By]
  refine Cp rfl rfl hx hI.i.1 hI.i.2 hN ?_
  refine Ej (s:=dA) (by decide) ?_
  show Bh 1 ((c.ties.l[j]).exp.av 1 O9::_) _=_
  rw[Cq,By]
  refine Cp rfl rfl hx hI.e.1 hI.e.2 hN ?_
  refine Ej (s:=nE) (by decide) ?_
  show Bh 1 ((c.ties.l[j]).price.av 1 O9::_) _=_
  rw[Cq,By]
  refine Cp rfl rfl hx hI.p.1 hI.p.2 hN ?_
  rw[KX,OO (by omega)]
  refine(u _ _).trans ?_
  have eW:GK (Ci c) c.ties.l[j]=[Pr,(c.ties.l[j]).name,Bw (Ci c) (c.ties.l[j]).bus,SC]++((c.ties.l[j]).imp.l.map tx++(dA::((c.ties.l[j]).exp.l.map tx++(nE::(c.ties.l[j]).price.l.map tx)))):=rfl
  have eB:(((bad||Bf (c.ties.l[j]).imp.l)||Bf (c.ties.l[j]).exp.l)||Bf (c.ties.l[j]).price.l)=(bad||PY c.ties.l[j]):=by unfold PY;simp[Bau]
  rw[eB,eW]
  simp only[Bab,A9u,Ba8,Bau]
def pf(hx:Ig)(hN:20000000000000<N)(h:Ready 20000000000000 c):∀(m j fuel:Nat)(t:Lu)(bad:Bool),j+m=c.stores.l.length->m<fuel ->
  Hb N K (c.stores.l.flatMap StoreD.av) c.stores.l.length a c.av fuel (c.stores.l.length:Int) (j:Int) t.length bad (Ay t) =
   K (Js t ((c.stores.l.drop j).map (Kk (Ci c))++(c.ties.l.map (GK (Ci c))++(c.outs.l.map (U3 (D5 c) (Di c)))))).length (bad||((c.stores.l.drop j).any Wq||(c.ties.l.any PY||(c.outs.l.any DZ)))) (Ay (Js t ((c.stores.l.drop j).map (Kk (Ci c))++(c.ties.l.map (GK (Ci c))++(c.outs.l.map (U3 (D5 c) (Di c)))))))
|0,j,fuel+1,t,bad,q,_=>by
  rw[Hb];unfold L8
  have u:=h.cnt
  rw[Gu (by omega),cf,show c.stores.l.drop j=[]from Eg (by omega),A9x,Bbo]
  rw[Wo]
  refine(Ab6 (a:=a) hx hN h c.ties.l.length 0 N t bad (by omega) (by omega)).trans ?_
  rw[A9f,Bah];rfl
|m+1,j,fuel+1,t,bad,q,y=>by
  rw[Hb];unfold L8
  have d:j<c.stores.l.length:=by omega
  have u:=h.cnt
  have f:(c.stores.l[j])∈c.stores.l:=A9c d
  rw[F1 d,ct,Ab d,ct,I3 (e:=StoreD.av) (sz:=9) (fun _=>rfl) d,ct,Fy (e:=StoreD.av) (sz:=9) (fun _=>rfl) d,show((beq 0 0)&&((beq ((StoreD.av c.stores.l[j]).length) 9)&&(beq 9 9)))=true from rfl,ct]
  have v:=fun t bad=>pf hx hN h m (j+1) fuel t bad (by omega) (by omega)
  rw[Ff d,A9a,Bbt,A9k,V1]
  have hn:=(h.i.s _ f).n
  simp only[A88,A9v,or_false,forall_eq_or_imp,forall_eq]at hn
  obtain⟨n1,n2,n3,n4,n5,n6,n7⟩:=hn
  have k:=h.kn.2.2.1 _ f
  have x:(c.stores.l[j]).name.length<=16:=h.sn _ (A9p.2 ⟨_,f,rfl⟩)
  have s1:=Od h.bn (c.stores.l[j]).bus
  rw[show ∀ F:Ar->O R,Km (c.stores.l[j]).av F=F (c.stores.l[j]).name from fun _=>rfl,Dn]
  show cond (Ad (c.stores.l[j]).bus c.buses.l.length) _ none=_
  rw[XY k,ct,Apr k]
  refine TT (ws:=[Ga,(c.stores.l[j]).name,Bw (Ci c) (c.stores.l[j]).bus,JQ]) rfl rfl (TU (by simp[x,s1,Ga,JQ])) (by simp) hN ?_
  show Ae N [.int .i64 (c.stores.l[j]).capacity] 1 false true _ _ _ _=_
  refine Cp (l:=[(c.stores.l[j]).capacity]) rfl rfl hx (by simp[*]) (by simp) hN ?_
  refine Ej (s:=xB) (by decide) ?_
  show Ae N [.int .i64 (c.stores.l[j]).initial,.int .i64 (c.stores.l[j]).final] 2 false true _ _ _ _=_
  refine Cp (l:=[(c.stores.l[j]).initial,(c.stores.l[j]).final]) rfl rfl hx (by simp[*]) (by simp) hN ?_
  refine Ej (s:=Ai6) (by decide) ?_
  show Ae N [.int .i64 (c.stores.l[j]).charge,.int .i64 (c.stores.l[j]).discharge] 2 false true _ _ _ _=_
  refine Cp (l:=[(c.stores.l[j]).charge,(c.stores.l[j]).discharge]) rfl rfl hx (by simp[*]) (by simp) hN ?_
  refine Ej (s:=GJ) (by decide) ?_
  show cond true (cond (!a||A0 [AV.int .i64 (c.stores.l[j]).eff.num,.int .i64 (c.stores.l[j]).eff.den]) (Cc N [.int .i64 (c.stores.l[j]).eff.num,.int .i64 (c.stores.l[j]).eff.den] false _ _ _ _) none) none=_
  rw[ct,show(!a||A0 [AV.int .i64 (c.stores.l[j]).eff.num,.int .i64 (c.stores.l[j]).eff.den])=true by cases a<;>rfl,ct,gz hx n6 n7,KX,OO (by omega)]
  refine(v _ _).trans ?_
  have eB:((((bad||Bf [(c.stores.l[j]).capacity])||Bf [(c.stores.l[j]).initial,(c.stores.l[j]).final])||Bf [(c.stores.l[j]).charge,(c.stores.l[j]).discharge])||Pu (c.stores.l[j]).eff)=(bad||Wq c.stores.l[j]):=by unfold Wq;simp[Bf,Bau]
  rw[eB]
  simp only[Kk,Bab,A9u,Ba8,A9a,A9x,Bau]
def u7(hx:Ig)(hN:20000000000000<N)(h:Ready 20000000000000 c):∀(m j fuel:Nat)(t:Lu)(bad:Bool),j+m=c.units.l.length->m<fuel ->
  Hc N K (c.units.l.flatMap UnitD.av) c.units.l.length a c.av fuel (c.units.l.length:Int) (j:Int) t.length bad (Ay t) =
   K (Js t ((c.units.l.drop j).map (Ps (Ci c))++(c.stores.l.map (Kk (Ci c))++(c.ties.l.map (GK (Ci c))++(c.outs.l.map (U3 (D5 c) (Di c))))))).length (bad||((c.units.l.drop j).any GL||(c.stores.l.any Wq||(c.ties.l.any PY||(c.outs.l.any DZ))))) (Ay (Js t ((c.units.l.drop j).map (Ps (Ci c))++(c.stores.l.map (Kk (Ci c))++(c.ties.l.map (GK (Ci c))++(c.outs.l.map (U3 (D5 c) (Di c))))))))
|0,j,fuel+1,t,bad,k,_=>by
  rw[Hc];unfold L9
  have n:=h.cnt
  rw[Gu (by omega),cf,show c.units.l.drop j=[]from Eg (by omega),A9x,Bbo]
  rw[O7]
  refine(pf (a:=a) hx hN h c.stores.l.length 0 N t bad (by omega) (by omega)).trans ?_
  rw[A9f,Bah];rfl
|m+1,j,fuel+1,t,bad,k,s=>by
  rw[Hc];unfold L9
  have d:j<c.units.l.length:=by omega
  have n:=h.cnt
  have f:(c.units.l[j])∈c.units.l:=A9c d
  rw[F1 d,ct,Ab d,ct,I3 (e:=UnitD.av) (sz:=22) (fun _=>rfl) d,ct,Fy (e:=UnitD.av) (sz:=22) (fun _=>rfl) d,show((beq 0 0)&&((beq ((UnitD.av c.units.l[j]).length) 22)&&(beq 22 22)))=true from rfl,ct]
  have q:=fun t bad=>u7 hx hN h m (j+1) fuel t bad (by omega) (by omega)
  rw[Ff d,A9a,Bbt,A9k,V1]
  rw[Ik,ct,show ble 22 (UnitD.av c.units.l[j]).length=true from rfl,ct,D2,show take 22 (UnitD.av c.units.l[j])=UnitD.av c.units.l[j]from rfl,sO hx hN (h.i.u _ f) (h.kn.2.1 _ f) (h.un _ (A9p.2 ⟨_,f,rfl⟩)) (Od h.bn _),OO (by omega)]
  refine(q _ _).trans ?_
  simp only[Bau]
def u9(hx:Ig)(hN:20000000000000<N)(h:Ready 20000000000000 c):∀(m j fuel:Nat)(t:Lu)(bad:Bool),j+m=c.lines.l.length->m<fuel ->
  Hd N K (c.lines.l.flatMap LineD.av) c.lines.l.length a c.av fuel (c.lines.l.length:Int) (j:Int) t.length bad (Ay t) =
   K (Js t ((c.lines.l.drop j).map (Vp (Ci c))++(c.units.l.map (Ps (Ci c))++(c.stores.l.map (Kk (Ci c))++(c.ties.l.map (GK (Ci c))++(c.outs.l.map (U3 (D5 c) (Di c)))))))).length (bad||((c.lines.l.drop j).any ND||(c.units.l.any GL||(c.stores.l.any Wq||(c.ties.l.any PY||(c.outs.l.any DZ)))))) (Ay (Js t ((c.lines.l.drop j).map (Vp (Ci c))++(c.units.l.map (Ps (Ci c))++(c.stores.l.map (Kk (Ci c))++(c.ties.l.map (GK (Ci c))++(c.outs.l.map (U3 (D5 c) (Di c)))))))))
|0,j,fuel+1,t,bad,k,_=>by
  rw[Hd];unfold Ma
  have n:=h.cnt
  rw[Gu (by omega),cf,show c.lines.l.drop j=[]from Eg (by omega),A9x,Bbo]
  rw[Mi]
  refine(u7 (a:=a) hx hN h c.units.l.length 0 N t bad (by omega) (by omega)).trans ?_
  rw[A9f,Bah];rfl
|m+1,j,fuel+1,t,bad,k,s=>by
  rw[Hd];unfold Ma
  have d:j<c.lines.l.length:=by omega
  have n:=h.cnt
  have f:(c.lines.l[j])∈c.lines.l:=A9c d
  rw[F1 d,ct,Ab d,ct,I3 (e:=LineD.av) (sz:=12) (fun _=>rfl) d,ct,Fy (e:=LineD.av) (sz:=12) (fun _=>rfl) d,show((beq 0 0)&&((beq ((LineD.av c.lines.l[j]).length) 12)&&(beq 12 12)))=true from rfl,ct]
  have q:=fun t bad=>u9 hx hN h m (j+1) fuel t bad (by omega) (by omega)
  rw[Ff d,A9a,Bbt,A9k,V1]
  rw[Ik,ct,show ble 12 (LineD.av c.lines.l[j]).length=true from rfl,ct,D2,show take 12 (LineD.av c.lines.l[j])=LineD.av c.lines.l[j]from rfl,hE hx hN (h.i.l _ f) (h.kn.1 _ f).1 (h.kn.1 _ f).2 (h.ln _ (A9p.2 ⟨_,f,rfl⟩)) (Od h.bn _) (Od h.bn _),OO (by omega)]
  refine(q _ _).trans ?_
  simp only[Bau]
def u_(hx:Ig)(hN:20000000000000<N)(h:Ready 20000000000000 c):∀(m j fuel:Nat)(t:Lu)(bad:Bool),j+m=c.buses.l.length->m<fuel ->
  Fm N K (c.buses.l.flatMap BusD.av) c.buses.l.length a c.av fuel (c.buses.l.length:Int) (j:Int) t.length bad (Ay t) =
   K (Js t ((c.buses.l.drop j).map nF++(c.lines.l.map (Vp (Ci c))++(c.units.l.map (Ps (Ci c))++(c.stores.l.map (Kk (Ci c))++(c.ties.l.map (GK (Ci c))++(c.outs.l.map (U3 (D5 c) (Di c))))))))).length (bad||((c.buses.l.drop j).any rO||(c.lines.l.any ND||(c.units.l.any GL||(c.stores.l.any Wq||(c.ties.l.any PY||(c.outs.l.any DZ))))))) (Ay (Js t ((c.buses.l.drop j).map nF++(c.lines.l.map (Vp (Ci c))++(c.units.l.map (Ps (Ci c))++(c.stores.l.map (Kk (Ci c))++(c.ties.l.map (GK (Ci c))++(c.outs.l.map (U3 (D5 c) (Di c))))))))))
|0,j,fuel+1,t,bad,n,_=>by
  rw[Fm];unfold Mb
  have q:=h.cnt
  rw[Gu (by omega),cf,show c.buses.l.drop j=[]from Eg (by omega),A9x,Bbo]
  rw[F9]
  refine(u9 (a:=a) hx hN h c.lines.l.length 0 N t bad (by omega) (by omega)).trans ?_
  rw[A9f,Bah];rfl
|m+1,j,fuel+1,t,bad,n,x=>by
  rw[Fm];unfold Mb
  have f:j<c.buses.l.length:=by omega
  have q:=h.cnt
  have k:(c.buses.l[j])∈c.buses.l:=A9c f
  rw[F1 f,ct,Ab f,ct,I3 (e:=BusD.av) (sz:=3) (fun _=>rfl) f,ct,Fy (e:=BusD.av) (sz:=3) (fun _=>rfl) f,show((beq 0 0)&&((beq ((BusD.av c.buses.l[j]).length) 3)&&(beq 3 3)))=true from rfl,ct]
  have u:=fun t bad=>u_ hx hN h m (j+1) fuel t bad (by omega) (by omega)
  rw[Ff f,A9a,Bbt,A9k,V1]
  have hI:=h.i.b _ k
  have v:(c.buses.l[j]).name.length<=16:=h.bn _ (A9p.2 ⟨_,k,rfl⟩)
  show Cn N [.str Pq,.str (c.buses.l[j]).name,.str SB] 3 false true _ _ _ _=_
  refine TT (ws:=[Pq,(c.buses.l[j]).name,SB]) rfl rfl (TU (by simp[v,Pq,SB])) (by simp) hN ?_
  show Bh 1 ((c.buses.l[j]).demand.av 1 O9::_) _=_
  rw[Cq,By]
  refine Cp rfl rfl hx hI.d.1 hI.d.2 hN ?_
  refine Ej (s:=Ai5) (by decide) ?_
  show Ae N [.int .i64 (c.buses.l[j]).shed] 1 false true _ _ _ _=_
  refine Cp (l:=[(c.buses.l[j]).shed]) rfl rfl hx (by simp[hI.s]) (by simp) hN ?_
  rw[KX,OO (by omega)]
  refine(u _ _).trans ?_
  have eB:((bad||Bf (c.buses.l[j]).demand.l)||Bf [(c.buses.l[j]).shed])=(bad||rO c.buses.l[j]):=by unfold rO;simp[Bf,Bau]
  rw[eB]
  simp only[nF,Bab,A9u,Ba8,A9a,A9x,Bau]
def Atq(hx:Ig)(hN:20000000000000<N)(h:Ready 20000000000000 c):Kq N c.av a false K=K (Js [] (CH c)).length (Sa c) (Ay (Js [] (CH c))):=by
 rw[FM];unfold Sm
 rw[KQ];unfold EG
 have d:SD [] Do=Do:=rfl
 have e:=h.cnt
 show As .i64 c.av _=_
 rw[Ky]
 refine Cp (t:=Do) (l:=[c.hours]) rfl rfl hx (by simp[h.i.h]) (by simp) hN ?_
 refine Ej (s:=If) (by decide) ?_
 rw[lA]
 refine Cp rfl rfl hx h.i.r.1 h.i.r.2 hN ?_
 rw[KX,Dn]
 refine(u_ (a:=a) hx hN h c.buses.l.length 0 N _ _ (by omega) (by omega)).trans ?_
 rw[A9f]
 have eB:((false||Bf [c.hours])||Bf c.reserve.l)=(DY c.hours||Bf c.reserve.l):=by simp[Bf]
 have e1:Dj [] Do=Do:=by unfold Dj;rw[if_neg (by decide)];rfl
 have eW:Js [] (CH c)=Js (D_ ((Af8 c).foldl Dj [])) (c.buses.l.map nF++(c.lines.l.map (Vp (Ci c))++(c.units.l.map (Ps (Ci c))++(c.stores.l.map (Kk (Ci c))++(c.ties.l.map (GK (Ci c))++c.outs.l.map (U3 (D5 c) (Di c))))))):=rfl
 rw[eB,eW]
 simp only[Af8,Bab,A9u,Ba8,A9a,A9x,e1]
 unfold Sa
 simp only[Bau]
end
end Gx.Ct
namespace Gx.Ct
open Go Go.Proofs Gx.Cf
def jD(c:CaseD)(o:OutD):Bool:=o.lines.l.all (fun l=>Kf l c.lines.l.length)&&o.moves.l.all (fun m=>Kf m.unit c.units.l.length)
section
variable{R:Type}{N:Nat}{c:CaseD}{b:Bool}{K:Bool->O R}
def LO{i:Int}{n:Nat}{ok:Bool}{F:Bool->O R}:Hx N i (n:Int) ok F=F (ok&&Kf i n):=by
 rw[TC];unfold QJ Kf
 cases ok with
|false=>rfl
|true =>
  show cond (decide (0<=i)==true) (F (decide (i<(n:Int)))) (F false)=_
  cases decide (0<=i)<;>rfl
def ua{o:OutD}{d:Int->Int->Bool->O R}{C:LA}{D:Nat}{f ac:Int}(k:o.moves.l.length<=20000000000000):∀(m j fuel:Nat)(ok:Bool),j+m=o.moves.l.length->m<fuel ->
  Vx N d K C D b f (o.moves.l.flatMap MoveD.av) o.moves.l.length c.av fuel ac (o.moves.l.length:Int) (j:Int) ok=d f (wrap .i64 (ac+1)) (ok&&(o.moves.l.drop j).all fun m=>Kf m.unit c.units.l.length)
|0,j,fuel+1,ok,n,_=>by
  rw[Vx];unfold HU
  rw[Gu (by omega),cf,Eg (by omega),A9z,A91]
| m+1,j,fuel+1,ok,n,q=>by
  rw[Vx];unfold HU
  have h:j<o.moves.l.length:=by omega
  have e:take 3 (drop (Int.toNat (j:Int)*3) (o.moves.l.flatMap MoveD.av))=[.int .i64 (o.moves.l[j]).unit,.int .i64 (o.moves.l[j]).up,.int .i64 (o.moves.l[j]).down]:=Fy (e:=MoveD.av) (sz:=3) (fun _=>rfl) h
  rw[F1 h,ct,Ab h,ct,I3 (e:=MoveD.av) (sz:=3) (fun _=>rfl) h,ct,e,show(!b||A0 [AV.int .i64 (o.moves.l[j]).unit,.int .i64 (o.moves.l[j]).up,.int .i64 (o.moves.l[j]).down])=true by cases b<;>rfl,ct,OO (by omega),Ff h,
   show((beq ([AV.int .i64 (o.moves.l[j]).unit,.int .i64 (o.moves.l[j]).up,.int .i64 (o.moves.l[j]).down].length) 3)&&((ble 3 3)&&(!false)))=true from rfl,ct]
  rw[show ∀ F:Int->O R,As .i64 (setCells [Bfg,Bfg,Bfg] 0 [AV.int .i64 (o.moves.l[j]).unit,.int .i64 (o.moves.l[j]).up,.int .i64 (o.moves.l[j]).down]) F=F (o.moves.l[j]).unit from fun _=>rfl,Mi,LO]
  refine(ua k m (j+1) fuel _ (by omega) (by omega)).trans ?_
  rw[A9i,Baq]
def Ags{o:OutD}{d:Int->Int->Bool->O R}{C:LA}{D:Nat}{f ac:Int}(hN:20000000000000<N)(e:o.moves.l.length<=20000000000000)(k:o.lines.l.length<=20000000000000):∀(m j fuel:Nat)(ok:Bool),j+m=o.lines.l.length->m<fuel ->
  Ri N d K C D b f (Av o.lines.l) o.lines.l.length c.av fuel ac (o.lines.l.length:Int) (j:Int) ok o.av=d f (wrap .i64 (ac+1)) (ok&&((o.lines.l.drop j).all (fun l=>Kf l c.lines.l.length)&&o.moves.l.all fun m=>Kf m.unit c.units.l.length))
|0,j,fuel+1,ok,n,_=>by
  rw[Ri];unfold HV
  rw[Gu (by omega),cf,show o.lines.l.drop j=[]from Eg (by omega),A9z]
  show Bh 3 (o.moves.av 3 MoveD.av::_) _=_
  rw[Cq]
  refine(ua e o.moves.l.length 0 N ok (by omega) (by omega)).trans ?_
  rw[A9f,Bav]
|m+1,j,fuel+1,ok,n,q=>by
  rw[Ri];unfold HV
  have h:j<o.lines.l.length:=by omega
  rw[F1 h,ct,Ab h,ct,Xx h,F9,LO,OO (by omega)]
  refine(Ags hN e k m (j+1) fuel _ (by omega) (by omega)).trans ?_
  rw[Ff h,A9i]
  simp only[Baq]
def Ab7(hN:20000000000000<N)(f:c.outs.l.length<=1000)(hI:∀ o∈c.outs.l,OutI 20000000000000 o):∀(m j fuel:Nat)(ok:Bool),j+m=c.outs.l.length->m<fuel ->
  Lb N K (c.outs.l.flatMap OutD.av) c.outs.l.length b c.av fuel (c.outs.l.length:Int) (j:Int) ok=K (ok&&(c.outs.l.drop j).all (jD c))
|0,j,fuel+1,ok,k,_=>by
  rw[Lb];unfold HW
  rw[Gu (by omega),cf,Eg (by omega),A9z,A91]
|m+1,j,fuel+1,ok,k,n=>by
  rw[Lb];unfold HW
  have h:j<c.outs.l.length:=by omega
  have d:=hI _ (A9c h)
  rw[F1 h,ct,Ab h,ct,I3 (e:=OutD.av) (sz:=4) (fun _=>rfl) h,ct,Fy (e:=OutD.av) (sz:=4) (fun _=>rfl) h,show((beq 0 0)&&((beq ((OutD.av c.outs.l[j]).length) 4)&&(beq 4 4)))=true from rfl,ct]
  show Bh 1 ((c.outs.l[j]).lines.av 1 O9::_) _=_
  rw[Cq,By]
  refine(Ags hN d.m.2 d.l (c.outs.l[j]).lines.l.length 0 N ok (by omega) (by have:=d.l;omega)).trans ?_
  rw[OO (by omega),A9f]
  refine(Ab7 hN f hI m (j+1) fuel _ (by omega) (by omega)).trans ?_
  rw[Ff h,A9i]
  unfold jD
  simp only[Baq]
def Ab8(hN:20000000000000<N)(d:c.ties.l.length<=1000)(hr:∀(ok:Bool)(fuel:Nat),1000<fuel->Lb N K (c.outs.l.flatMap OutD.av) c.outs.l.length b c.av fuel (c.outs.l.length:Int) 0 ok=K (ok&&c.outs.l.all (jD c))):∀(m j fuel:Nat)(ok:Bool),j+m=c.ties.l.length->m<fuel ->
  My N K (c.ties.l.flatMap TieD.av) c.ties.l.length b c.av fuel (c.ties.l.length:Int) (j:Int) ok=K (ok&&((c.ties.l.drop j).all (fun t=>Kf t.bus c.buses.l.length)&&c.outs.l.all (jD c)))
|0,j,fuel+1,ok,f,_=>by
  rw[My];unfold HX
  rw[Gu (by omega),cf,show c.ties.l.drop j=[]from Eg (by omega),A9z,Pp,Bav]
  exact hr ok N (by omega)
|m+1,j,fuel+1,ok,f,n=>by
  rw[My];unfold HX
  have h:j<c.ties.l.length:=by omega
  have k:=fun ok=>Ab8 hN d hr m (j+1) fuel ok (by omega) (by omega)
  rw[F1 h,ct,Ab h,ct,I3 (e:=TieD.av) (sz:=5) (fun _=>rfl) h,ct,Fy (e:=TieD.av) (sz:=5) (fun _=>rfl) h,show((beq 0 0)&&((beq ((TieD.av c.ties.l[j]).length) 5)&&(beq 5 5)))=true from rfl,ct,OO (by omega),Ff h,A9i]
  rw[show ∀ F:Int->O R,As .i64 (drop 1 (c.ties.l[j]).av) F=F (c.ties.l[j]).bus from fun _=>rfl,Dn,LO]
  refine(k _).trans ?_
  simp only[Baq]
def pg(hN:20000000000000<N)(d:c.stores.l.length<=1000)(hr:∀(ok:Bool)(fuel:Nat),1000<fuel->My N K (c.ties.l.flatMap TieD.av) c.ties.l.length b c.av fuel (c.ties.l.length:Int) 0 ok=K (ok&&(c.ties.l.all (fun t=>Kf t.bus c.buses.l.length)&&c.outs.l.all (jD c)))):∀(m j fuel:Nat)(ok:Bool),j+m=c.stores.l.length->m<fuel ->
  Mz N K (c.stores.l.flatMap StoreD.av) c.stores.l.length b c.av fuel (c.stores.l.length:Int) (j:Int) ok=K (ok&&((c.stores.l.drop j).all (fun s=>Kf s.bus c.buses.l.length)&&(c.ties.l.all (fun t=>Kf t.bus c.buses.l.length)&&c.outs.l.all (jD c))))
|0,j,fuel+1,ok,f,_=>by
  rw[Mz];unfold HY
  rw[Gu (by omega),cf,show c.stores.l.drop j=[]from Eg (by omega),A9z,Wo,Bav]
  exact hr ok N (by omega)
|m+1,j,fuel+1,ok,f,n=>by
  rw[Mz];unfold HY
  have h:j<c.stores.l.length:=by omega
  have k:=fun ok=>pg hN d hr m (j+1) fuel ok (by omega) (by omega)
  rw[F1 h,ct,Ab h,ct,I3 (e:=StoreD.av) (sz:=9) (fun _=>rfl) h,ct,Fy (e:=StoreD.av) (sz:=9) (fun _=>rfl) h,show((beq 0 0)&&((beq ((StoreD.av c.stores.l[j]).length) 9)&&(beq 9 9)))=true from rfl,ct,OO (by omega),Ff h,A9i]
  rw[show ∀ F:Int->O R,As .i64 (drop 1 (c.stores.l[j]).av) F=F (c.stores.l[j]).bus from fun _=>rfl,Dn,LO]
  refine(k _).trans ?_
  simp only[Baq]
def ud(hN:20000000000000<N)(k:c.units.l.length<=1000)(hr:∀(ok:Bool)(fuel:Nat),1000<fuel->Mz N K (c.stores.l.flatMap StoreD.av) c.stores.l.length b c.av fuel (c.stores.l.length:Int) 0 ok=K (ok&&(c.stores.l.all (fun s=>Kf s.bus c.buses.l.length)&&(c.ties.l.all (fun t=>Kf t.bus c.buses.l.length)&&c.outs.l.all (jD c))))):∀(m j fuel:Nat)(ok:Bool),j+m=c.units.l.length->m<fuel ->
  M0 N K (c.units.l.flatMap UnitD.av) c.units.l.length b c.av fuel (c.units.l.length:Int) (j:Int) ok=K (ok&&((c.units.l.drop j).all (fun u=>Kf u.bus c.buses.l.length&&Kf u.state 3)&&(c.stores.l.all (fun s=>Kf s.bus c.buses.l.length)&&(c.ties.l.all (fun t=>Kf t.bus c.buses.l.length)&&c.outs.l.all (jD c)))))
|0,j,fuel+1,ok,n,_=>by
  rw[M0];unfold HZ
  rw[Gu (by omega),cf,show c.units.l.drop j=[]from Eg (by omega),A9z,O7,Bav]
  exact hr ok N (by omega)
| m+1,j,fuel+1,ok,n,q=>by
  rw[M0];unfold HZ
  have h:j<c.units.l.length:=by omega
  have d:=fun ok=>ud hN k hr m (j+1) fuel ok (by omega) (by omega)
  rw[F1 h,ct,Ab h,ct,I3 (e:=UnitD.av) (sz:=22) (fun _=>rfl) h,ct,Fy (e:=UnitD.av) (sz:=22) (fun _=>rfl) h,show((beq 0 0)&&((beq ((UnitD.av c.units.l[j]).length) 22)&&(beq 22 22)))=true from rfl,ct,OO (by omega),Ff h,A9i]
  have rs:∀ F:Int->O R,As .i64 (drop 19 (c.units.l[j]).av) F=F (c.units.l[j]).state:=fun _=>rfl
  rw[show ∀ F:Int->O R,As .i64 (drop 1 (c.units.l[j]).av) F=F (c.units.l[j]).bus from fun _=>rfl,Dn,LO]
  cases hq:(ok&&Kf (c.units.l[j]).bus c.buses.l.length)with
  |false =>
   refine(d false).trans ?_
   rw[<-Baq ok,<-Baq ok,<-Baq ok,hq];rfl
  | true =>
   rw[show((true:Bool)==true)=true from rfl,ct,rs]
   have key:∀ x:Bool,Kf (c.units.l[j]).state 3=x->K (x&&((c.units.l.drop (j+1)).all (fun u=>Kf u.bus c.buses.l.length&&Kf u.state 3)&&(c.stores.l.all (fun s=>Kf s.bus c.buses.l.length)&&(c.ties.l.all (fun t=>Kf t.bus c.buses.l.length)&&c.outs.l.all (jD c)))))=K (ok&&((Kf (c.units.l[j]).bus c.buses.l.length&&Kf (c.units.l[j]).state 3&&(c.units.l.drop (j+1)).all fun u=>Kf u.bus c.buses.l.length&&Kf u.state 3)&&(c.stores.l.all (fun s=>Kf s.bus c.buses.l.length)&&(c.ties.l.all (fun t=>Kf t.bus c.buses.l.length)&&c.outs.l.all (jD c))))):=fun x hx=>by
    simp only[Baq]
    rw[<-Baq ok,hq,hx];rfl
   by_cases f:(c.units.l[j]).state=0
   ·rw[show((c.units.l[j]).state==0)=true by simp[f]]
    exact(d true).trans (key true (by rw[f];rfl))
   ·rw[show((c.units.l[j]).state==0)=false by simp[f],show((false:Bool)==false)=true from rfl,ct,rs]
    by_cases s1:(c.units.l[j]).state=1
    ·rw[show((c.units.l[j]).state==1)=true by simp[s1]]
     exact(d true).trans (key true (by rw[s1];rfl))
    ·rw[show((c.units.l[j]).state==1)=false by simp[s1]]
     show As .i64 (drop 19 (c.units.l[j]).av) _=_
     rw[rs]
     refine(d ((c.units.l[j]).state==2)).trans (key _ ?_)
     unfold Kf
     by_cases s2:(c.units.l[j]).state=2
     ·rw[s2];rfl
     ·rw[show((c.units.l[j]).state==2)=false by simp[s2]]
      by_cases g:0<=(c.units.l[j]).state
      ·rw[decide_eq_true g,decide_eq_false (show ¬ (c.units.l[j]).state<((3:Nat):Int) by omega)];rfl
      ·rw[decide_eq_false g];rfl
def ue(hN:20000000000000<N)(d:c.lines.l.length<=1000)(hr:∀(ok:Bool)(fuel:Nat),1000<fuel->M0 N K (c.units.l.flatMap UnitD.av) c.units.l.length b c.av fuel (c.units.l.length:Int) 0 ok=K (ok&&(c.units.l.all (fun u=>Kf u.bus c.buses.l.length&&Kf u.state 3)&&(c.stores.l.all (fun s=>Kf s.bus c.buses.l.length)&&(c.ties.l.all (fun t=>Kf t.bus c.buses.l.length)&&c.outs.l.all (jD c)))))):∀(m j fuel:Nat)(ok:Bool),j+m=c.lines.l.length->m<fuel ->
  Rj N K (c.lines.l.flatMap LineD.av) c.lines.l.length b c.av fuel (c.lines.l.length:Int) (j:Int) ok=K (ok&&((c.lines.l.drop j).all (fun l=>Kf l.fr c.buses.l.length&&Kf l.tl c.buses.l.length)&&(c.units.l.all (fun u=>Kf u.bus c.buses.l.length&&Kf u.state 3)&&(c.stores.l.all (fun s=>Kf s.bus c.buses.l.length)&&(c.ties.l.all (fun t=>Kf t.bus c.buses.l.length)&&c.outs.l.all (jD c))))))
|0,j,fuel+1,ok,f,_=>by
  rw[Rj];unfold H_
  rw[Gu (by omega),cf,show c.lines.l.drop j=[]from Eg (by omega),A9z,Mi,Bav]
  exact hr ok N (by omega)
|m+1,j,fuel+1,ok,f,n=>by
  rw[Rj];unfold H_
  have h:j<c.lines.l.length:=by omega
  have k:=fun ok=>ue hN d hr m (j+1) fuel ok (by omega) (by omega)
  rw[F1 h,ct,Ab h,ct,I3 (e:=LineD.av) (sz:=12) (fun _=>rfl) h,ct,Fy (e:=LineD.av) (sz:=12) (fun _=>rfl) h,show((beq 0 0)&&((beq ((LineD.av c.lines.l[j]).length) 12)&&(beq 12 12)))=true from rfl,ct,OO (by omega),Ff h,A9i]
  rw[show ∀ F:Int->O R,As .i64 (drop 1 (c.lines.l[j]).av) F=F (c.lines.l[j]).fr from fun _=>rfl,Dn,LO,show ∀ F:Int->O R,As .i64 (drop 2 (c.lines.l[j]).av) F=F (c.lines.l[j]).tl from fun _=>rfl,Dn,LO]
  refine(k _).trans ?_
  simp only[Baq]
def Atr(hN:20000000000000<N)(d:K3 c=true)(hI:∀ o∈c.outs.l,OutI 20000000000000 o):eY N c.av b K=K (Tb c):=by
 unfold K3 at d
 simp only[A81,decide_eq_true_eq]at d
 obtain⟨c1,n,q,v,x,y⟩:=d
 rw[oi];unfold gi
 rw[F9]
 have f:∀(ok:Bool)(fuel:Nat),1000<fuel->Lb N K (c.outs.l.flatMap OutD.av) c.outs.l.length b c.av fuel (c.outs.l.length:Int) 0 ok=K (ok&&c.outs.l.all (jD c)):=fun ok fuel e=>Ab7 hN (by omega) hI c.outs.l.length 0 fuel ok (by omega) (by omega)
 have j:∀(ok:Bool)(fuel:Nat),1000<fuel->My N K (c.ties.l.flatMap TieD.av) c.ties.l.length b c.av fuel (c.ties.l.length:Int) 0 ok=K (ok&&(c.ties.l.all (fun t=>Kf t.bus c.buses.l.length)&&c.outs.l.all (jD c))):=fun ok fuel e=>Ab8 hN (by omega) f c.ties.l.length 0 fuel ok (by omega) (by omega)
 have k:∀(ok:Bool)(fuel:Nat),1000<fuel->Mz N K (c.stores.l.flatMap StoreD.av) c.stores.l.length b c.av fuel (c.stores.l.length:Int) 0 ok=K (ok&&(c.stores.l.all (fun s=>Kf s.bus c.buses.l.length)&&(c.ties.l.all (fun t=>Kf t.bus c.buses.l.length)&&c.outs.l.all (jD c)))):=fun ok fuel e=>pg hN (by omega) j c.stores.l.length 0 fuel ok (by omega) (by omega)
 have m:∀(ok:Bool)(fuel:Nat),1000<fuel->M0 N K (c.units.l.flatMap UnitD.av) c.units.l.length b c.av fuel (c.units.l.length:Int) 0 ok=K (ok&&(c.units.l.all (fun u=>Kf u.bus c.buses.l.length&&Kf u.state 3)&&(c.stores.l.all (fun s=>Kf s.bus c.buses.l.length)&&(c.ties.l.all (fun t=>Kf t.bus c.buses.l.length)&&c.outs.l.all (jD c))))):=fun ok fuel e=>ud hN (by omega) k c.units.l.length 0 fuel ok (by omega) (by omega)
 exact ue hN (by omega) m c.lines.l.length 0 N true (by omega) (by omega)
end
end Gx.Ct
namespace Gx.Cf
open Go Go.Proofs
section
variable{R:Type}
def QT{p:C7}{f:Int->O R}:As .i64 (drop 3 (D7 p)) f=f (B5 p):=by rcases p with _|⟨⟨a,b,d⟩,e,j⟩<;>simp[D7,RO,A7,B5]
def Pf{N:Nat}{i:Int}{u:UnitD}{o:Bool}{p:C7}{K:LA->O R}(hs:u.segs.l.length<4611686018427387904):∀(m j fuel:Nat)(a:Int),j+m=u.segs.l.length->m<fuel ->
  D4 N K i (D7 p) o u.av fuel a (j:Int)=K (D7 (nd p (aO a (u.segs.l.drop j)==wrap .i64 (u.max - u.min)) (3,i,4) e4))
| 0,j,fuel+1,a,f,_=>by
  rw[D4];unfold Hr
  simp only[ED,Au9,Ava,QT,Af (show(4:Int)≠0 by decide)]
  rw[Gu (by omega),Dm (l:=u.segs.l) (by omega),aO,Hp]
  rcases p with _|⟨x,e,d⟩
  ·simp[B5]
  ·have:(e != 0)=true:=by simpa using d
   simp[B5,this,nd]
| m+1,j,fuel+1,a,f,q=>by
  rw[D4];unfold Hr
  have h:j<u.segs.l.length:=by omega
  simp only[ED,Au9,Ava,QT,Af (show(4:Int)≠0 by decide),Axo h,Ab h]
  rw[F1 h,B0 (by omega),Pf hs m (j+1) fuel _ (by omega) (by omega),Cj h,aO,Hp]
  rcases p with _|⟨x,e,d⟩
  ·simp[B5]
  ·have k:(e != 0)=true:=by simpa using d
   have n:(e==0)=false:=by simpa using d
   simp[B5,k,n,nd]
def Yd{N:Nat}{i:Int}{u:UnitD}{o:Bool}{K:LA->O R}(hs:Gn u.segs.l.length N):∀(m j fuel:Nat)(p:C7),j+1+m=u.segs.l.length->m<fuel ->
  C4 N K i o u.av fuel ((j+1:Nat):Int) (D7 p)=K (D7 (nd (nd p (dS (u.segs.l.drop j)) (3,i,4) Axn) (aO 0 u.segs.l==wrap .i64 (u.max - u.min)) (3,i,4) e4))
|0,j,fuel+1,p,d,_=>by
  rw[C4];unfold Fc
  rw[ED,Gu (by omega),cf,Cj (l:=u.segs.l) (j:=j) (by omega),Dm (l:=u.segs.l) (j:=j+1) (by omega),nk,Hp]
  have:=Pf (R:=R) (N:=N) (i:=i) (u:=u) (o:=o) (p:=p) (K:=K) hs.2 u.segs.l.length 0 N 0 (by omega) hs.1
  simpa using this
|m+1,j,fuel+1,p,d,f=>by
  rw[C4];unfold Fc
  have h:j+1<u.segs.l.length:=by omega
  have h':j<u.segs.l.length:=by omega
  have e:=hs.2
  simp only[ED]
  rw[F1 h,ct,Ab h,ct,gZ h,mz (by omega),Ab h',ct,gZ h',B0 (by omega),Af (by decide),Yd hs m (j+1) fuel _ (by omega) (by omega),Cj h',Cj h,KD,Sx]
def Ye{N:Nat}{i:Int}{u:UnitD}{o:Bool}{K:LA->O R}(hN:8<=N)(hs:Gn u.segs.l.length N):∀(m j fuel:Nat)(p:C7),j+m=u.segs.l.length->m<fuel ->
  C5 N K i (u.segs.l.flatMap SegD.av) u.segs.l.length o u.av fuel (u.segs.l.length:Int) (j:Int) (D7 p) =
   K (D7 (nd (nd (nd p ((u.segs.l.drop j).all jf) (3,i,4) e3) (dS u.segs.l) (3,i,4) Axn) (aO 0 u.segs.l==wrap .i64 (u.max - u.min)) (3,i,4) e4))
| 0,j,fuel+1,p,e,_=>by
  rw[C5];unfold Hs
  rw[Gu (by omega),cf,Dm (l:=u.segs.l) (by omega),A9z,Hp]
  rcases d:u.segs.l with _|⟨b,r⟩
  ·rw[zI,Hp]
   have l2:=Pf (R:=R) (N:=N) (i:=i) (u:=u) (o:=o) (p:=p) (K:=K) hs.2 u.segs.l.length 0 N 0 (by omega) hs.1
   rcases N with _|N
   ·omega
   ·rw[C4];unfold Fc
    rw[ED,d]
    simp only[A9m,Baa]
    rw[show decide ((1:Int)<0)=false by decide,cf]
    rw[d]at l2
    simpa using l2
  ·have:=Yd (R:=R) (N:=N) (i:=i) (u:=u) (o:=o) (K:=K) hs r.length 0 N p (by rw[d];simp;omega) (by have:=hs.1;rw[d]at this;simp at this;omega)
   rw[d]at this
   simpa using this
|m+1,j,fuel+1,p,e,q=>by
  rw[C5];unfold Hs
  have h:j<u.segs.l.length:=by omega
  have f:=hs.2
  rw[F1 h,ct,Ab h,ct,A8z,A3 Qs _ _ h,Cj h,A9i,B0 (by omega)]
  have k:ble 2 (List.length (u.segs.l[j].av++List.flatMap SegD.av (drop (j+1) u.segs.l)))=true:=by rw[C1,A8y,Qs];simp
  have n:take 2 (u.segs.l[j].av++List.flatMap SegD.av (drop (j+1) u.segs.l))=u.segs.l[j].av:=A9w (Qs _)
  rw[k,ct,n,Qs]
  simp only[SegD.av,setCells,C3,A9t,A9g,Bb2,A9s,A9f,Bac,A83,A9m,A7,C1,MI,A0,Nat.reduceAdd,decide_true,A91,Ba9,A98,cond_true,A89,A86,Fh hN,Af (show(3:Int)≠0 by decide),Ye hN hs m (j+1) fuel _ (show j+1+m=_ by omega) (show m<fuel by omega)]
  unfold jf
  rw[Sx,Sx]
  cases Fv 1 1048576 u.segs.l[j].width<;>rfl
def MK{N:Nat}{p:C7}{j:Nat}{u:UnitD}{o:Bool}{K:LA->O R}(hN:8<=N)(hs:Gn u.segs.l.length N):
  Fr N u.av o (j:Int) (D7 p) K=K (D7 (Ad1 u j p)):=by
 rw[Tp];unfold J9
 simp only[ED,Af (show(8:Int)≠0 by decide)]
 have:=Ye (R:=R) (N:=N) (i:=j) (u:=u) (o:=o) (K:=K) hN hs u.segs.l.length 0 N (nd p (decide ((u.segs.l.length:Int)<=8)) (3,j,4) e8) (by omega) hs.1
 simpa[Ad1]using this
def DI{N:Nat}{i:Int}{l:List MoveD}{o:Bool}{K:LA->O R}(hN:8<=N)(hs:l.length<4611686018427387904):∀(m j fuel:Nat)(p:C7),j+m=l.length->m<fuel ->
  Ew N K i (l.flatMap MoveD.av) l.length o fuel (l.length:Int) (j:Int) (D7 p)=K (D7 (nd p ((l.drop j).all vd) (6,i,3) e3))
|0,j,fuel+1,p,d,_=>by
  rw[Ew];unfold Iw
  rw[Gu (by omega),cf,Dm (by omega),A9z,Hp]
|m+1,j,fuel+1,p,d,k=>by
  rw[Ew];unfold Iw
  have h:j<l.length:=by omega
  rw[F1 h,ct,Ab h,ct,A8z,A3 Fu _ _ h,Cj h,A9i,B0 (by omega)]
  have e:ble 3 (List.length (l[j].av++List.flatMap MoveD.av (drop (j+1) l)))=true:=by rw[C1,A8y,Fu];simp
  have f:take 3 (l[j].av++List.flatMap MoveD.av (drop (j+1) l))=l[j].av:=A9w (Fu _)
  rw[e,ct,f,Fu]
  simp only[MoveD.av,setCells,C3,A9t,A9g,Bb2,A9s,A9f,Bac,A83,A9m,A7,C1,MI,A0,Nat.reduceAdd,decide_true,A91,Ba9,A98,cond_true,A89,A86,vZ hN,Af (show(3:Int)≠0 by decide),DI hN hs m (j+1) fuel _ (show j+1+m=_ by omega) (show m<fuel by omega)]
  rw[Sx];rfl
def DJ{N:Nat}{c:CaseD}{i:Int}{u:OutD}{o:Bool}{p:C7}{K:LA->O R}(hN:8<=N)(d:c.units.l.length<=6000000000000)(hs:Gn u.moves.l.length N)(f:u.moves.l.length<8796093022208):∀(m j fuel:Nat),j+m=u.moves.l.length->m<fuel ->
  Ex N K i (u.moves.l.flatMap MoveD.av) u.moves.l.length o (D7 p) c.av u.av fuel j (u.moves.l.length:Int) (j:Int) (Av ((u.moves.l.take j).map (·.unit))) =
   K (D7 (nd (nd (nd p (u.moves.l.all (vb c)) (6,i,3) Aq8) (gM (u.moves.l.map (·.unit))) (6,i,3) Axn) (u.moves.l.all vd) (6,i,3) e3))
| 0,j,fuel+1,k,_=>by
  rw[Ex];unfold Ix
  have n:j=u.moves.l.length:=by omega
  rw[Gu (by omega),cf,A9j,A80 (by simp[Fp];omega),A80 (show u.moves.l.length<=j by omega)]
  rw[Mi,Jf (by simp;omega) (by simpa using hs),Af (by decide),DW (by simp;omega) (by simpa using hs),Af (by decide),xD]
  have:=DI (R:=R) (N:=N) (i:=i) (l:=u.moves.l) (o:=o) (K:=K) hN hs.2 u.moves.l.length 0 N (nd (nd p (u.moves.l.all (vb c)) (6,i,3) Aq8) (gM (u.moves.l.map (·.unit))) (6,i,3) Axn) (by omega) hs.1
  have e:(u.moves.l.map (·.unit)).all (Fv 0 (wrap .i64 ((c.units.l.length:Int) - 1)))=u.moves.l.all (vb c):=by
   rw[List.all_map];congr 1;funext m;exact Ase _ _ (by omega)
  rw[e]
  simpa using this
| m+1,j,fuel+1,k,x=>by
  rw[Ex];unfold Ix
  have h:j<u.moves.l.length:=by omega
  have q:ble 3 (List.length (u.moves.l[j].av++List.flatMap MoveD.av (drop (j+1) u.moves.l)))=true:=by rw[C1,A8y,Fu];simp
  have s:take 3 (u.moves.l[j].av++List.flatMap MoveD.av (drop (j+1) u.moves.l))=u.moves.l[j].av:=A9w (Fu _)
  have t:(decide (j<=140737488355327)&&decide ((j+1)*8<=140737488355328))=true:=by simp;omega
  have v:take (j*1) (Av ((u.moves.l.take j).map (·.unit)))++[.int .i64 u.moves.l[j].unit]=Av ((u.moves.l.take (j+1)).map (·.unit)):=by
   rw[A80 (by simp[Fp];omega),A9q h,A93,<-MS];rfl
  rw[F1 h,ct,Ab h,ct,A8z,A3 Fu _ _ h,B0 (by omega),q,ct,s,Fu]
  simp only[MoveD.av,setCells,C3,A9t,A9g,Bb2,A9s,Bac,A83,A9m,A7,C1,MI,A0,Nat.reduceAdd,Nat.reduceLeDiff,decide_true,A91,Ba9,A98,cond_true,A89,A86,t,v,DJ hN d hs f m (j+1) fuel (show j+1+m=_ by omega) (show m<fuel by omega)]
def fR{N:Nat}{c:CaseD}{p:C7}{o:Bool}{j:Nat}{K:LA->O R}(hs:Small c N)(h:j<c.ties.l.length):
  T6 N c.av o (j:Int) (D7 p) K=K (D7 (lR c j c.ties.l[j] p)):=by
 have hN:=hs.n64
 have hN8:8<=N:=by omega
 have d:=hs.tie
 have t:=hs.top
 have f:c.ties.l[j]∈c.ties.l:=A9c h
 have u:=hs.tim _ f;have m:=hs.tex _ f;have q:=hs.tpr _ f
 have e:=@Ey R N c (c.ties.l.map (·.name)) o (k:=5) (n:=j) (hN:=hN) (hL:=fun K=>zJ hs) (hn:=by simpa using h) (hs:=⟨by have:=d.1;omega,by have:=d.2;omega⟩)
 have s:(c.ties.l.map (·.name))[j]'(by simpa using h)=c.ties.l[j].name:=by simp
 rw[s]at e
 rw[FE];unfold Yy 
 rw[Wo,Ab h,ct,A8z,A3 H2 _ _ h]
 generalize c.ties.l[j]=b at *
 have v:ble 5 (List.length (b.av++List.flatMap TieD.av (drop (j+1) c.ties.l)))=true:=by rw[C1,A8y,H2];simp
 have x:take 5 (b.av++List.flatMap TieD.av (drop (j+1) c.ties.l))=b.av:=A9w (H2 b)
 rw[v,ct,x,H2]
 simp only[D2,e,TieD.av,A9s,A9f,A7,Cq,By,C1,MI,decide_true,A91,cond_true]
 simp only[Kz hN8 (show c.buses.l.length<4611686018427387904 by omega),Fs rfl u,Fs rfl m,Fs rfl q]
 rfl
def XZ{N:Nat}{c:CaseD}{p:C7}{o:Bool}{j:Nat}{K:LA->O R}(hs:Small c N)(h:j<c.stores.l.length):
  Pm N c.av o (j:Int) (D7 p) K=K (D7 (Qr c j c.stores.l[j] p)):=by
 have hN:=hs.n64
 have hN8:8<=N:=by omega
 have d:=hs.sto
 have m:=hs.top
 have t:c.stores.l[j]∈c.stores.l:=A9c h
 skip
 have e:=@Ey R N c (c.stores.l.map (·.name)) o (k:=4) (n:=j) (hN:=hN) (hL:=fun K=>nq hs) (hn:=by simpa using h) (hs:=⟨by have:=d.1;omega,by have:=d.2;omega⟩)
 have f:(c.stores.l.map (·.name))[j]'(by simpa using h)=c.stores.l[j].name:=by simp
 rw[f]at e
 rw[Xv];unfold U1 
 rw[O7,Ab h,ct,A8z,A3 Fk _ _ h]
 generalize c.stores.l[j]=b at *
 have q:ble 9 (List.length (b.av++List.flatMap StoreD.av (drop (j+1) c.stores.l)))=true:=by rw[C1,A8y,Fk];simp
 have s:take 9 (b.av++List.flatMap StoreD.av (drop (j+1) c.stores.l))=b.av:=A9w (Fk b)
 rw[q,ct,s,Fk]
 simp only[D2,e,StoreD.av,A9s,A9f,Bbf,Bac,A83,A9m,A7,C1,MI,A0,Nat.reduceAdd,decide_true,A91,Ba9,cond_true,A89,A86]
 simp only[Kz hN8 (show c.buses.l.length<4611686018427387904 by omega),Fh hN8,Af (show(3:Int)≠0 by decide),NA hN8]
 unfold Qr;cases Fz b.eff<;>cases decide (b.eff.num>0)<;>rfl
def aZ{N:Nat}{c:CaseD}{p:C7}{o:Bool}{j:Nat}{K:LA->O R}(hs:Small c N)(h:j<c.lines.l.length):
  Mf N c.av o (j:Int) (D7 p) K=K (D7 (X0 c j c.lines.l[j] p)):=by
 have hN:=hs.n64
 have hN8:8<=N:=by omega
 have d:=hs.lin
 have m:=hs.top
 have q:c.lines.l[j]∈c.lines.l:=A9c h
 have s:=hs.law _ q
 have e:=@Ey R N c (c.lines.l.map (·.name)) o (k:=2) (n:=j) (hN:=hN) (hL:=fun K=>ti hs) (hn:=by simpa using h) (hs:=⟨by have:=d.1;omega,by have:=d.2;omega⟩)
 have f:(c.lines.l.map (·.name))[j]'(by simpa using h)=c.lines.l[j].name:=by simp
 rw[f]at e
 rw[CD];unfold Pk L1 Ql S6 Qk S5
 rw[F9,Ab h,ct,A8z,A3 Cm _ _ h]
 generalize c.lines.l[j]=b at *
 have t:ble 12 (List.length (b.av++List.flatMap LineD.av (drop (j+1) c.lines.l)))=true:=by rw[C1,A8y,Cm];simp
 have u:take 12 (b.av++List.flatMap LineD.av (drop (j+1) c.lines.l))=b.av:=A9w (Cm b)
 rw[t,ct,u,Cm]
 simp only[D2,e,LineD.av,A9s,A9f,Bbf,Bac,A83,A9m,A7,Cq,By,C1,MI,A0,Nat.reduceAdd,Nat.reduceLeDiff,decide_true,A91,Ba9,cond_true,A89]
 simp only[Kz hN8 (show c.buses.l.length<4611686018427387904 by omega),Fh hN8,Af (show(1:Int)≠0 by decide),Af (show(3:Int)≠0 by decide),NA hN8,Xy rfl s]
 unfold X0;rw[show(b.fr != b.tl)=(b.tl != b.fr) by simp[bne,BEq.comm (a:=b.fr)]];cases Fz b.re<;>cases Fz b.smin<;>cases Fz b.smax<;>rfl
def Avf(c:CaseD)(j:Nat)(u:UnitD)(p:C7):C7 :=
 let p:=Kg ((c.units.l.map (·.name)).take j) 3 j u.name p
 let p:=nd p (JO c u.bus) (3,j,1) Aq8
 let p:=nd p (Fv 0 1048576 u.min) (3,j,2) e3
 let p:=nd p (Fv u.min 1048576 u.max) (3,j,3) e3
 let p:=Ad1 u j p
 let p:=nd p (Fv 0 1048576 u.noLoad) (3,j,5) e3
 let p:=nd p (Fv 0 1048576 u.rampUp) (3,j,6) e3
 let p:=nd p (Fv 0 1048576 u.rampDown) (3,j,7) e3
 let p:=nd p (Fv u.min u.max u.startRamp) (3,j,8) e3
 let p:=nd p (Fv u.min u.max u.stopRamp) (3,j,9) e3
 let p:=nd p (Fv 0 24 u.upTime) (3,j,10) e3
 nd p (Fv 0 24 u.downTime) (3,j,11) e3
def A0k(c:CaseD)(j:Nat)(u:UnitD)(p:C7):C7 :=
 let p:=nd p (Fv 0 24 u.startTime) (3,j,12) e3
 let p:=nd p (Fv 0 1048576 u.hotCost) (3,j,13) e3
 let p:=nd p (Fv 0 1048576 u.coldCost) (3,j,14) e3
 let p:=nd p (Fv 0 24 u.hotHours) (3,j,15) e3
 let p:=nd p (Fv 0 1048576 u.reserve) (3,j,16) e3
 let p:=nd p (Fv 0 1048576 u.reservePrice) (3,j,17) e3
 let p:=SA c.hours u.away.l (3,j,18) p
 let p:=nd p (Fv 0 2 u.state) (3,j,19) Aq8
 let p:=nd p (u.state != 1||decide (u.startTime>0)) (3,j,19) A68
 let p:=nd p (Fv 1 48 u.hours) (3,j,20) e3
 let p:=nd p (u.state != 1||decide (u.hours<=u.startTime)) (3,j,20) e3
 cond (u.state==2) (nd p (Fv u.min u.max u.output) (3,j,21) e3) (nd p (u.output==0) (3,j,21) e3)
def A6h(n:Int):Fv 0 0 n=(n==0):=by
 unfold Fv
 by_cases h:n=0
 ·simp[h]
 ·have:(n==0)=false:=by simpa using h
  rw[this];simp;omega
def A2t{c:CaseD}{j:Nat}{u:UnitD}{p:C7}:A0k c j u (Avf c j u p)=CL c j u p:=by
 show _=(let p:=nd (Avf c j u p) (Fv 0 24 u.startTime) (3,j,12) e3
  let p:=nd p (Fv 0 1048576 u.hotCost) (3,j,13) e3
  let p:=nd p (Fv 0 1048576 u.coldCost) (3,j,14) e3
  let p:=nd p (Fv 0 24 u.hotHours) (3,j,15) e3
  let p:=nd p (Fv 0 1048576 u.reserve) (3,j,16) e3
  let p:=nd p (Fv 0 1048576 u.reservePrice) (3,j,17) e3
  let p:=SA c.hours u.away.l (3,j,18) p
  let p:=nd p (Fv 0 2 u.state) (3,j,19) Aq8
  let p:=nd p (u.state != 1||u.startTime != 0) (3,j,19) A68
  let p:=nd p (Fv 1 48 u.hours) (3,j,20) e3
  let p:=nd p (u.state != 1||decide (u.hours<=u.startTime)) (3,j,20) e3
  cond (u.state==2) (nd p (Fv u.min u.max u.output) (3,j,21) e3) (nd p (Fv 0 0 u.output) (3,j,21) e3))
 unfold A0k
 rw[A6h]
 cases hq:nd (Avf c j u p) (Fv 0 24 u.startTime) (3,(j:Int),12) e3 with
|some x=>simp only[VK,SA]
| none =>
  have d:Fv 0 24 u.startTime=true:=by
   cases e:Fv 0 24 u.startTime with
   |true=>rfl
   |false =>
    rw[e]at hq
    cases f:Avf c j u p<;>rw[f]at hq<;>simp[nd]at hq
  have:decide (u.startTime>0)=(u.startTime != 0):=by
   unfold Fv at d
   simp at d
   by_cases h:u.startTime=0
   ·simp[h]
   ·have k:(u.startTime != 0)=true:=by simpa using h
    rw[k];simp;omega
  rw[this]
def a_{N:Nat}{c:CaseD}{p:C7}{o:Bool}{j:Nat}{K:LA->O R}(hs:Small c N)(h:j<c.units.l.length):
  Mh N c.av o (j:Int) (D7 p) K=K (D7 (CL c j c.units.l[j] p)):=by
 have hN:=hs.n64
 have hN8:8<=N:=by omega
 have d:=hs.uni
 have s:=hs.top
 have t:c.units.l[j]∈c.units.l:=A9c h
 have u:=hs.seg _ t;have f:=hs.uaw _ t
 have e:=@Ey R N c (c.units.l.map (·.name)) o (k:=3) (n:=j) (hN:=hN) (hL:=fun K=>tj hs) (hn:=by simpa using h) (hs:=⟨by have:=d.1;omega,by have:=d.2;omega⟩)
 have m:(c.units.l.map (·.name))[j]'(by simpa using h)=c.units.l[j].name:=by simp
 rw[m]at e
 rw[CE];unfold Pl L2 Qm S8
 rw[Mi,Ab h,ct,A8z,A3 Ft _ _ h]
 generalize c.units.l[j]=b at *
 have v:ble 22 (List.length (b.av++List.flatMap UnitD.av (drop (j+1) c.units.l)))=true:=by rw[C1,A8y,Ft];simp
 have x:take 22 (b.av++List.flatMap UnitD.av (drop (j+1) c.units.l))=b.av:=A9w (Ft b)
 rw[v,ct,x,Ft]
 have q:∀(p:C7)(K:LA->O R),Fr N [.str b.name,.int .i64 b.bus,.int .i64 b.min,.int .i64 b.max,b.segs.av 2 SegD.av,.int .i64 b.noLoad,.int .i64 b.rampUp,.int .i64 b.rampDown,.int .i64 b.startRamp,.int .i64 b.stopRamp,.int .i64 b.upTime,.int .i64 b.downTime,.int .i64 b.startTime,.int .i64 b.hotCost,.int .i64 b.coldCost,.int .i64 b.hotHours,.int .i64 b.reserve,.int .i64 b.reservePrice,b.away.av 1 O9,.int .i64 b.state,.int .i64 b.hours,.int .i64 b.output] o j (D7 p) K=K (D7 (Ad1 b j p)):=fun p K=>MK hN8 u
 simp only[D2,e,UnitD.av,A9s,A9f,Bbf,Bac,A7,Cq,By,C1,MI,decide_true,A91,cond_true,cond_false,A86]
 simp only[Kz hN8 (show c.buses.l.length<4611686018427387904 by omega),Fh hN8,Af (show(3:Int)≠0 by decide),Af (show(12:Int)≠0 by decide),Af (show(16:Int)≠0 by decide),q,Xy rfl f]
 rw[<-A2t]
 unfold A0k
 by_cases s1:b.state=1
 ·simp[s1];rfl
 ·have a4:(b.state != 1)=true:=by simpa using s1
  rw[a4]
  cases b.state==2<;>rfl
def TW{N:Nat}{c:CaseD}{p:C7}{o:Bool}{j:Nat}{K:LA->O R}(hs:Small c N)(h:j<c.outs.l.length):
  Jo N c.av o (j:Int) (D7 p) K=K (D7 (SK c j c.outs.l[j] p)):=by
 have hN:=hs.n64
 have hN8:8<=N:=by omega
 have d:=hs.out
 have e:=hs.top
 have q:c.outs.l[j]∈c.outs.l:=A9c h
 have v:=hs.oli _ q;have f:=hs.omo _ q;have s:=hs.omb _ q
 have m:=@Ey R N c (c.outs.l.map (·.name)) o (k:=6) (n:=j) (hN:=hN) (hL:=fun K=>zK hs) (hn:=by simpa using h) (hs:=⟨by have:=d.1;omega,by have:=d.2;omega⟩)
 have t:(c.outs.l.map (·.name))[j]'(by simpa using h)=c.outs.l[j].name:=by simp
 rw[t]at m
 rw[Wl];unfold L3 Ka Nj
 rw[Pp,Ab h,ct,A8z,A3 Dd _ _ h]
 generalize c.outs.l[j]=b at *
 have x:ble 4 (List.length (b.av++List.flatMap OutD.av (drop (j+1) c.outs.l)))=true:=by rw[C1,A8y,Dd];simp
 have y:take 4 (b.av++List.flatMap OutD.av (drop (j+1) c.outs.l))=b.av:=A9w (Dd b)
 rw[x,ct,y,Dd]
 have l1:=fun p=>DJ (R:=R) (N:=N) (c:=c) (i:=j) (u:=b) (o:=o) (p:=p) (K:=K) hN8 e.2.2.1 f s b.moves.l.length 0 N (by omega) f.1
 simp only[Bac,A9x,Baa,Av]at l1
 simp only[MI,decide_true,A91,cond_true,Ik,D2,m,np,xD,A0e,Fh hN8,Jf rfl v,DW rfl v,F9,Af (show(4:Int)≠0 by decide),Af (show(8:Int)≠0 by decide),Af (show(11:Int)≠0 by decide),Af (show(12:Int)≠0 by decide),Af (show(16:Int)≠0 by decide),l1]
 have a1:Fv 1 2 (b.lines.l.length:Int)=((b.lines.l.length:Int)==1||(b.lines.l.length:Int)==2):=by
  unfold Fv
  by_cases x1:b.lines.l.length=1
  ·simp[x1]
  ·by_cases x2:b.lines.l.length=2
   ·simp[x2]
   ·have y1:((b.lines.l.length:Int)==1)=false:=by simp;omega
    have y2:((b.lines.l.length:Int)==2)=false:=by simp;omega
    rw[y1,y2];simp;omega
 have a2:b.lines.l.all (Fv 0 (wrap .i64 ((c.lines.l.length:Int) - 1)))=b.lines.l.all fun n=>decide (0<=n)&&decide (n<(c.lines.l.length:Int)):=by
  congr 1;funext n;exact Ase _ _ (by omega)
 rw[a1,a2]
 unfold SK WN
 cases b.corr
 ·simp
 ·simp
end
end Gx.Cf
namespace Gx.Cf
inductive Conn(es:List (Nat×Nat)):Nat->Nat->Prop
|refl (a:Nat):Conn es a a
|fwd {u v b:Nat}:(u,v)∈es->Conn es v b->Conn es u b
|bwd {u v b:Nat}:(u,v)∈es->Conn es u b->Conn es v b
def Conn.trans{es:List (Nat×Nat)}{a b c:Nat}(j:Conn es a b)(d:Conn es b c):Conn es a c:=by
 induction j with
|refl=>exact d
|fwd e _ f=>exact .fwd e (f d)
|bwd e _ f=>exact .bwd e (f d)
def Conn.symm{es:List (Nat×Nat)}{a b:Nat}(h:Conn es a b):Conn es b a:=by
 induction h with
|refl=>exact .refl _
|fwd d _ e=>exact e.trans (.bwd d (.refl _))
|bwd d _ e=>exact e.trans (.fwd d (.refl _))
def Conn.mono{es fs:List (Nat×Nat)}(hs:∀ e∈es,e∈fs){a b:Nat}(h:Conn es a b):Conn fs a b:=by
 induction h with
|refl=>exact .refl _
|fwd d _ f=>exact .fwd (hs _ d) f
|bwd d _ f=>exact .bwd (hs _ d) f
def T1(es:List (Nat×Nat))(b:Nat):Prop:=∀ a,a<b->¬ Conn es a b
open Classical in
noncomputable def Ki(n:Nat)(es:List (Nat×Nat)):Nat:=((List.range n).filter fun b=>decide (T1 es b)).length
def Ats{n:Nat}{es fs:List (Nat×Nat)}(h:∀ e∈es,e∈fs):Ki n fs<=Ki n es:=by
 unfold Ki
 have:∀(l:List Nat),(l.filter fun b=>@decide (T1 fs b) (Classical.propDecidable _)).length<=(l.filter fun b=>@decide (T1 es b) (Classical.propDecidable _)).length:=by
  intro l
  induction l with
  |nil=>simp
  | cons a r d =>
   rw[Ba3,Ba3]
   by_cases x:T1 fs a
   ·have:T1 es a:=fun b f j=>x b f (j.mono h)
    simp[x,this,d]
   ·by_cases y:T1 es a<;>simp[x,y]<;>omega
 exact this _
def Gs(n:Nat):List Int:=(List.range n).map fun b:Nat=>(b:Int)
structure UfOk(n:Nat)(es:List (Nat×Nat))(st:List Int×Int):Prop where
 len:st.1.length=n
 iff:∀ a b,a<n->b<n->(st.1.getD a 0=st.1.getD b 0↔Conn es a b)
 cnt:st.2=(Ki n es:Int)
def hG{n a:Nat}(h:a<n):(Gs n).getD a 0=(a:Int):=by rw[A9e,Gs,Baw,List.getElem?_range h];rfl
structure LeastOk(n:Nat)(es:List (Nat×Nat))(L:List Int):Prop where
 len:L.length=n
 low:∀ b,b<n->0<=L.getD b 0/\L.getD b 0<=b
 con:∀ b,b<n->Conn es (L.getD b 0).toNat b
def Avg(es:List (Nat×Nat))(L:List Int):Prop:=∀ e∈es,L.getD e.1 0=L.getD e.2 0
def A2u(L:List Int):Nat:=((List.range L.length).filter fun b=>L.getD b 0==(b:Int)).length
def uf{n:Nat}{es:List (Nat×Nat)}{L:List Int}(h:LeastOk n es L)(l:Avg es L)(m:∀ e∈es,e.1<n/\e.2<n):A2u L=Ki n es:=by
 unfold A2u Ki
 rw[h.len]
 congr 1
 apply Bct
 intro b f
 have f:b<n:=by simpa using f
 have conn_eq:∀ a b,Conn es a b->L.getD a 0=L.getD b 0:=by
  intro a b j
  induction j with
  |refl=>rfl
  |fwd d _ k=>exact(l _ d).trans k
  |bwd d _ k=>exact(l _ d).symm.trans k
 have q:=h.low b f
 by_cases x:L.getD b 0=(b:Int)
 ·have:T1 es b:=fun a s j=>by
   have e:=conn_eq a b j
   have:=(h.low a (by omega)).2
   omega
  have x':(L.getD b 0==(b:Int))=true:=by simpa using x
  rw[x'];simp[this]
 ·have x':(L.getD b 0==(b:Int))=false:=by simpa using x
  have:¬ T1 es b:=fun d=>d (L.getD b 0).toNat (by omega) (h.con b f)
  rw[x'];simp[this]
end Gx.Cf
namespace Gx.Cf
open Go Go.Proofs
section
variable{R:Type}
def X_{l:List Int}{j:Nat}(h:j<l.length):l.getD j 0=l[j]:=by rw[A9e,A84 h];rfl
def V2{x:Int}{n:Nat}(h0:0<=x)(d:x.toNat<n):Ad x n=true:=by simp[Ad];omega
def Ab9{l:List Int}{x:Int}(h:x.toNat<l.length){f:Int->O R}:As .i64 (drop (0+((Int.toNat x)*1)) (Av l)) f=f (l.getD x.toNat 0):=by rw[A89,A9j,yS h,X_ h]
def DK(l:List Int)(j:Nat)(v:Int):List.set (Av l) j (.int .i64 v)=Av (l.set j v):=by simp[Av,List.map_set]
def X'{l:List Int}{x:Nat}(h:x<l.length):((beq 1 1)&&((ble ((0+(x*1))+1) (List.length (Av l)))&&(!false)))=true:=by rw[MI,C1,Fp];simp;omega
def Fg(c:CaseD)(l:Int):Nat×Nat:=match c.lines.l[l.toNat]? with
|some x=>(x.fr.toNat,x.tl.toNat)
|none=>(0,0)
structure LnV(c:CaseD)(l:Int)(x:LineD):Prop where
 l0:0<=l
 lt:l.toNat<c.lines.l.length
 at':c.lines.l[l.toNat]?=some x
 f0:0<=x.fr
 f1:x.fr.toNat<c.buses.l.length
 t0:0<=x.tl
 t1:x.tl.toNat<c.buses.l.length
def hY{c:CaseD}{l:Int}{x:LineD}(h:LnV c l x):Fg c l=(x.fr.toNat,x.tl.toNat):=by unfold Fg;rw[h.at']
def A0l{c:CaseD}{l:Int}{x:LineD}(h:LnV c l x){f:Int->O R}:As .i64 (drop 1 (drop ((Int.toNat l)*12) (c.lines.l.flatMap LineD.av))) f=f x.fr:=by
 have e:c.lines.l[l.toNat]'h.lt=x:=by have:=h.at';rw[A84 h.lt]at this;simpa using this
 rw[A3 Cm _ _ h.lt,e];simp[LineD.av,A7]
def A0m{c:CaseD}{l:Int}{x:LineD}(h:LnV c l x){f:Int->O R}:As .i64 (drop 2 (drop ((Int.toNat l)*12) (c.lines.l.flatMap LineD.av))) f=f x.tl:=by
 have e:c.lines.l[l.toNat]'h.lt=x:=by have:=h.at';rw[A84 h.lt]at this;simpa using this
 rw[A3 Cm _ _ h.lt,e];simp[LineD.av,A7]
def lj{L:List Int}{n j:Nat}(f:L.length=n)(h:j<n):((Gs n).take j++L.drop j).set j (j:Int)=(Gs n).take (j+1)++L.drop (j+1):=by
 have hi:(Gs n).length=n:=by simp[Gs]
 have e:(Gs n)[j]'(by omega)=(j:Int):=by simp[Gs]
 have d:j - ((Gs n).take j).length=0:=by simp[hi];omega
 rw[Bcd _ _ (by simp;omega),d,A9q (by omega),Cj (l:=L) (by omega),e,Bcq,A9l];rfl
def QU(h:Int):List LineD->Nat->List Int
|[],_=>[]
|x::r,j=>cond (x.away.l.contains h) (QU h r (j+1)) ((j:Int)::QU h r (j+1))
def LQ(h:Int):∀(l:List LineD)(j:Nat),(QU h l j).length<=l.length
|[],_=>by simp[QU]
|x::r,j=>by rw[QU];have:=LQ h r (j+1);cases x.away.l.contains h<;>simp<;>omega
def Aps(h:Int):∀(l:List LineD)(j:Nat)(a:Int),a∈QU h l j->(j:Int)<=a/\a<j+l.length
|[],_,_,d=>by simp[QU]at d
| x::r,j,a,d=>by
  rw[QU]at d
  have e:=Aps h r (j+1) a
  cases hx:x.away.l.contains h<;>rw[hx]at d<;>simp at d
  ·rcases d with rfl|d
   ·simp;omega
   ·have:=e d;simp at this ⊢;omega
  ·have:=e d;simp at this ⊢;omega
def A6(c:CaseD)(h:Int):List Int:=QU h c.lines.l 0
def xG{A B:List Int}{n:Nat}(h:n=A.length):(take (n*1) (Av A))++Av B=Av (A++B):=by rw[A9j,A80 (by simp[Fp,h]),MS]
def fS{N:Nat}{c:CaseD}{h:Int}{o:Bool}{K:Nat->LA->O R}(hs:Small c N):∀(m j fuel:Nat)(A:List Int),j+m=c.lines.l.length->m<fuel->A.length<=j ->
  G5 N K h o c.av fuel A.length (j:Int) (Av A)=K (A++QU h (c.lines.l.drop j) j).length (Av (A++QU h (c.lines.l.drop j) j))
|0,j,fuel+1,A,q,_,_=>by
  rw[G5];unfold Pn
  rw[F9,Gu (by omega),cf,Dm (l:=c.lines.l) (by omega),QU,A9g]
| m+1,j,fuel+1,A,q,y,hA=>by
  rw[G5];unfold Pn
  have d:j<c.lines.l.length:=by omega
  have n:=hs.top.2.1
  have s:c.lines.l[j]∈c.lines.l:=A9c d
  have t:=hs.law _ s
  simp only[F9]
  rw[F1 d,ct,Ab d,ct,A8z,A3 Cm _ _ d,Cj (l:=c.lines.l) d,QU]
  have e:=fS (N:=N) (c:=c) (h:=h) (o:=o) (K:=K) hs m (j+1) fuel (A++[(j:Int)]) (by omega) (by omega) (by simp;omega)
  have k:=fS (N:=N) (c:=c) (h:=h) (o:=o) (K:=K) hs m (j+1) fuel A (by omega) (by omega) (by omega)
  generalize c.lines.l[j]=b at *
  have u:(ble (A.length+1) 140737488355328&&ble ((A.length+1)*8) 140737488355328)=true:=by rw[C1,C1];simp;omega
  have v:∀(r:LA)(f:LA->Nat->O R),Bh 1 (drop 11 (b.av++r)) f=f (Av b.away.l) b.away.l.length:=fun r f=>by simp[LineD.av,Cq,By]
  have x:take (A.length*1) (Av A)++[.int .i64 (j:Int)]=Av (A++[(j:Int)]):=xG (B:=[(j:Int)]) rfl
  rw[v,VZ rfl t,u,ct,x,B0 (by omega)]
  cases b.away.l.contains h with
  |true=>simp only[Bat,cond_false,cond_true];exact k
  |false =>
   simp only[A98,cond_true,cond_false]
   rw[A8y]at e
   simpa using e
def Apt{N:Nat}{c:CaseD}{h:Int}{o:Bool}{K:Nat->LA->O R}(hs:Small c N):Tq N c.av o h K=K (A6 c h).length (Av (A6 c h)):=by
 rw[M_];unfold Wm
 have:=fS (R:=R) (N:=N) (c:=c) (h:=h) (o:=o) (K:=K) hs c.lines.l.length 0 N [] (by omega) hs.lin.1 (by simp)
 simpa[A6,Av]using this
def Cd(e:Nat×Nat):LA:=[.int .i64 (e.1:Int),.int .i64 (e.2:Int)]
def Xk(e:Nat×Nat):(Cd e).length=2:=rfl
def hZ(es:List (Nat×Nat)):(es.flatMap Cd).length=es.length*2:=by
 induction es with
|nil=>rfl
|cons e r d=>rw[A9o,A8y,d,Xk];simp;omega
def Aca{N:Nat}{c:CaseD}{o:Bool}{ls:List Int}{K:Nat->Nat->LA->LA->O R}(e:ls.length<=6000000000000)(d:∀ l∈ls,∃ x,LnV c l x):∀(m j fuel:Nat),j+m=ls.length->m<fuel ->
  Nk N K ls.length o c.av (Av ls) fuel j (ls.length:Int) (j:Int) (((ls.take j).map (Fg c)).flatMap Cd)=K ls.length ls.length ((ls.map (Fg c)).flatMap Cd) (Av ls)
|0,j,fuel+1,f,_=>by
  rw[Nk];unfold AO
  have:j=ls.length:=by omega
  rw[Gu (by omega),cf,A80 (by omega),this]
| m+1,j,fuel+1,f,q=>by
  rw[Nk];unfold AO
  have h:j<ls.length:=by omega
  obtain⟨x,hx⟩:=d ls[j] (A9c h)
  have k:(ble (j+1) 140737488355328&&ble ((j+1)*16) 140737488355328)=true:=by rw[C1,C1];simp;omega
  have n:take (j*2) (((ls.take j).map (Fg c)).flatMap Cd)++[.int .i64 x.fr,.int .i64 x.tl]=((ls.take (j+1)).map (Fg c)).flatMap Cd:=by
   rw[A80 (by rw[hZ];simp;omega),A9q h,A93,Ba6]
   simp only[A9a,A9x,hY hx,A9o,Bbn,A9g,Cd]
   have:=hx.f0;have:=hx.t0
   rw[Bcn hx.f0,Bcn hx.t0]
  rw[F1 h,ct,Ab h,ct,Ab9 (by simpa using h),A8z,X_ h]
  simp only[F9,A0l hx,A0m hx]
  rw[V2 hx.l0 hx.lt,ct,ct,k,ct,n,B0 (by omega),Aca e d m (j+1) fuel (by omega) (by omega)]
def Att{N:Nat}{c:CaseD}{h:Int}{o:Bool}{K:Nat->Nat->LA->LA->O R}(hs:Small c N)(f:∀ l∈A6 c h,∃ x,LnV c l x):
  RY N c.av o h K=K (A6 c h).length (A6 c h).length (((A6 c h).map (Fg c)).flatMap Cd) (Av (A6 c h)):=by
 rw[j0];unfold VW
 have j:=LQ h c.lines.l 0
 have d:=hs.top.2.1
 have e:=hs.lin.1
 have:=Aca (R:=R) (N:=N) (c:=c) (o:=o) (ls:=A6 c h) (K:=K) (by unfold A6;omega) f (A6 c h).length 0 N (by omega) (by unfold A6;omega)
 rw[Ik,ct,D2,Apt hs]
 simpa using this
def Hl(st:Bool×List Int)(e:Nat×Nat):Bool×List Int :=
 let m:=Ms (st.2.getD e.1 0) (st.2.getD e.2 0)
 ((st.1||(st.2.getD e.1 0 != m))||(st.2.getD e.2 0 != m),(st.2.set e.1 m).set e.2 m)
def uh{N:Nat}{es:List (Nat×Nat)}{n:Nat}{t o:Bool}{K1:Bool->LA->O R}{K:Nat->LA->O R}(hs:es.length<4611686018427387904)(s:∀ e∈es,e.1<n/\e.2<n):∀(m j fuel:Nat)(st:Bool×List Int),j+m=es.length->m<fuel->st.2.length=n ->
  Jp N K1 K (es.flatMap Cd) es.length t o n fuel st.1 (es.length:Int) (j:Int) (Av st.2)=K1 ((es.drop j).foldl Hl st).1 (Av ((es.drop j).foldl Hl st).2)
|0,j,fuel+1,st,u,_,_=>by
  rw[Jp];unfold T7
  rw[Gu (by omega),cf,Dm (l:=es) (by omega)];rfl
| m+1,j,fuel+1,st,u,I,d=>by
  rw[Jp];unfold T7
  have h:j<es.length:=by omega
  obtain⟨k,q⟩:=s es[j] (A9c h)
  have v:=uh (N:=N) (es:=es) (n:=n) (t:=t) (o:=o) (K1:=K1) (K:=K) hs s m (j+1) fuel (Hl st es[j]) (by omega) (by omega) (by simp[Hl,d])
  rw[F1 h,ct,Ab h,ct,A8z,A3 Xk _ _ h,Cj (l:=es) h,A9u,<-v]
  generalize es[j]=e at *
  have y:ble 2 (List.length (Cd e++List.flatMap Cd (drop (j+1) es)))=true:=by rw[C1,A8y,Xk];simp
  have z:take 2 (Cd e++List.flatMap Cd (drop (j+1) es))=Cd e:=A9w (Xk e)
  rw[y,ct,z,Xk]
  have iu:Ad (e.1:Int) n=true:=Ab k
  have iv:Ad (e.2:Int) n=true:=Ab q
  have ru:∀ f:Int->O R,As .i64 (drop (0+((Int.toNat (e.1:Int))*1)) (Av st.2)) f=f (st.2.getD e.1 0):=fun f=>by rw[Ab9 (by rw[d];simpa using k)];rfl
  have rv:∀ f:Int->O R,As .i64 (drop (0+((Int.toNat (e.2:Int))*1)) (Av st.2)) f=f (st.2.getD e.2 0):=fun f=>by rw[Ab9 (by rw[d];simpa using q)];rfl
  have s1:=X' (l:=st.2) (x:=Int.toNat (e.1:Int)) (by rw[d];simpa using k)
  have s2:∀ m:Int,((beq 1 1)&&((ble ((0+((Int.toNat (e.2:Int))*1))+1) (List.length (List.set (Av st.2) (0+((Int.toNat (e.1:Int))*1)) (.int .i64 m))))&&(!false)))=true:=fun m=>by
   rw[DK];exact X' (by simpa[d]using q)
  have s3:∀ m:Int,List.set (List.set (Av st.2) (0+((Int.toNat (e.1:Int))*1)) (.int .i64 m)) (0+((Int.toNat (e.2:Int))*1)) (.int .i64 m)=Av ((st.2.set e.1 m).set e.2 m):=fun m=>by
   rw[DK,DK];simp
  have A:(!o||A0 (Cd e))=true:=by simp[Cd,A0]
  have B:(beq 2 2&&(ble 2 2&&!false))=true:=rfl
  have C:setCells [.int .i64 (0:Int),.int .i64 (0:Int)] 0 (Cd e)=Cd e:=rfl
  have D:∀ f:Int->O R,As .i64 (Cd e) f=f e.1:=fun f=>by simp[Cd,A7]
  have F:∀ f:Int->O R,As .i64 (drop 1 (Cd e)) f=f e.2:=fun f=>by simp[Cd,A7]
  simp only[A,B,C,D,F,ct,iu,iv,ru,rv,s1,s2,s3,B0 (show j<4611686018427387904 by omega)]
  unfold Hl
  cases st.1
  ·cases G:(st.2.getD e.1 0 != Ms (st.2.getD e.1 0) (st.2.getD e.2 0))<;>simp only[G,Bah,Bba,cond_true,cond_false,beq_self_eq_true,show(true==false)=false from rfl]
  ·simp only[Bba,cond_false,show(true==false)=false from rfl]
def lk(L:List Int):Nat:=(L.map Int.toNat).sum
def Avh{L:List Int}{x:Nat}{v:Int}(h:x<L.length):lk (L.set x v)+(L.getD x 0).toNat=lk L+v.toNat:=by
 unfold lk
 rw[X_ h]
 induction L generalizing x with
|nil=>simp at h
|cons a r d =>
  cases x with
  |zero=>simp;omega
  |succ x=>have:=d (x:=x) (by simpa using h);simp at this ⊢;omega
def Acb{L:List Int}{x y:Nat}{v:Int}(h:x<L.length):(L.set x v).getD y 0=if x=y then v else L.getD y 0:=by
 rw[A9e,A9e,List.getElem?_set]
 by_cases e:x=y
 ·subst e;simp[h]
 ·simp[e]
def A2v(a b:Int):Ms a b<=a/\Ms a b<=b/\(Ms a b=a\/Ms a b=b):=by
 unfold Ms
 by_cases h:b<a
 ·simp[h];omega
 ·simp[h];omega
def Axx {n:Nat} {es:List (Nat×Nat)} {e:Nat×Nat} (A:e ∈ es) (l:e.1<n) (s:e.2<n) {b:Bool} {L:List Int} (h:LeastOk n es L) :
    LeastOk n es (Hl (b,L) e).2/\(((Hl (b,L) e).1=true/\lk (Hl (b,L) e).2<lk L)\/((Hl (b,L) e)=(b,L)/\L.getD e.1 0=L.getD e.2 0)):=by
  obtain⟨u,v⟩:=e
  simp only at l s
  obtain⟨m1,m2,m3⟩:=A2v (L.getD u 0) (L.getD v 0)
  have d:u<L.length:=by rw[h.len];exact l
  have j:v<L.length:=by rw[h.len];exact s
  have f:Conn es u v:=.fwd A (.refl _)
  have Ao:∀ y,((L.set u (Ms (L.getD u 0) (L.getD v 0))).set v (Ms (L.getD u 0) (L.getD v 0))).getD y 0=if v=y then Ms (L.getD u 0) (L.getD v 0)else if u=y then Ms (L.getD u 0) (L.getD v 0)else L.getD y 0:=fun y=>by
    rw[Acb (by simpa using j),Acb d]
  have lu:=h.low u l
  have lv:=h.low v s
  refine⟨⟨by simp[Hl,h.len],fun y z=>?_,fun y z=>?_⟩,?_⟩
  · simp only[Hl,Ao]
    split
    · rename_i e;subst e;omega
    · split
      · rename_i e;subst e;omega
      · exact h.low y z
  · simp only[Hl,Ao]
    have cm:Conn es (Ms (L.getD u 0) (L.getD v 0)).toNat u:=by
      rcases m3 with e|e<;>rw[e]
      · exact h.con u l
      · exact(h.con v s).trans f.symm
    split
    · rename_i e;subst e;exact cm.trans f
    · split
      · rename_i e;subst e;exact cm
      · exact h.con y z
  · by_cases e1:L.getD u 0=Ms (L.getD u 0) (L.getD v 0)<;>by_cases t:L.getD v 0=Ms (L.getD u 0) (L.getD v 0)
    · right
      have q:(L.set u (Ms (L.getD u 0) (L.getD v 0))).set v (Ms (L.getD u 0) (L.getD v 0))=L:=by
        have key:∀ m:Int,L.getD u 0=m->L.getD v 0=m->(L.set u m).set v m=L:=by
          intro m B C
          have a1:L.set u m=L:=by rw[<-B,X_ d,Bdf]
          have a2:L.set v m=L:=by rw[<-C,X_ j,Bdf]
          rw[a1,a2]
        exact key _ e1 t
      have x1:(L.getD u 0 != Ms (L.getD u 0) (L.getD v 0))=false:=by simpa using e1
      have x2:(L.getD v 0 != Ms (L.getD u 0) (L.getD v 0))=false:=by simpa using t
      refine⟨by simp only[Hl,q,x1,x2,Bcg],by rw[e1];exact t.symm⟩
    all_goals
      left
      have D:=Avh (v:=Ms (L.getD u 0) (L.getD v 0)) d
      have k:=Avh (L:=L.set u (Ms (L.getD u 0) (L.getD v 0))) (x:=v) (v:=Ms (L.getD u 0) (L.getD v 0)) (by simpa using j)
      rw[Acb d]at k
      refine⟨?_,?_⟩
      · first
          | (have x2 : (L.getD v 0 != Ms (L.getD u 0) (L.getD v 0)) = true := by simpa using t
             simp only[Hl,x2,Ba9])
          | (have x1 : (L.getD u 0 != Ms (L.getD u 0) (L.getD v 0)) = true := by simpa using e1
             simp only[Hl,x1,Ba9,Bba])
      · simp only[Hl]
        split at k
        · rename_i e;subst e;omega
        · omega
def Ak6{n:Nat}{es:List (Nat×Nat)}(d:∀ e∈es,e.1<n/\e.2<n):∀(fs:List (Nat×Nat))(b:Bool)(L:List Int),(∀ e∈fs,e∈es)->LeastOk n es L ->
  LeastOk n es (fs.foldl Hl (b,L)).2/\(((fs.foldl Hl (b,L)).1=true/\(lk (fs.foldl Hl (b,L)).2<lk L\/(b=true/\lk (fs.foldl Hl (b,L)).2<=lk L)))\/((fs.foldl Hl (b,L))=(b,L)/\Avg fs L))
|[],b,L,_,h=>⟨h,.inr ⟨rfl,fun e d=>by simp at d⟩⟩
| e::r,b,L,l,h=>by
  have m:=l e (by simp)
  obtain⟨u,v⟩:=Axx m (d e m).1 (d e m).2 (b:=b) h
  rw[A9u]
  rcases v with⟨q,s⟩|⟨q,s⟩
  ·have y:Hl (b,L) e=(true,(Hl (b,L) e).2):=by rw[<-q]
   rw[y]
   obtain⟨t,f⟩:=Ak6 d r true (Hl (b,L) e).2 (fun x hx=>l x (A9r _ hx)) u
   refine⟨t,.inl ?_⟩
   rcases f with⟨j,k⟩|⟨j,_⟩
   ·exact⟨j,.inl (by rcases k with k|⟨_,k⟩<;>omega)⟩
   ·rw[j];exact⟨rfl,.inl s⟩
  ·rw[q]
   obtain⟨t,f⟩:=Ak6 d r b L (fun x hx=>l x (A9r _ hx)) h
   refine⟨t,?_⟩
   rcases f with f|⟨j,k⟩
   ·exact .inl f
   ·refine .inr ⟨j,fun x hx=>?_⟩
    rcases A88.1 hx with rfl|hx
    ·exact s
    ·exact k x hx
def ui{N:Nat}{es:List (Nat×Nat)}{n:Nat}{t o:Bool}(hs:Gn es.length N)(f:∀ e∈es,e.1<n/\e.2<n):∀(s fuel:Nat)(L:List Int),LeastOk n es L->lk L<=s->s+2<fuel ->
  ∃ L',LeastOk n es L'/\Avg es L'/\∀ K:Nat->LA->O R,Ec N K (es.flatMap Cd) es.length t o n fuel true (Av L)=K n (Av L')
| s,fuel+1,L,h,hL,q=>by
  obtain⟨k,l⟩:=Ak6 f es false L (fun _ hx=>hx) h
  have step:∀ K:Nat->LA->O R,Ec N K (es.flatMap Cd) es.length t o n (fuel+1) true (Av L)=Ec N K (es.flatMap Cd) es.length t o n fuel (es.foldl Hl (false,L)).1 (Av (es.foldl Hl (false,L)).2):=fun K=>by
   rw[Ec];unfold T8
   have:=uh (R:=R) (N:=N) (es:=es) (n:=n) (t:=t) (o:=o) (K1:=Ec N K (es.flatMap Cd) es.length t o n fuel) (K:=K) hs.2 f es.length 0 N (false,L) (by omega) hs.1 h.len
   simpa using this
  rcases l with⟨j,d⟩|⟨j,d⟩
  ·have m:lk (es.foldl Hl (false,L)).2<lk L:=by
    rcases d with d|⟨d,_⟩
    ·exact d
    ·cases d
   obtain⟨L',a1,a2,a3⟩:=ui hs f (s - 1) fuel _ k (by omega) (by omega)
   exact⟨L',a1,a2,fun K=>by rw[step,j];exact a3 K⟩
  ·refine⟨L,h,d,fun K=>?_⟩
   rw[step,j]
   rcases fuel with _|fuel
   ·omega
   ·rw[Ec];unfold T8;rfl
 termination_by s=>s
 decreasing_by omega
def uj{N:Nat}{es:List (Nat×Nat)}{n:Nat}{t o:Bool}{K:Nat->LA->O R}(hn:n<4611686018427387904)(L:List Int)(hL:L.length=n):∀(m j fuel:Nat),j+m=n->m<fuel ->
  Jq N K (n:Int) (es.flatMap Cd) es.length t o fuel n (j:Int) (Av ((Gs n).take j++L.drop j))=Ec N K (es.flatMap Cd) es.length t o n N true (Av (Gs n))
|0,j,fuel+1,e,_=>by
  rw[Jq];unfold T9
  rw[Gu (by omega),cf,Dm (by omega),A9g,A80 (by simp[Gs];omega)]
|m+1,j,fuel+1,e,f=>by
  rw[Jq];unfold T9
  have h:j<n:=by omega
  have d:((Gs n).take j++L.drop j).length=n:=by simp[Gs];omega
  rw[F1 h,ct,Ab h,ct,X' (by rw[d];simpa using h),ct,A8z,A89,A9j,DK,lj hL h,B0 (by omega),uj hn L hL m (j+1) fuel (by omega) (by omega)]
def Atu(n:Nat)(es:List (Nat×Nat)):LeastOk n es (Gs n):=by
 refine⟨by simp[Gs],fun b d=>?_,fun b d=>?_⟩
 ·rw[hG d];omega
 ·rw[hG d];exact .refl _
def A4z{L:List Int}{b:Nat}:(∀ x∈L,x.toNat<=b)->lk L<=L.length*b:=by
 unfold lk
 induction L with
|nil=>intro _;simp
|cons a r d =>
  intro h
  have e:=h a (by simp)
  have f:=d (fun x hx=>h x (A9r _ hx))
  simp[Ba0];omega
def ph{N:Nat}{es:List (Nat×Nat)}{n:Nat}{t o:Bool}(hs:Gn es.length N)(hn:n<=1000)(hN:n*n+1000<N)(f:∀ e∈es,e.1<n/\e.2<n):
  ∃ L,LeastOk n es L/\Avg es L/\∀(m:Nat)(K:Nat->LA->O R),m=es.length->Vo N (n:Int) (es.flatMap Cd) m t o K=K n (Av L):=by
 have d:lk (Gs n)<=n*n:=by
  have:=A4z (L:=Gs n) (b:=n) (by
   intro x hx;simp[Gs] at hx;obtain⟨a,s,rfl⟩:=hx;simp;omega)
  simpa[Gs]using this
 obtain⟨L,j,k,l⟩:=ui (R:=R) (N:=N) (es:=es) (n:=n) (t:=t) (o:=o) hs f (n*n) N (Gs n) (Atu n es) d (by omega)
 refine⟨L,j,k,fun m K q=>?_⟩
 subst q
 rw[ZD];unfold GI
 have ok:(decide ((0:Int)<=(n:Int))&&(decide ((n:Int)<=(n:Int))&&(decide ((n:Int)<=(140737488355328:Int))&&decide (((n:Int)*((8:Nat):Int))<=(140737488355328:Int)))))=true:=by simp;omega
 have e:replicate n (AV.int .i64 (0:Int))=Av (replicate n 0):=by simp[Av]
 have:=uj (R:=R) (N:=N) (es:=es) (n:=n) (t:=t) (o:=o) (K:=K) (by omega) (replicate n 0) (by simp) n 0 N (by omega) (by omega)
 rw[ok,ct,A8z,e,<-l K]
 simpa using this
def lm{N:Nat}{L:List Int}{t o:Bool}{K:Int->O R}(hs:L.length<6000000000000):∀(m j fuel:Nat)(a:Nat),j+m=L.length->m<fuel->a<=j ->
  Nl N K (Av L) L.length t o fuel (a:Int) (j:Int)=K ((a+((List.range' j m).filter fun b=>L.getD b 0==(b:Int)).length:Nat):Int)
|0,j,fuel+1,a,d,_,_=>by
  rw[Nl];unfold AP
  rw[Gu (by omega),cf];simp
| m+1,j,fuel+1,a,d,e,f=>by
  rw[Nl];unfold AP
  have h:j<L.length:=by omega
  rw[F1 h,ct,Ab h,ct,Xx h,B0 (by omega),B0 (by omega),Bc0,Ba3,X_ h]
  cases hx:L[j]==(j:Int)with
  |true =>
   rw[ct,lm hs m (j+1) fuel (a+1) (by omega) (by omega) (by omega)]
   simp;congr 1;omega
  |false =>
   rw[cf,lm hs m (j+1) fuel a (by omega) (by omega) (by omega)]
   simp
def Acd{N:Nat}{L:List Int}{n:Nat}{t o:Bool}{K:Int->O R}(hn:n=L.length)(hs:L.length<6000000000000)(hN:L.length<N):IL N (Av L) n t o K=K (A2u L:Int):=by
 subst hn
 rw[j1];unfold VX
 have:=lm (R:=R) (N:=N) (L:=L) (t:=t) (o:=o) (K:=K) hs L.length 0 N 0 (by omega) hN (by omega)
 simp only[Baa,A89]at this
 rw[A2u,List.range_eq_range']
 exact this
def pi(gone:List Int):List (Nat×Nat)->Nat->List (Nat×Nat)
|[],_=>[]
|e::r,j=>cond (gone.contains (j:Int)) (pi gone r (j+1)) (e::pi gone r (j+1))
def Ace{N:Nat}{es:List (Nat×Nat)}{gone:List Int}{n:Nat}{t o t2 o2:Bool}{K:Bool->O R}(z:es.length<=1000)(hlN:es.length<N)(hn:n<=1000)(hN:n*n+1000<N)(d:∀ e∈es,e.1<n/\e.2<n)(s:Gn gone.length N):∀(m j fuel:Nat)(A:List (Nat×Nat)),j+m=es.length->m<fuel->A.length<=j->(∀ e∈A,e.1<n/\e.2<n) ->
  G6 N K (n:Int) (es.flatMap Cd) es.length t o (Av gone) gone.length t2 o2 fuel A.length (j:Int) (A.flatMap Cd)=K (decide ((Ki n (A++pi gone (es.drop j) j):Int)>(Ki n es:Int)))
|0,j,fuel+1,A,B,_,hA,hAe=>by
  rw[G6];unfold Po
  obtain⟨L,a1,a2,a3⟩:=ph (R:=R) (N:=N) (es:=A) (n:=n) (t:=false) (o:=true) ⟨by omega,by omega⟩ hn hN hAe
  obtain⟨L',k,u,v⟩:=ph (R:=R) (N:=N) (es:=es) (n:=n) (t:=false) (o:=o) ⟨by omega,by omega⟩ hn hN d
  have l1:=a1.len;have l2:=k.len
  rw[Gu (by omega),cf,Dm (l:=es) (by omega),pi,A9g,A80 (by rw[hZ];exact A86 _),a3 _ _ rfl,A9j,A80 (by rw[Fp];omega),Acd (by omega) (by omega) (by omega),v _ _ rfl,A80 (by rw[Fp];omega),Acd (by omega) (by omega) (by omega),uf a1 a2 hAe,uf k u d]
| m+1,j,fuel+1,A,B,G,hA,hAe=>by
  rw[G6];unfold Po
  have h:j<es.length:=by omega
  have f:=Ace (N:=N) (es:=es) (gone:=gone) (n:=n) (t:=t) (o:=o) (t2:=t2) (o2:=o2) (K:=K) z hlN hn hN d s m (j+1) fuel (A++[es[j]]) (by omega) (by omega) (by simp;omega) (by
   intro e x
   rcases A87.1 x with q|q
   ·exact hAe e q
   ·simp at q;subst q;exact d _ (A9c h))
  have y:=Ace (N:=N) (es:=es) (gone:=gone) (n:=n) (t:=t) (o:=o) (t2:=t2) (o2:=o2) (K:=K) z hlN hn hN d s m (j+1) fuel A (by omega) (by omega) (by omega) hAe
  rw[F1 h,ct,VZ rfl s,Ab h,ct,A8z,A3 Xk _ _ h,Cj (l:=es) h,pi]
  generalize es[j]=e at *
  have k:ble 2 (List.length (Cd e++List.flatMap Cd (drop (j+1) es)))=true:=by rw[C1,A8y,Xk];simp
  have u:take 2 (Cd e++List.flatMap Cd (drop (j+1) es))=Cd e:=A9w (Xk e)
  have v:(ble (A.length+1) 140737488355328&&ble ((A.length+1)*16) 140737488355328)=true:=by rw[C1,C1];simp;omega
  have C:(!o||A0 (Cd e))=true:=by simp[Cd,A0]
  have D:take 2 (setCells [.int .i64 (0:Int),.int .i64 (0:Int)] 0 (Cd e))=Cd e:=rfl
  have F:take (A.length*2) (A.flatMap Cd)++Cd e=(A++[e]).flatMap Cd:=by
   rw[A80 (by rw[hZ];exact A86 _)];simp
  rw[k,ct,u,C,ct,Xk,show(beq 2 2&&ble 2 2)=true from rfl,ct,v,ct,D,F,B0 (by omega)]
  cases gone.contains (j:Int)with
  |true=>simp only[Bat,cond_false,cond_true];exact y
  |false =>
   simp only[A98,cond_true,cond_false]
   rw[A8y]at f
   simpa using f
def Acf{N:Nat}{es:List (Nat×Nat)}{gone:List Int}{n m m2:Nat}{t o t2 o2:Bool}{K:Bool->O R}(f:m=es.length)(d:m2=gone.length)(j:es.length<=1000)(hlN:es.length<N)(hn:n<=1000)(hN:n*n+1000<N)(k:∀ e∈es,e.1<n/\e.2<n)(l:Gn gone.length N):
  Tr N (n:Int) (es.flatMap Cd) m t o (Av gone) m2 t2 o2 K=K (decide ((Ki n (pi gone es 0):Int)>(Ki n es:Int))):=by
 subst f d
 rw[M'];unfold Wn
 have:=Ace (R:=R) (N:=N) (es:=es) (gone:=gone) (n:=n) (t:=t) (o:=o) (t2:=t2) (o2:=o2) (K:=K) j hlN hn hN k l es.length 0 N [] (by omega) hlN (by simp) (by simp)
 simpa using this
def Ek{p:C7}{ok:Bool}{w:Int×Int×Int}{e:{e:Int // e≠0}}(h:nd p ok w e=none):p=none/\ok=true:=by
 rcases p with _|x
 ·cases ok
  ·simp[nd]at h
  ·exact⟨rfl,rfl⟩
 ·simp[nd]at h
def Hm{α:Type}{f:Nat->α->C7->C7}(e:∀ j a x,f j a (some x)=some x):∀(l:List α)(j:Nat)(p:C7),Bc f l j p=none->p=none/\∀ i (h:i<l.length),f (j+i) l[i] none=none
|[],j,p,h=>by rw[Bc]at h;exact⟨h,fun i hi=>by simp at hi⟩
| a::r,j,p,h=>by
  rw[Bc]at h
  obtain⟨d,k⟩:=Hm e r (j+1) _ h
  have m:p=none:=by
   rcases p with _|x
   ·rfl
   ·rw[e]at d;cases d
  subst m
  refine⟨rfl,fun i hi=>?_⟩
  cases i with
  |zero=>simpa using d
  |succ i=>have:=k i (by simpa using hi);rw[show j+1+i=j+(i+1) by omega]at this;simpa using this
def TX{c:CaseD}(j:Nat)(x:BusD)(y:(Int×Int×Int)×{e:Int // e≠0}):lP c j x (some y)=some y:=rfl
def Zx{c:CaseD}(j:Nat)(x:LineD)(y:(Int×Int×Int)×{e:Int // e≠0}):X0 c j x (some y)=some y:=rfl
def M2{c:CaseD}(j:Nat)(x:StoreD)(y:(Int×Int×Int)×{e:Int // e≠0}):Qr c j x (some y)=some y:=rfl
def Su{c:CaseD}(j:Nat)(x:TieD)(y:(Int×Int×Int)×{e:Int // e≠0}):lR c j x (some y)=some y:=rfl
def Ve{c:CaseD}(j:Nat)(x:UnitD)(y:(Int×Int×Int)×{e:Int // e≠0}):CL c j x (some y)=some y:=by
 show cond (x.state==2) _ _=_
 cases x.state==2<;>rfl
def IE(c:CaseD):C7 :=
 let p:=Ze c none
 let p:=Bc (lP c) c.buses.l 0 p
 let p:=Bc (X0 c) c.lines.l 0 p
 let p:=Bc (CL c) c.units.l 0 p
 let p:=Bc (Qr c) c.stores.l 0 p
 let p:=Bc (lR c) c.ties.l 0 p
 Bc (SK c) c.outs.l 0 p
noncomputable def Avi(c:CaseD)(h:Int)(o:OutD):Bool:=(Ki c.buses.l.length (((A6 c h).filter fun l=>!o.lines.l.contains l).map (Fg c)):Int)==(Ki c.buses.l.length ((A6 c h).map (Fg c)):Int)
noncomputable def Ak7(c:CaseD)(h:Int)(j:Nat)(o:OutD)(p:C7):C7:=nd p (Avi c h o) (6,j,h) A8l
noncomputable def J5(c:CaseD):Nat->Nat->C7->C7
|0,_,p=>p
|m+1,j,p=>J5 c m (j+1) (Bc (Ak7 c j) c.outs.l 0 p)
def Axy{c:CaseD}{h:Int}(j:Nat)(x:OutD)(y:(Int×Int×Int)×{e:Int // e≠0}):Ak7 c h j x (some y)=some y:=rfl
def uk{c:CaseD}{y:(Int×Int×Int)×{e:Int // e≠0}}:∀(m j:Nat),J5 c m j (some y)=some y
|0,_=>rfl
|m+1,j=>by rw[J5,Bk (fun j a=>Axy j a y)];exact uk m (j+1)
noncomputable def In(c:CaseD):C7:=match IE c with
|some x=>some x
|none=>J5 c c.hours.toNat 0 none
structure PreV(c:CaseD):Prop where
 hours:1<=c.hours/\c.hours<=24
 nb:c.buses.l.length<=32
 nl:c.lines.l.length<=64
 no:c.outs.l.length<=64
 line:∀ x∈c.lines.l,0<=x.fr/\x.fr.toNat<c.buses.l.length/\0<=x.tl/\x.tl.toNat<c.buses.l.length
 out:∀ x∈c.outs.l,x.lines.l.length<=2
def Agt{c:CaseD}(h:IE c=none):PreV c:=by
 unfold IE at h
 obtain⟨n,o6⟩:=Hm (fun _ _ _=>Mk) _ _ _ h
 obtain⟨q,o5⟩:=Hm (fun j a x=>Su j a x) _ _ _ n
 obtain⟨s,o4⟩:=Hm (fun j a x=>M2 j a x) _ _ _ q
 obtain⟨t,o3⟩:=Hm (fun j a x=>Ve j a x) _ _ _ s
 obtain⟨u,o2⟩:=Hm (fun j a x=>Zx j a x) _ _ _ t
 obtain⟨l,o1⟩:=Hm (fun j a x=>TX j a x) _ _ _ u
 unfold Ze at l
 obtain⟨v,y⟩:=Ek l
 obtain⟨z,_⟩:=Ek v
 obtain⟨A,_⟩:=Ek z
 obtain⟨B,_⟩:=Ek A
 obtain⟨w3,f⟩:=Ek B
 obtain⟨C,d⟩:=Ek w3
 obtain⟨D,_⟩:=Ek C
 obtain⟨w0,_⟩:=Ek D
 obtain⟨_,k⟩:=Ek w0
 unfold Fv at k d
 simp at k d f y
 refine⟨k,by omega,by omega,by omega,fun x hx=>?_,fun x hx=>?_⟩
 ·obtain⟨i,hi,rfl⟩:=A9n hx
  have:=o2 i hi
  unfold X0 SA at this
  obtain⟨a,_⟩:=Ek this
  obtain⟨a,_⟩:=Ek a
  obtain⟨a,_⟩:=Ek a
  obtain⟨a,_⟩:=Ek a
  obtain⟨a,_⟩:=Ek a
  obtain⟨a,_⟩:=Ek a
  obtain⟨a,_⟩:=Ek a
  obtain⟨a,_⟩:=Ek a
  obtain⟨a,m⟩:=Ek a
  obtain⟨_,e⟩:=Ek a
  unfold JO at m e
  simp at m e
  omega
 ·obtain⟨i,hi,rfl⟩:=A9n hx
  have:=o6 i hi
  unfold SK WN at this
  obtain⟨a,_⟩:=Ek this
  obtain⟨a,_⟩:=Ek a
  obtain⟨a,_⟩:=Ek a
  obtain⟨a,_⟩:=Ek a
  obtain⟨a,_⟩:=Ek a
  obtain⟨a,_⟩:=Ek a
  obtain⟨a,_⟩:=Ek a
  obtain⟨_,e⟩:=Ek a
  simp at e
  omega
def PreV.lnV{c:CaseD}(v:PreV c){h:Int}{l:Int}(j:l∈A6 c h):∃ x,LnV c l x:=by
 have:=Aps h c.lines.l 0 l j
 have h0:0<=l:=by omega
 have f:l.toNat<c.lines.l.length:=by omega
 obtain⟨a,b,d,e⟩:=v.line _ (A9c f)
 exact⟨c.lines.l[l.toNat],h0,f,A84 f,a,b,d,e⟩
def w3(p:C7):LA:=match p with
|none=>[.int .i64 0,.int .i64 0,.int .i64 0]
|some ((a,b,f),_)=>[.int .i64 a,.int .i64 b,.int .i64 f]
def A0n{N:Nat}{c:CaseD}{p:C7}{o:Bool}{j:Nat}{K:Int->LA->O R}{K2:LA->Int->O R}(hs:Small c N)(h:j<c.buses.l.length):
  Wy N K K2 o c.av (j:Int) (D7 p)=K ((j+1:Nat):Int) (D7 (lP c j c.buses.l[j] p)):=by
 have hN:=hs.n64
 have hN8:8<=N:=by omega
 have d:=hs.bus
 have q:c.buses.l[j]∈c.buses.l:=A9c h
 have s:=hs.dem _ q
 have e:=@Ey R N c (c.buses.l.map (·.name)) o (k:=1) (n:=j) (hN:=hN) (hL:=fun K=>An0 hs) (hn:=by simpa using h) (hs:=⟨by have:=d.1;omega,by have:=d.2;omega⟩)
 have m:(c.buses.l.map (·.name))[j]'(by simpa using h)=c.buses.l[j].name:=by simp
 rw[m]at e
 unfold Wy
 simp only[Ik,D2,ct,e,Dn]
 rw[Ab h,ct,A8z,A3 Ir _ _ h]
 generalize c.buses.l[j]=b at *
 have t:∀(r:LA)(f:LA->Nat->O R),Bh 1 (drop 1 (b.av++r)) f=f (Av b.demand.l) b.demand.l.length:=fun r f=>by simp[BusD.av,Cq,By]
 have u:∀(r:LA)(f:Int->O R),As .i64 (drop 2 (b.av++r)) f=f b.shed:=fun r f=>by simp[BusD.av,A7]
 rw[t,Fs rfl s,ct,u,Fh hN8,Af (by decide),B0 (by have:=d.2;omega)]
 rfl
def Ak8{p:C7}{K:LA->Int->O R}:(cond (ble 3 (List.length (D7 p))) (As .i64 (drop 3 (D7 p)) fun x38=>cond ((beq (List.length (take 3 (D7 p))) 3)&&((ble 3 3)&&(!false))) (cond (ble 3 (List.length (setCells [.int .i64 (0:Int),.int .i64 (0:Int),.int .i64 (0:Int)] 0 (take 3 (D7 p))))) (K (take 3 (setCells [.int .i64 (0:Int),.int .i64 (0:Int),.int .i64 (0:Int)] 0 (take 3 (D7 p)))) x38) none) none) none)=K (w3 p) (B5 p):=by rcases p with _|⟨⟨a,b,f⟩,e,d⟩<;>simp[D7,RO,w3,B5,C1,setCells,C3,A7]
def um{N:Nat}{c:CaseD}{o:Bool}{K:LA->Int->O R}(hs:Small c N):∀(m j fuel:Nat)(p:C7),j+m=c.buses.l.length->m<fuel ->
  K6 N K o c.av fuel (j:Int) (D7 p)=Nt N K o c.av N 0 (D7 (Bc (lP c) (c.buses.l.drop j) j p))
|0,j,fuel+1,p,f,_=>by
  rw[K6];unfold A_
  rw[Dn,Gu (by omega),Dm (l:=c.buses.l) (by omega),Bc];rfl
| m+1,j,fuel+1,p,f,q=>by
  rw[K6];unfold A_
  have h:j<c.buses.l.length:=by omega
  have d:=hs.bus
  rw[Dn,F1 h,QT,Cj (l:=c.buses.l) h,Bc]
  rcases p with _|⟨x,e,k⟩
  ·simp only[B5,beq_self_eq_true,cond_true]
   rw[A0n hs h,um hs m (j+1) fuel _ (by omega) (by omega)]
  ·have n:(e==0)=false:=by simpa using k
   simp only[B5,n,beq_self_eq_true,cond_true,cond_false]
   rw[TX,Bk (fun _ _=>TX _ _ _)]
def uo{N:Nat}{c:CaseD}{o:Bool}{K:LA->Int->O R}(hs:Small c N):∀(m j fuel:Nat)(p:C7),j+m=c.lines.l.length->m<fuel ->
  Nt N K o c.av fuel (j:Int) (D7 p)=Ns N K o c.av N 0 (D7 (Bc (X0 c) (c.lines.l.drop j) j p))
|0,j,fuel+1,p,f,_=>by
  rw[Nt];unfold AZ
  rw[F9,Gu (by omega),Dm (l:=c.lines.l) (by omega),Bc];rfl
| m+1,j,fuel+1,p,f,q=>by
  rw[Nt];unfold AZ
  have h:j<c.lines.l.length:=by omega
  have d:=hs.lin
  rw[F9,F1 h,QT,Cj (l:=c.lines.l) h,Bc]
  rcases p with _|⟨x,e,k⟩
  ·simp only[B5,beq_self_eq_true,cond_true]
   rw[Ik,ct,D2,aZ hs h,B0 (by have:=d.2;omega),uo hs m (j+1) fuel _ (by omega) (by omega)]
  ·have n:(e==0)=false:=by simpa using k
   simp only[B5,n,beq_self_eq_true,cond_true,cond_false]
   rw[Zx,Bk (fun _ _=>Zx _ _ _)]
def uq{N:Nat}{c:CaseD}{o:Bool}{K:LA->Int->O R}(hs:Small c N):∀(m j fuel:Nat)(p:C7),j+m=c.units.l.length->m<fuel ->
  Ns N K o c.av fuel (j:Int) (D7 p)=Nr N K o c.av N 0 (D7 (Bc (CL c) (c.units.l.drop j) j p))
|0,j,fuel+1,p,f,_=>by
  rw[Ns];unfold AY
  rw[Mi,Gu (by omega),Dm (l:=c.units.l) (by omega),Bc];rfl
| m+1,j,fuel+1,p,f,q=>by
  rw[Ns];unfold AY
  have h:j<c.units.l.length:=by omega
  have d:=hs.uni
  rw[Mi,F1 h,QT,Cj (l:=c.units.l) h,Bc]
  rcases p with _|⟨x,e,k⟩
  ·simp only[B5,beq_self_eq_true,cond_true]
   rw[Ik,ct,D2,a_ hs h,B0 (by have:=d.2;omega),uq hs m (j+1) fuel _ (by omega) (by omega)]
  ·have n:(e==0)=false:=by simpa using k
   simp only[B5,n,beq_self_eq_true,cond_true,cond_false]
   rw[Ve,Bk (fun _ _=>Ve _ _ _)]
def ur{N:Nat}{c:CaseD}{o:Bool}{K:LA->Int->O R}(hs:Small c N):∀(m j fuel:Nat)(p:C7),j+m=c.stores.l.length->m<fuel ->
  Nr N K o c.av fuel (j:Int) (D7 p)=Nq N K o c.av N 0 (D7 (Bc (Qr c) (c.stores.l.drop j) j p))
|0,j,fuel+1,p,f,_=>by
  rw[Nr];unfold AX
  rw[O7,Gu (by omega),Dm (l:=c.stores.l) (by omega),Bc];rfl
| m+1,j,fuel+1,p,f,q=>by
  rw[Nr];unfold AX
  have h:j<c.stores.l.length:=by omega
  have d:=hs.sto
  rw[O7,F1 h,QT,Cj (l:=c.stores.l) h,Bc]
  rcases p with _|⟨x,e,k⟩
  ·simp only[B5,beq_self_eq_true,cond_true]
   rw[Ik,ct,D2,XZ hs h,B0 (by have:=d.2;omega),ur hs m (j+1) fuel _ (by omega) (by omega)]
  ·have n:(e==0)=false:=by simpa using k
   simp only[B5,n,beq_self_eq_true,cond_true,cond_false]
   rw[M2,Bk (fun _ _=>M2 _ _ _)]
def ut{N:Nat}{c:CaseD}{o:Bool}{K:LA->Int->O R}(hs:Small c N):∀(m j fuel:Nat)(p:C7),j+m=c.ties.l.length->m<fuel ->
  Nq N K o c.av fuel (j:Int) (D7 p)=Np N K o c.av N 0 (D7 (Bc (lR c) (c.ties.l.drop j) j p))
|0,j,fuel+1,p,f,_=>by
  rw[Nq];unfold AW
  rw[Wo,Gu (by omega),Dm (l:=c.ties.l) (by omega),Bc];rfl
| m+1,j,fuel+1,p,f,q=>by
  rw[Nq];unfold AW
  have h:j<c.ties.l.length:=by omega
  have d:=hs.tie
  rw[Wo,F1 h,QT,Cj (l:=c.ties.l) h,Bc]
  rcases p with _|⟨x,e,k⟩
  ·simp only[B5,beq_self_eq_true,cond_true]
   rw[Ik,ct,D2,fR hs h,B0 (by have:=d.2;omega),ut hs m (j+1) fuel _ (by omega) (by omega)]
  ·have n:(e==0)=false:=by simpa using k
   simp only[B5,n,beq_self_eq_true,cond_true,cond_false]
   rw[Su,Bk (fun _ _=>Su _ _ _)]
def uu{N:Nat}{c:CaseD}{o:Bool}{K:LA->Int->O R}(hs:Small c N):∀(m j fuel:Nat)(p:C7),j+m=c.outs.l.length->m<fuel ->
  Np N K o c.av fuel (j:Int) (D7 p)=Fi N K o c.av N 0 (D7 (Bc (SK c) (c.outs.l.drop j) j p))
|0,j,fuel+1,p,f,_=>by
  rw[Np];unfold AU
  rw[Pp,Gu (by omega),Dm (l:=c.outs.l) (by omega),Bc];rfl
| m+1,j,fuel+1,p,f,q=>by
  rw[Np];unfold AU
  have h:j<c.outs.l.length:=by omega
  have d:=hs.out
  rw[Pp,F1 h,QT,Cj (l:=c.outs.l) h,Bc]
  rcases p with _|⟨x,e,k⟩
  ·simp only[B5,beq_self_eq_true,cond_true]
   rw[Ik,ct,D2,TW hs h,B0 (by have:=d.2;omega),uu hs m (j+1) fuel _ (by omega) (by omega)]
  ·have n:(e==0)=false:=by simpa using k
   simp only[B5,n,beq_self_eq_true,cond_true,cond_false]
   rw[Mk,Bk (fun _ _=>Mk)]
def LR(ol:List Int):List Int->Nat->List Int
|[],_=>[]
|a::r,j=>cond (ol.contains a) ((j:Int)::LR ol r (j+1)) (LR ol r (j+1))
def Apu(ol:List Int):∀(l:List Int)(j:Nat)(x:Int),x∈LR ol l j->(j:Int)<=x
|[],_,_,h=>by simp[LR]at h
| a::r,j,x,h=>by
  rw[LR]at h
  have d:=Apu ol r (j+1) x
  cases hx:ol.contains a<;>rw[hx]at h<;>simp at h
  ·have:=d h;omega
  ·rcases h with rfl|h
   ·omega
   ·have:=d h;omega
def sP{f:Int->Nat×Nat}(ol:List Int):∀(l:List Int)(j:Nat)(pre:List Int),(∀ x∈pre,x<(j:Int))->pi (pre++LR ol l j) (l.map f) j=((l.filter fun a=>!ol.contains a).map f)
|[],_,_,_=>rfl
| a::r,j,pre,m=>by
  rw[A9a,pi,LR,Ba3]
  have e:¬ (j:Int)∈pre:=fun h=>by have:=m _ h;omega
  cases hx:ol.contains a with
  | true =>
   have n:(pre++cond true ((j:Int)::LR ol r (j+1)) (LR ol r (j+1))).contains (j:Int)=true:=by simp
   rw[n]
   have:=sP (f:=f) ol r (j+1) (pre++[(j:Int)]) (by
    intro x d
    rcases A87.1 d with k|k
    ·have:=m x k;omega
    ·simp at k;omega)
   simp only[cond_true,Bat,Bbl,if_false]
   rw[<-this];simp
  | false =>
   have n:(pre++cond false ((j:Int)::LR ol r (j+1)) (LR ol r (j+1))).contains (j:Int)=false:=by
    simp only[cond_false]
    rw[List.contains_eq_mem]
    simp only[decide_eq_false_iff_not,A87,not_or]
    exact⟨e,fun k=>by have:=Apu ol r (j+1) _ k;omega⟩
   rw[n]
   have:=sP (f:=f) ol r (j+1) pre (by intro x d;have:=m x d;omega)
   simp only[cond_false,A98,if_true,A9a]
   rw[this]
def YA{N:Nat}{c:CaseD}{o:Bool}{hr:Int}{j:Nat}{p:C7}{K7:Int->LA->O R}{K9:Int->Int->LA->O R}{K:LA->Int->O R}(hs:Small c N)(hN:4096<=N)(v:PreV c)(h:j<c.outs.l.length):∀(m q fuel:Nat)(A:List Int),q+m=(A6 c hr).length->m<fuel->A.length<=q ->
  A++LR c.outs.l[j].lines.l ((A6 c hr).drop q) q=LR c.outs.l[j].lines.l (A6 c hr) 0 ->
  Lt N K7 K9 K (A6 c hr).length (A6 c hr).length o c.av (((A6 c hr).map (Fg c)).flatMap Cd) (Av (A6 c hr)) fuel hr (j:Int) A.length (q:Int) (D7 p) (Av A)=K9 hr ((j+1:Nat):Int) (D7 (Ak7 c hr j c.outs.l[j] p))
| 0,q,fuel+1,A,hq,_,hA,d=>by
  rw[Lt];unfold Wz
  have D:=LQ hr c.lines.l 0
  have F:=v.nl
  have k:=v.nb
  have n:=hs.out
  have M:c.buses.l.length*c.buses.l.length<=32*32:=Bdm k k
  have s:(A6 c hr).length<=64:=by unfold A6;omega
  rw[Dm (l:=A6 c hr) (by omega),LR,A9g]at d
  have z:∀ e∈(A6 c hr).map (Fg c),e.1<c.buses.l.length/\e.2<c.buses.l.length:=by
   intro e z
   simp only[A9p]at z
   obtain⟨l,G,rfl⟩:=z
   obtain⟨x,hx⟩:=v.lnV G
   rw[hY hx];exact⟨hx.f1,hx.t1⟩
  rw[Gu (by omega),cf,Dn,A80 (by rw[hZ];simp),A9j,A80 (by rw[Fp];exact A86 _),
   Acf (by simp) rfl (by simp;omega) (by simp;omega) (by omega) (by omega) z ⟨by omega,by omega⟩,Af (by decide),B0 (by have:=n.2;omega)]
  have e1:pi A ((A6 c hr).map (Fg c)) 0=(((A6 c hr).filter fun a=>!c.outs.l[j].lines.l.contains a).map (Fg c)):=by
   rw[d]
   have:=sP (f:=Fg c) c.outs.l[j].lines.l (A6 c hr) 0 [] (by simp)
   simpa using this
  rw[e1]
  have I:Ki c.buses.l.length ((A6 c hr).map (Fg c))<=Ki c.buses.l.length (((A6 c hr).filter fun a=>!c.outs.l[j].lines.l.contains a).map (Fg c)):=Ats (by
   intro e t
   simp only[A9p,Bbg]at t ⊢
   obtain⟨l,⟨G,_⟩,rfl⟩:=t
   exact⟨l,G,rfl⟩)
  have S:(!decide ((Ki c.buses.l.length (((A6 c hr).filter fun a=>!c.outs.l[j].lines.l.contains a).map (Fg c)):Int)>(Ki c.buses.l.length ((A6 c hr).map (Fg c)):Int)))=Avi c hr c.outs.l[j]:=by
   unfold Avi
   generalize Ki c.buses.l.length ((A6 c hr).map (Fg c))=x at *
   generalize Ki c.buses.l.length (((A6 c hr).filter fun a=>!c.outs.l[j].lines.l.contains a).map (Fg c))=y at *
   by_cases L:x=y
   ·subst L;simp
   ·have a1:((y:Int)==(x:Int))=false:=by simp;omega
    rw[a1];simp;omega
  rw[S];rfl
| m+1,q,fuel+1,A,hq,hf,hA,d=>by
  rw[Lt];unfold Wz
  have u:q<(A6 c hr).length:=by omega
  have D:=LQ hr c.lines.l 0
  have F:=v.nl
  have s:(A6 c hr).length<=64:=by unfold A6;omega
  have T:c.outs.l[j]∈c.outs.l:=A9c h
  have U:=hs.oli _ T
  have V:∀(f:LA->Nat->O R),Bh 1 (drop 1 (drop (j*4) (List.flatMap OutD.av c.outs.l))) f=f (Av c.outs.l[j].lines.l) c.outs.l[j].lines.l.length:=fun f=>by rw[A3 Dd _ _ h];simp[OutD.av,Cq,By]
  have X:(ble (A.length+1) 140737488355328&&ble ((A.length+1)*8) 140737488355328)=true:=by rw[C1,C1];simp;omega
  have Y:take (A.length*1) (Av A)++[.int .i64 (q:Int)]=Av (A++[(q:Int)]):=xG (B:=[(q:Int)]) rfl
  rw[F1 u,ct,Pp,Ab h,ct,A8z,V,Ab u,ct,Ab9 (by simpa using u),A8z,X_ u,VZ rfl U,X,ct,Y,B0 (by omega)]
  rw[Cj u,LR]at d
  cases hx:c.outs.l[j].lines.l.contains (A6 c hr)[q]with
  |true =>
   rw[hx]at d
   have C:=YA (o:=o) (hr:=hr) (j:=j) (p:=p) (K7:=K7) (K9:=K9) (K:=K) hs hN v h m (q+1) fuel (A++[(q:Int)]) (by omega) (by omega) (by simp;omega) (by simpa using d)
   rw[A8y]at C
   simpa using C
  |false =>
   rw[hx]at d
   have C:=YA (o:=o) (hr:=hr) (j:=j) (p:=p) (K7:=K7) (K9:=K9) (K:=K) hs hN v h m (q+1) fuel A (by omega) (by omega) (by omega) (by simpa using d)
   simpa using C
def uv{N:Nat}{c:CaseD}{o:Bool}{hr:Int}{K7:Int->LA->O R}{K:LA->Int->O R}(hs:Small c N)(hN:4096<=N)(v:PreV c):∀(m j fuel:Nat)(p:C7),j+m=c.outs.l.length->m<fuel ->
  K5 N K7 K (A6 c hr).length (A6 c hr).length o c.av (((A6 c hr).map (Fg c)).flatMap Cd) (Av (A6 c hr)) fuel hr (j:Int) (D7 p)=K7 (wrap .i64 (hr+1)) (D7 (Bc (Ak7 c hr) (c.outs.l.drop j) j p))
|0,j,fuel+1,p,d,_=>by
  rw[K5];unfold AT
  rw[Pp,Gu (by omega),cf,Dm (l:=c.outs.l) (by omega),Bc]
|m+1,j,fuel+1,p,d,n=>by
  rw[K5];unfold AT
  have h:j<c.outs.l.length:=by omega
  have e:=LQ hr c.lines.l 0
  have f:=v.nl
  have k:=uv (o:=o) (hr:=hr) (K7:=K7) (K:=K) hs hN v m (j+1) fuel (Ak7 c hr j c.outs.l[j] p) (by omega) (by omega)
  have l10:=YA (R:=R) (N:=N) (c:=c) (o:=o) (hr:=hr) (j:=j) (p:=p) (K7:=K7) (K9:=K5 N K7 K (A6 c hr).length (A6 c hr).length o c.av (((A6 c hr).map (Fg c)).flatMap Cd) (Av (A6 c hr)) fuel) (K:=K) hs hN v h (A6 c hr).length 0 N [] (by omega) (by unfold A6;omega) (by simp) (by simp)
  rw[Pp,F1 h,ct,Cj (l:=c.outs.l) h,Bc,<-k,<-l10]
  rfl
def uw{N H:Nat}{c:CaseD}{o:Bool}{K:LA->Int->O R}(hs:Small c N)(hN:4096<=N)(v:PreV c)(hH:c.hours=(H:Int)):∀(m j fuel:Nat)(p:C7),j+m=H->m<fuel ->
  Fi N K o c.av fuel (j:Int) (D7 p)=K (w3 (J5 c m j p)) (B5 (J5 c m j p))
|0,j,fuel+1,p,d,_=>by
  rw[Fi];unfold Ty
  rw[Ky,hH,Gu (by omega),Ak8,J5];rfl
| m+1,j,fuel+1,p,d,q=>by
  rw[Fi];unfold Ty GS QA
  have s:=v.hours
  rw[Ky,hH,F1 (by omega),QT,Ak8]
  rcases p with _|⟨x,e,f⟩
  ·simp only[B5,beq_self_eq_true,cond_true]
   have l9:=uv (R:=R) (N:=N) (c:=c) (o:=o) (hr:=(j:Int)) (K7:=Fi N K o c.av fuel) (K:=K) hs hN v c.outs.l.length 0 N none (by omega) hs.out.1
   rw[Ik,ct,D2,Att hs (fun l k=>v.lnV k)]
   simp only[A9f,Baa]at l9
   rw[l9,B0 (by omega),uw hs hN v hH m (j+1) fuel _ (by omega) (by omega)];rfl
  ·have n:(e==0)=false:=by simpa using f
   simp only[B5,n,beq_self_eq_true,cond_true,cond_false]
   rw[uk]
def Apv{N:Nat}{c:CaseD}{o:Bool}{y:(Int×Int×Int)×{e:Int // e≠0}}{K:LA->Int->O R}{fuel:Nat}:Fi N K o c.av (fuel+1) 0 (D7 (some y))=K (w3 (some y)) (B5 (some y)):=by
 rw[Fi];unfold Ty
 rw[Ky,QT,Ak8]
 have d:(y.2.1==0)=false:=by simpa using y.2.2
 cases decide ((0:Int)<c.hours)<;>simp[B5,d]
def Acg{N:Nat}{c:CaseD}{o:Bool}{K:LA->Int->O R}(hs:Small c N)(hN:4096<=N):SO N c.av o K=K (w3 (In c)) (B5 (In c)):=by
 rw[jg];unfold WQ
 have d:[.int .i64 (0:Int),.int .i64 (0:Int),.int .i64 (0:Int),.int .i64 (0:Int)]=D7 none:=rfl
 rw[Ik,ct,D2,d,WP hs]
 have l0:=fun p=>um (R:=R) (N:=N) (c:=c) (o:=o) (K:=K) hs c.buses.l.length 0 N p (by omega) hs.bus.1
 have l2:=fun p=>uo (R:=R) (N:=N) (c:=c) (o:=o) (K:=K) hs c.lines.l.length 0 N p (by omega) hs.lin.1
 have l3:=fun p=>uq (R:=R) (N:=N) (c:=c) (o:=o) (K:=K) hs c.units.l.length 0 N p (by omega) hs.uni.1
 have l4:=fun p=>ur (R:=R) (N:=N) (c:=c) (o:=o) (K:=K) hs c.stores.l.length 0 N p (by omega) hs.sto.1
 have l5:=fun p=>ut (R:=R) (N:=N) (c:=c) (o:=o) (K:=K) hs c.ties.l.length 0 N p (by omega) hs.tie.1
 have l6:=fun p=>uu (R:=R) (N:=N) (c:=c) (o:=o) (K:=K) hs c.outs.l.length 0 N p (by omega) hs.out.1
 simp only[A9f,Baa]at l0 l2 l3 l4 l5 l6
 try dsimp only
 rw[l0,l2,l3,l4,l5,l6]
 show Fi N K o c.av N 0 (D7 (IE c))=_
 unfold In
 cases e:IE c with
|some y =>
  rcases N with _|N
  ·omega
  ·exact Apv
|none =>
  have v:=Agt e
  have f:=v.hours
  have:=uw (R:=R) (N:=N) (H:=c.hours.toNat) (c:=c) (o:=o) (K:=K) hs hN v (by omega) c.hours.toNat 0 N none (by omega) (by omega)
  simpa using this
def A40(p:C7):(w3 p).length=3:=by rcases p with _|⟨⟨a,b,f⟩,e⟩<;>rfl
def A0o(v n:Int)(f:1<=n)(j:n<=4611686018427387904):(wrap .u64 n==0)=false/\0<=wrap .i64 (Int.tmod (wrap .u64 v) (wrap .u64 n))/\wrap .i64 (Int.tmod (wrap .u64 v) (wrap .u64 n))<n:=by
 have hn:wrap .u64 n=n:=IntWalk.u64_in _ (by omega)
 have d:0<=wrap .u64 v:=by rw[IntKind.wrap_u64];omega
 rw[hn]
 have h0:0<=Int.tmod (wrap .u64 v) n:=Int.tmod_nonneg _ d
 have e:Int.tmod (wrap .u64 v) n<n:=Bdq _ (by omega)
 rw[wrap_i64 _ (by omega)]
 exact⟨by simp;omega,h0,e⟩
def nx{N:Nat}{l:List Int}{t o:Bool}(q:l.length<=9223372036854775807)(n:Int)(e:1<=n)(f:n<=4611686018427387904)(k:Nat)(j:k<=l.length):
  ∃(v:Int)(d:Nat),0<=v/\v<n/\d<=l.length/\∀ K:Int->Int->O R,Ag N n (Av l) l.length t o (k:Int) K=K v (d:Int):=by
 by_cases h:k<l.length
 ·obtain⟨a1,a2,a3⟩:=A0o l[k] n e f
  refine⟨_,k+1,a2,a3,by omega,fun K=>?_⟩
  rw[Yu];unfold AE
  have w0:wrap .i64 ((k:Int)+1)=((k+1:Nat):Int):=by rw[wrap_i64 _ (by omega)];omega
  have m:wrap .i64 (wrap .i64 ((k:Int)+1) - 1)=(k:Int):=by rw[w0,wrap_i64 _ (by omega)];omega
  rw[m,w0,Ab h,ct,Xx h,yU];unfold Ait
  rw[a1,cf,show decide ((k:Int)>=(l.length:Int))=false by simp;omega,cf]
 ·refine⟨0,k,by omega,by omega,j,fun K=>?_⟩
  rw[Yu];unfold AE
  rw[show decide ((k:Int)>=(l.length:Int))=true by simp;omega,ct]
def Ach{N m:Nat}{l:List Int}{t o:Bool}(f:l.length<=9223372036854775807)(n:Int)(q:1<=n)(s:n<=4611686018427387904)(y:m<=1000):∀(r j fuel:Nat)(k:Nat)(A:List Int),j+r=m->r<fuel->k<=l.length->A.length=j ->
  ∃(B:List Int)(u:Nat),B.length=r/\(∀ x∈B,0<=x/\x<n)/\u<=l.length/\∀ K:Nat->Int->LA->O R,G3 N K (m:Int) n (Av l) l.length t o fuel j (j:Int) (k:Int) (Av A)=K m (u:Int) (Av (A++B))
|0,j,fuel+1,k,A,z,_,d,hA=>by
  refine⟨[],k,rfl,by simp,d,fun K=>?_⟩
  rw[G3];unfold Pg
  have:j=m:=by omega
  subst this
  rw[Gu (A86 _),cf,A9g]
| r+1,j,fuel+1,k,A,z,U,d,hA=>by
  obtain⟨v,C,v0,v1,e,D⟩:=nx (R:=R) (N:=N) (t:=t) (o:=o) f n q s k d
  obtain⟨B,F,G,I,L,M⟩:=Ach f n q s y r (j+1) fuel C (A++[v]) (by omega) (by omega) e (by simp[hA])
  refine⟨v::B,F,by simp[G],?_,L,fun K=>?_⟩
  ·intro x hx
   rcases A88.1 hx with rfl|hx
   ·exact⟨v0,v1⟩
   ·exact I x hx
  ·rw[G3];unfold Pg
   have S:(ble (j+1) 140737488355328&&ble ((j+1)*8) 140737488355328)=true:=by rw[C1,C1];simp;omega
   have T:take (j*1) (Av A)++[.int .i64 v]=Av (A++[v]):=xG (B:=[v]) hA.symm
   rw[F1 (by omega),ct,D,S,ct,T,B0 (by omega),M]
   simp
def LU{N m:Nat}{l:List Int}{t o:Bool}(hN:1001<=N)(e:l.length<=9223372036854775807)(n:Int)(f:1<=n)(j:n<=4611686018427387904)(q:m<=1000)(k:Nat)(s:k<=l.length):
  ∃(B:List Int)(d:Nat),B.length=m/\(∀ x∈B,0<=x/\x<n)/\d<=l.length/\∀ K:Nat->Int->LA->O R,Hq N (m:Int) n (Av l) l.length t o (k:Int) K=K m (d:Int) (Av B):=by
 obtain⟨B,d,u,v,y,z⟩:=Ach (R:=R) (N:=N) (t:=t) (o:=o) e n f j q m 0 N k [] (by omega) (by omega) s rfl
 refine⟨B,d,u,v,y,fun K=>?_⟩
 rw[MT];unfold We
 simpa[Av]using z K
def sQ{N:Nat}{l:List Int}{t o:Bool}(f:l.length<=9223372036854775807)(H:Int)(s:1<=H)(C:H<=1000)(k:Nat)(y:k<=l.length):
  ∃(B:List Int)(j:Nat),B.length<=1/\(∀ x∈B,0<=x/\x<H)/\j<=l.length/\∀ K:Nat->Int->LA->O R,R7 N H (Av l) l.length t o (k:Int) K=K B.length (j:Int) (Av B):=by
 obtain⟨v,m,v0,v1,d,n⟩:=nx (R:=R) (N:=N) (t:=t) (o:=o) f 6 (by omega) (by omega) k y
 by_cases q:v=5
 ·obtain⟨u,z,u0,u1,e,A⟩:=nx (R:=R) (N:=N) (t:=t) (o:=o) f H s (by omega) m d
  refine⟨[u],z,by simp,by intro x hx;simp at hx;subst hx;exact⟨u0,u1⟩,e,fun K=>?_⟩
  rw[Yv];unfold AF
  rw[n,A,q];rfl
 ·refine⟨[],m,by simp,by simp,d,fun K=>?_⟩
  rw[Yv];unfold AF
  have:(v==5)=false:=by simpa using q
  rw[n,this];rfl
def A7q:Lu:=[48,49,50,51,52,53,54,55,56,57,97,98,99,100,101,102]
def V3{N:Nat}{c:UInt8}{i:Nat}(hi:i<16){K:Lu->O R}:VL N [c] (i:Int) K=K [c,A7q.getD i 0]:=by
 rw[tW];unfold yV
 have e1:Int.tmod (i:Int) 16=(i:Int):=Int.tmod_eq_of_lt (by omega) (by omega)
 rw[e1,B0 (by omega)]
 have c1:(decide ((0:Int)<=(i:Int))&&(decide ((i:Int)<=((i+1:Nat):Int))&&(decide (((i+1:Nat):Int)<=(16:Int))&&decide ((16:Int)<=(16:Int)))))=true:=by simp;omega
 rw[c1,ct]
 simp only[A8z,Bc1]
 have:take 1 (drop i ([48,49,50,51,52,53,54,55,56,57,97,98,99,100,101,102]:Lu))=[A7q.getD i 0]:=by
  rw[Cj (by simpa using hi)]
  simp[A7q,hi]
 rw[this];rfl
def Rr{a:Int}(h:-9223372036854775808<=a/\a<=9223372036854775807):wrap .i64 a=a:=wrap_i64 a h
def Gy{lo hi n:Int}(h:lo<=n/\n<=hi):Fv lo hi n=true:=by unfold Fv;simp;omega
structure LineG(i:Nat)(fr tx H:Int)(x:LineD):Prop where
 name:x.name=[108,A7q.getD i 0]
 fr:x.fr=fr
 tx:x.tl=tx
 re:(Fz x.re&&decide (x.re.num>0))=true
 smin:(Fz x.smin&&decide (x.smin.num<=0))=true
 smax:(Fz x.smax&&decide (x.smax.num>=0))=true
 lim:Fv 0 1048576 x.limit=true
 em:Fv x.limit 1048576 x.emer=true
 aw:x.away.l.length<=1
 awr:∀ y∈x.away.l,0<=y/\y<H
def Agu{f:FracD}(h:1<=f.den/\f.den<=1048576/\-1048576<=f.num/\f.num<=1048576):Fz f=true:=by unfold Fz;rw[Gy (by omega),Gy (by omega)];rfl
def Zy{B:List Int}:take (B.length*1) (Av B)=B.flatMap O9:=by rw[A9j,A80 (by rw[Fp];exact A86 _),By]
def hE{N:Nat}{l:List Int}{t o:Bool}(e:l.length<=9223372036854775807){i:Nat}(hi:i<16)(fr tx:Int){H:Int}(hH:1<=H/\H<=24)(k:Nat)(T:k<=l.length):
  ∃(x:LineD)(M:Nat),LineG i fr tx H x/\M<=l.length/\∀ K:LA->Int->O R,Wf N (i:Int) fr tx H (Av l) l.length t o (k:Int) K=K x.av (M:Int):=by
 obtain⟨y2,ky2,y20,y21,q,s⟩:=nx (R:=R) (N:=N) (t:=t) (o:=o) e 4 (by omega) (by omega) k T
 obtain⟨y4,ky4,y40,y41,u,v⟩:=nx (R:=R) (N:=N) (t:=t) (o:=o) e 2 (by omega) (by omega) ky2 q
 obtain⟨y6,ky6,y60,y61,y,z⟩:=nx (R:=R) (N:=N) (t:=t) (o:=o) e 40 (by omega) (by omega) ky4 u
 obtain⟨y8,ky8,y80,y81,A,C⟩:=nx (R:=R) (N:=N) (t:=t) (o:=o) e 20 (by omega) (by omega) ky6 y
 obtain⟨y10,ky10,y100,y101,d,f⟩:=nx (R:=R) (N:=N) (t:=t) (o:=o) e 5 (by omega) (by omega) ky8 A
 by_cases S:y10=4
 ·have e4:(y10==4)=true:=by simpa using S
  obtain⟨y12,ky12,y120,y121,j,D⟩:=nx (R:=R) (N:=N) (t:=t) (o:=o) e 4 (by omega) (by omega) ky10 d
  obtain⟨y14,ky14,y140,y141,m,F⟩:=nx (R:=R) (N:=N) (t:=t) (o:=o) e 2 (by omega) (by omega) ky12 j
  obtain⟨y16,ky16,y160,y161,n,G⟩:=nx (R:=R) (N:=N) (t:=t) (o:=o) e 4 (by omega) (by omega) ky14 m
  obtain⟨B,kB,I,L,hkB,hB⟩:=sQ (R:=R) (N:=N) (t:=t) (o:=o) e H hH.1 (by omega) ky16 n
  refine⟨⟨[108,A7q.getD i 0],fr,tx,⟨1+y2,1+y4⟩,⟨0 - y12,1+y14⟩,⟨y16,1⟩,4+y6,4+y6+y8,.of B false false⟩,kB,⟨rfl,rfl,rfl,?_,?_,?_,Gy (by simp only;omega),Gy (by simp only;omega),I,L⟩,hkB,fun K=>?_⟩
  ·rw[Agu (by simp only;omega)];simp;omega
  ·rw[Agu (by simp only;omega)];simp;omega
  ·rw[Agu (by simp only;omega)];simp;omega
  ·rw[Yw];unfold AG
   rw[V3 hi,s,v,z,C,f,e4,ct,D,F,G,hB,Zy,Rr (a:=1+y2) (by omega),Rr (a:=1+y4) (by omega),Rr (a:=0 - y12) (by omega),Rr (a:=1+y14) (by omega),Rr (a:=4+y6) (by omega),Rr (a:=4+y6+y8) (by omega)]
   rfl
 ·have e4:(y10==4)=false:=by simpa using S
  obtain⟨B,kB,I,L,hkB,hB⟩:=sQ (R:=R) (N:=N) (t:=t) (o:=o) e H hH.1 (by omega) ky10 d
  refine⟨⟨[108,A7q.getD i 0],fr,tx,⟨1+y2,1+y4⟩,⟨0,1⟩,⟨0,1⟩,4+y6,4+y6+y8,.of B false false⟩,kB,⟨rfl,rfl,rfl,?_,?_,?_,Gy (by simp only;omega),Gy (by simp only;omega),I,L⟩,hkB,fun K=>?_⟩
  ·rw[Agu (by simp only;omega)];simp;omega
  ·rw[Agu (by simp only;omega)];simp
  ·rw[Agu (by simp only;omega)];simp
  ·rw[Yw];unfold AG
   rw[V3 hi,s,v,z,C,f,e4,cf,hB,Zy,Rr (a:=1+y2) (by omega),Rr (a:=1+y4) (by omega),Rr (a:=4+y6) (by omega),Rr (a:=4+y6+y8) (by omega)]
   rfl
structure UnitG(i:Nat)(nb H:Int)(u:UnitD):Prop where
 name:u.name=[117,A7q.getD i 0]
 bus:0<=u.bus/\u.bus<nb
 min:Fv 0 1048576 u.min=true
 max:Fv u.min 1048576 u.max=true
 sl:1<=u.segs.l.length/\u.segs.l.length<=8
 sok:u.segs.l.all jf=true
 sord:dS u.segs.l=true
 ssum:(aO 0 u.segs.l==wrap .i64 (u.max - u.min))=true
 noLoad:Fv 0 1048576 u.noLoad=true
 rampUp:Fv 0 1048576 u.rampUp=true
 rampDown:Fv 0 1048576 u.rampDown=true
 startRamp:Fv u.min u.max u.startRamp=true
 stopRamp:Fv u.min u.max u.stopRamp=true
 upTime:Fv 0 24 u.upTime=true
 downTime:Fv 0 24 u.downTime=true
 startTime:Fv 0 24 u.startTime=true
 hotCost:Fv 0 1048576 u.hotCost=true
 coldCost:Fv 0 1048576 u.coldCost=true
 hotHours:Fv 0 24 u.hotHours=true
 reserve:Fv 0 1048576 u.reserve=true
 reservePrice:Fv 0 1048576 u.reservePrice=true
 aw:u.away.l.length<=1
 awr:∀ y∈u.away.l,0<=y/\y<H
 state:Fv 0 2 u.state=true
 starting:(u.state != 1||u.startTime != 0)=true
 hours:Fv 1 48 u.hours=true
 started:(u.state != 1||decide (u.hours<=u.startTime))=true
 output:cond (u.state==2) (Fv u.min u.max u.output) (Fv 0 0 u.output)=true
def Agv{s:SegD}:∀{S:List SegD},dS S=true->(∀ x∈S,x.price<=s.price)->dS (S++[s])=true
|[],_,_=>nk s
|[a],_,h=>by
  rw[A9k,A9t,KD,nk]
  have:=h a (by simp);simp;omega
|a::b::r,d,h=>by
  rw[KD]at d
  simp only[A81]at d
  rw[A9k,A9k,KD,d.1]
  have:=Agv (S:=b::r) d.2 (fun x hx=>h x (by rcases A88.1 hx with e|e<;>simp[e]))
  simpa using this
def Agw{s:SegD}:∀{S:List SegD}{a:Int},aO a (S++[s])=wrap .i64 (aO a S+s.width)
|[],a=>rfl
|x::r,a=>by rw[A9k,aO,aO];exact Agw
def A2w(S:List SegD):(S.flatMap SegD.av).length=S.length*2:=by
 induction S with
|nil=>rfl
|cons e r d=>rw[A9o,A8y,d,Qs];simp;omega
def sR{S:List SegD}{n:Nat}(h:n=S.length):take (n*2) (S.flatMap SegD.av)=S.flatMap SegD.av:=A80 (by rw[A2w,h];exact A86 _)
def TV{N:Nat}{l:List Int}{t o:Bool}(d:l.length<=9223372036854775807){i:Nat}{nb H bus mn noLoad:Int}(hb:0<=bus/\bus<nb)(hmn:0<=mn/\mn<8)(hno:0<=noLoad/\noLoad<20)(hH:1<=H/\H<=24):∀(n fuel:Nat)(p:Int)(k:Nat)(M:Int)(S:List SegD),n<fuel->k<=l.length->S.length+n<=2->1<=S.length+n->(∀ x∈S,x.price<=p/\jf x=true)->dS S=true->aO 0 S=M - mn->0<=M - mn->M - mn<=15*S.length->-10<=p->p<=20+10*S.length ->
  ∃(u:UnitD)(k':Nat),UnitG i nb H u/\k'<=l.length/\∀ K:LA->Int->O R,Gp N K H (Av l) l.length t o [117,A7q.getD i 0] bus mn noLoad fuel p (n:Int) (k:Int) M S.length (S.flatMap SegD.av)=K u.av (k':Int)
| 0,fuel+1,p,k,M,S,_,hk,hS,hS1,hp,ho,hw,hM0,hM1,_,_=>by
  obtain⟨y16,ky16,y160,y161,q,Y⟩:=nx (R:=R) (N:=N) (t:=t) (o:=o) d 20 (by omega) (by omega) k hk
  obtain⟨y18,ky18,y180,y181,s,hy18⟩:=nx (R:=R) (N:=N) (t:=t) (o:=o) d 20 (by omega) (by omega) ky16 q
  obtain⟨y20,ky20,y200,y201,v,hy20⟩:=nx (R:=R) (N:=N) (t:=t) (o:=o) d (M - mn+1) (by omega) (by omega) ky18 s
  obtain⟨y22,ky22,y220,y221,y,hy22⟩:=nx (R:=R) (N:=N) (t:=t) (o:=o) d (M - mn+1) (by omega) (by omega) ky20 v
  obtain⟨y24,ky24,y240,y241,z,hy24⟩:=nx (R:=R) (N:=N) (t:=t) (o:=o) d 3 (by omega) (by omega) ky22 y
  obtain⟨y26,ky26,y260,y261,A,hy26⟩:=nx (R:=R) (N:=N) (t:=t) (o:=o) d 3 (by omega) (by omega) ky24 z
  obtain⟨y28,ky28,y280,y281,C,hy28⟩:=nx (R:=R) (N:=N) (t:=t) (o:=o) d 2 (by omega) (by omega) ky26 A
  obtain⟨y30,ky30,y300,y301,D,hy30⟩:=nx (R:=R) (N:=N) (t:=t) (o:=o) d 30 (by omega) (by omega) ky28 C
  obtain⟨y32,ky32,y320,y321,F,hy32⟩:=nx (R:=R) (N:=N) (t:=t) (o:=o) d 30 (by omega) (by omega) ky30 D
  obtain⟨y34,ky34,y340,y341,G,hy34⟩:=nx (R:=R) (N:=N) (t:=t) (o:=o) d 4 (by omega) (by omega) ky32 F
  obtain⟨y36,ky36,y360,y361,I,hy36⟩:=nx (R:=R) (N:=N) (t:=t) (o:=o) d 8 (by omega) (by omega) ky34 G
  obtain⟨y38,ky38,y380,y381,L,hy38⟩:=nx (R:=R) (N:=N) (t:=t) (o:=o) d 4 (by omega) (by omega) ky36 I
  obtain⟨B,kB,b1,b2,hkB,hB⟩:=sQ (R:=R) (N:=N) (t:=t) (o:=o) d H hH.1 (by omega) ky38 L
  obtain⟨y43,ky43,y430,y431,T,hy43⟩:=nx (R:=R) (N:=N) (t:=t) (o:=o) d (2+y28) (by omega) (by omega) kB hkB
  obtain⟨y46,ky46,y460,y461,j,hy46⟩:=nx (R:=R) (N:=N) (t:=t) (o:=o) d 4 (by omega) (by omega) ky43 T
  have i43:Ad y43 3=true:=V2 y430 (by omega)
  obtain⟨x45,hx45,hst⟩:∃ x45:Int,(∀ f:Int->O R,As .i64 (drop (0+((Int.toNat y43)*1)) [.int .i64 (0:Int),.int .i64 (2:Int),.int .i64 (1:Int)]) f=f x45)/\(x45=0\/x45=2\/(x45=1/\y28=1)):=by
   have e:[.int .i64 (0:Int),.int .i64 (2:Int),.int .i64 (1:Int)]=Av [0,2,1]:=rfl
   refine⟨([0,2,1]:List Int).getD y43.toNat 0,fun f=>by rw[e,Ab9 (by simp;omega)],?_⟩
   have:y43=0\/y43=1\/y43=2:=by omega
   rcases this with rfl|rfl|rfl
   ·left;rfl
   ·right;left;rfl
   ·right;right;exact⟨rfl,by omega⟩
  have wM:wrap .i64 (wrap .i64 (M - mn)+1)=M - mn+1:=by rw[Rr (a:=M - mn) (by omega),Rr (by omega)]
  have head:∀ K:LA->Int->O R,Gp N K H (Av l) l.length t o [117,A7q.getD i 0] bus mn noLoad (fuel+1) p ((0:Nat):Int) (k:Int) M S.length (S.flatMap SegD.av) =
    On N K (Av l) l.length t o (ky46:Int) [117,A7q.getD i 0] bus mn M S.length noLoad y16 y18 y24 y26 y28 y30 y34 y36 y38 B.length x45 (S.flatMap SegD.av) (Av B) (mn+y20) (mn+y22) (y30+y32) (cond (x45==1) 1 (1+y46)):=fun K=>by
   rw[Gp];unfold R8
   rw[show decide (((0:Nat):Int)>0)=false from rfl,cf,wM,Y,hy18,hy20,hy22,hy24,hy26,hy28,hy30,hy32,hy34,hy36,hy38,hB,Rr (a:=2+y28) (by omega),hy43,i43,ct,hx45,hy46,Rr (a:=mn+y20) (by omega),Rr (a:=mn+y22) (by omega),Rr (a:=y30+y32) (by omega),Rr (a:=1+y46) (by omega)]
   cases x45==1<;>rfl
  have hhr:1<=(cond (x45==1) (1:Int) (1+y46))/\(cond (x45==1) (1:Int) (1+y46))<=4:=by cases x45==1<;>simp<;>omega
  have hst1:x45=1->cond (x45==1) (1:Int) (1+y46)=1:=by intro e;subst e;rfl
  have sall:S.all jf=true:=by rw[A9b];exact fun x hx=>(hp x hx).2
  have ssum:(aO 0 S==wrap .i64 (M - mn))=true:=by rw[Rr (a:=M - mn) (by omega),hw];simp
  have starting:(x45 != 1||y28 != 0)=true:=by
   rcases hst with h|h|⟨h,h'⟩
   ·rw[h];rfl
   ·rw[h];rfl
   ·rw[h,h'];rfl
  have started:(x45 != 1||decide ((cond (x45==1) (1:Int) (1+y46))<=y28))=true:=by
   rcases hst with h|h|⟨h,h'⟩
   ·rw[h];rfl
   ·rw[h];rfl
   ·rw[h,h'];rfl
  have stR:Fv 0 2 x45=true:=Gy (by omega)
  by_cases m:x45=2
  ·obtain⟨y48,ky48,y480,y481,U,hy48⟩:=nx (R:=R) (N:=N) (t:=t) (o:=o) d (M - mn+1) (by omega) (by omega) ky46 j
   refine⟨⟨[117,A7q.getD i 0],bus,mn,M,.of S false false,noLoad,y16,y18,mn+y20,mn+y22,y24,y26,y28,y30,y30+y32,y34,y36,y38,.of B false false,x45,cond (x45==1) 1 (1+y46),mn+y48⟩,ky48,
    ⟨rfl,hb,Gy (by simp only;omega),Gy (by simp only;omega),by simp only[Sl.l];omega,sall,ho,ssum,Gy (by simp only;omega),Gy (by simp only;omega),Gy (by simp only;omega),Gy (by simp only;omega),Gy (by simp only;omega),Gy (by simp only;omega),Gy (by simp only;omega),Gy (by simp only;omega),Gy (by simp only;omega),Gy (by simp only;omega),Gy (by simp only;omega),Gy (by simp only;omega),Gy (by simp only;omega),b1,b2,stR,starting,Gy (by simp only;omega),started,?_⟩,U,fun K=>?_⟩
   ·have:(x45==2)=true:=by simpa using m
    simp only[this,cond_true];exact Gy (by omega)
   ·rw[head];unfold On
    have:(x45==2)=true:=by simpa using m
    rw[this,ct,wM,hy48,Rr (a:=mn+y48) (by omega),sR rfl,Zy]
    rfl
  ·refine⟨⟨[117,A7q.getD i 0],bus,mn,M,.of S false false,noLoad,y16,y18,mn+y20,mn+y22,y24,y26,y28,y30,y30+y32,y34,y36,y38,.of B false false,x45,cond (x45==1) 1 (1+y46),0⟩,ky46,
    ⟨rfl,hb,Gy (by simp only;omega),Gy (by simp only;omega),by simp only[Sl.l];omega,sall,ho,ssum,Gy (by simp only;omega),Gy (by simp only;omega),Gy (by simp only;omega),Gy (by simp only;omega),Gy (by simp only;omega),Gy (by simp only;omega),Gy (by simp only;omega),Gy (by simp only;omega),Gy (by simp only;omega),Gy (by simp only;omega),Gy (by simp only;omega),Gy (by simp only;omega),Gy (by simp only;omega),b1,b2,stR,starting,Gy (by simp only;omega),started,?_⟩,j,fun K=>?_⟩
   ·have:(x45==2)=false:=by simpa using m
    simp only[this,cond_false];exact Gy (by omega)
   ·rw[head];unfold On
    have:(x45==2)=false:=by simpa using m
    rw[this,cf,sR rfl,Zy]
    rfl
| n+1,fuel+1,p,k,M,S,hf,hk,hS,hS1,hp,ho,hw,hM0,hM1,hp0,hp1=>by
  obtain⟨y12,ky12,y120,y121,V,hy12⟩:=nx (R:=R) (N:=N) (t:=t) (o:=o) d 15 (by omega) (by omega) k hk
  obtain⟨y14,ky14,y140,y141,X,hy14⟩:=nx (R:=R) (N:=N) (t:=t) (o:=o) d 10 (by omega) (by omega) ky12 V
  obtain⟨u,k',g1,g2,g3⟩:=TV (N:=N) (t:=t) (o:=o) (i:=i) (nb:=nb) (H:=H) (bus:=bus) (mn:=mn) (noLoad:=noLoad) d hb hmn hno hH n fuel (p+y14) ky14 (M+(1+y12)) (S++[(⟨1+y12,p⟩:SegD)]) (by omega) X (by simp;omega) (by simp;omega) (by
   intro x hx
   rcases A87.1 hx with h|h
   ·have:=hp x h;exact⟨by omega,this.2⟩
   ·simp at h;subst h
    refine⟨by simp only;omega,?_⟩
    unfold jf;rw[Gy (by simp only;omega),Gy (by simp only;omega)];rfl) (Agv ho fun x hx=>(hp x hx).1) (by rw[Agw,hw,Rr (by simp only;omega)];simp only;omega) (by omega) (by simp;omega) (by omega) (by simp;omega)
  refine⟨u,k',g1,g2,fun K=>?_⟩
  rw[Gp];unfold R8
  have c3:(ble (S.length+1) 140737488355328&&ble ((S.length+1)*16) 140737488355328)=true:=by rw[C1,C1];simp;omega
  have c5:take (S.length*2) (S.flatMap SegD.av)++[.int .i64 (1+y12),.int .i64 p]=(S++[(⟨1+y12,p⟩:SegD)]).flatMap SegD.av:=by rw[sR rfl];simp[SegD.av]
  have wn:wrap .i64 (((n+1:Nat):Int) - 1)=(n:Int):=mz (by omega)
  rw[show decide (((n+1:Nat):Int)>0)=true from decide_eq_true (by omega),ct,hy12,c3,ct,hy14,Rr (a:=1+y12) (by omega),Rr (a:=p+y14) (by omega),wn,Rr (a:=M+(1+y12)) (by omega),c5]
  have:=g3 K
  rw[A8y]at this
  exact this
def sO{N:Nat}{l:List Int}{t o:Bool}(hN:8<=N)(e:l.length<=9223372036854775807){i:Nat}(hi:i<16){nb H:Int}(B:1<=nb/\nb<=1000)(hH:1<=H/\H<=24)(k:Nat)(C:k<=l.length):
  ∃(u:UnitD)(v:Nat),UnitG i nb H u/\v<=l.length/\∀ K:LA->Int->O R,Wg N (i:Int) nb H (Av l) l.length t o (k:Int) K=K u.av (v:Int):=by
 obtain⟨y2,ky2,y20,y21,f,x⟩:=nx (R:=R) (N:=N) (t:=t) (o:=o) e nb (by omega) (by omega) k C
 obtain⟨y4,ky4,y40,y41,j,y⟩:=nx (R:=R) (N:=N) (t:=t) (o:=o) e 8 (by omega) (by omega) ky2 f
 obtain⟨y6,ky6,y60,y61,m,z⟩:=nx (R:=R) (N:=N) (t:=t) (o:=o) e 20 (by omega) (by omega) ky4 j
 obtain⟨y8,ky8,y80,y81,q,A⟩:=nx (R:=R) (N:=N) (t:=t) (o:=o) e 20 (by omega) (by omega) ky6 m
 obtain⟨y10,ky10,y100,y101,d,s⟩:=nx (R:=R) (N:=N) (t:=t) (o:=o) e 2 (by omega) (by omega) ky8 q
 obtain⟨n,hn⟩:∃ n:Nat,1+y10=(n:Int):=⟨(1+y10).toNat,by omega⟩
 obtain⟨u,v,D,F,G⟩:=TV (R:=R) (N:=N) (l:=l) (t:=t) (o:=o) e (i:=i) (nb:=nb) (H:=H) (bus:=y2) (mn:=y4) (noLoad:=y6) ⟨y20,y21⟩ ⟨y40,y41⟩ ⟨y60,y61⟩ hH n N (y8 - 2) ky10 y4 [] (by omega) d (by simp;omega) (by simp;omega) (by simp) zI (by simp[aO]) (by omega) (by simp) (by omega) (by simp;omega)
 refine⟨u,v,D,F,fun K=>?_⟩
 rw[RQ];unfold AH
 rw[V3 hi,x,y,z,A,s,Rr (a:=y8 - 2) (by omega),Rr (a:=1+y10) (by omega),hn]
 simpa using G K
structure OutG(i:Nat)(nl nu:Nat)(x:OutD):Prop where
 name:x.name=[111,A7q.getD i 0]
 ll:x.lines.l.length=1\/x.lines.l.length=2
 lr:∀ y∈x.lines.l,0<=y/\y<(nl:Int)
 la:gM x.lines.l=true
 ml:x.moves.l.length<=nu
 mc:((x.moves.l.length:Int)==0||x.corr)=true
 mr:∀ m∈x.moves.l,0<=m.unit/\m.unit<(nu:Int)
 ma:gM (x.moves.l.map (·.unit))=true
 mi:x.moves.l.all vd=true
def Apw{s:Int}:∀{S:List Int},gM S=true->(∀ x∈S,x<s)->gM (S++[s])=true
|[],_,_=>VY s
|[a],_,h=>by
  rw[A9k,A9t,Yz,VY]
  have:=h a (by simp);simp;omega
|a::b::r,d,h=>by
  rw[Yz]at d
  simp only[A81]at d
  rw[A9k,A9k,Yz,d.1]
  have:=Apw (S:=b::r) d.2 (fun x hx=>h x (by rcases A88.1 hx with e|e<;>simp[e]))
  simpa using this
def A0p(S:List MoveD):(S.flatMap MoveD.av).length=S.length*3:=by
 induction S with
|nil=>rfl
|cons e r d=>rw[A9o,A8y,d,Fu];simp;omega
def sS{N:Nat}{l:List Int}{t o:Bool}(s:l.length<=9223372036854775807){i nl nu:Nat}(u:nu<=16){B:List Int}(hB1:B.length=1\/B.length=2)(hB2:∀ y∈B,0<=y/\y<(nl:Int))(hB3:gM B=true):∀(m j fuel:Nat)(k:Nat)(S:List MoveD),j+m=nu->m<fuel->k<=l.length->S.length<=j->(∀ x∈S,0<=x.unit/\x.unit<(j:Int))->gM (S.map (·.unit))=true->S.all vd=true ->
  ∃(x:OutD)(q:Nat),OutG i nl nu x/\q<=l.length/\∀ K:LA->Int->O R,F7 N K (nu:Int) (Av l) l.length t o [111,A7q.getD i 0] B.length (Av B) fuel (j:Int) (k:Int) S.length (S.flatMap MoveD.av)=K x.av (q:Int)
|0,j,fuel+1,k,S,M,_,C,hS,hr,A,hi=>by
  have D:j=nu:=by omega
  subst D
  refine⟨⟨[111,A7q.getD i 0],.of B false false,true,.of S false false⟩,k,⟨rfl,hB1,hB2,hB3,hS,by simp,hr,A,hi⟩,C,fun K=>?_⟩
  rw[F7];unfold Jm
  rw[Gu (A86 _),cf,Zy,A80 (by rw[A0p];exact A86 _)]
  rfl
| m+1,j,fuel+1,k,S,M,X,C,hS,hr,A,hi=>by
  obtain⟨y10,ky10,y100,y101,d,e⟩:=nx (R:=R) (N:=N) (t:=t) (o:=o) s 2 (by omega) (by omega) k C
  by_cases L:y10=1
  ·obtain⟨y12,ky12,y120,y121,f,v⟩:=nx (R:=R) (N:=N) (t:=t) (o:=o) s 8 (by omega) (by omega) ky10 d
   obtain⟨y14,ky14,y140,y141,n,z⟩:=nx (R:=R) (N:=N) (t:=t) (o:=o) s 8 (by omega) (by omega) ky12 f
   obtain⟨x,q,F,G,I⟩:=sS (N:=N) (t:=t) (o:=o) (i:=i) (nl:=nl) (nu:=nu) s u hB1 hB2 hB3 m (j+1) fuel ky14 (S++[(⟨j,y12,y14⟩:MoveD)]) (by omega) (by omega) n (by simp;omega) (by
    intro x hx
    rcases A87.1 hx with h|h
    ·have:=hr x h;omega
    ·simp at h;subst h;simp only;omega) (by
    rw[A93];exact Apw A (by
     intro x hx
     simp only[A9p]at hx
     obtain⟨y,T,rfl⟩:=hx
     exact(hr y T).2)) (by
    rw[List.all_append,hi]
    simp only[A9i,A9z,A91,Bav]
    unfold vd;rw[Gy (by simp only;omega),Gy (by simp only;omega)];rfl)
   refine⟨x,q,F,G,fun K=>?_⟩
   rw[F7];unfold Jm
   have e1:(y10==1)=true:=by simpa using L
   have U:(ble (S.length+1) 140737488355328&&ble ((S.length+1)*24) 140737488355328)=true:=by rw[C1,C1];simp;omega
   have V:take (S.length*3) (S.flatMap MoveD.av)++[.int .i64 (j:Int),.int .i64 y12,.int .i64 y14]=(S++[(⟨j,y12,y14⟩:MoveD)]).flatMap MoveD.av:=by
    rw[A80 (by rw[A0p];exact A86 _)];simp[MoveD.av]
   rw[F1 (by omega),ct,e,e1,ct,v,z,U,ct,V,B0 (by omega)]
   have:=I K
   rw[A8y]at this
   exact this
  ·obtain⟨x,q,F,G,I⟩:=sS (N:=N) (t:=t) (o:=o) (i:=i) (nl:=nl) (nu:=nu) s u hB1 hB2 hB3 m (j+1) fuel ky10 S (by omega) (by omega) d (by omega) (by intro x hx;have:=hr x hx;omega) A hi
   refine⟨x,q,F,G,fun K=>?_⟩
   rw[F7];unfold Jm
   have e1:(y10==1)=false:=by simpa using L
   rw[F1 (by omega),ct,e,e1,cf,B0 (by omega),I]
def Agx{N:Nat}{l:List Int}{t o:Bool}(hN:64<=N)(m:l.length<=9223372036854775807){i nl nu:Nat}(j:nu<=16){B:List Int}(hB1:B.length=1\/B.length=2)(hB2:∀ y∈B,0<=y/\y<(nl:Int))(hB3:gM B=true)(k:Nat)(q:k<=l.length):
  ∃(x:OutD)(f:Nat),OutG i nl nu x/\f<=l.length/\∀ K:LA->Int->O R,F8 N K (nu:Int) (Av l) l.length t o [111,A7q.getD i 0] (k:Int) B.length (Av B)=K x.av (f:Int):=by
 obtain⟨y8,ky8,y80,y81,d,e⟩:=nx (R:=R) (N:=N) (t:=t) (o:=o) m 2 (by omega) (by omega) k q
 by_cases n:y8=1
 ·obtain⟨x,f,s,u,v⟩:=sS (R:=R) (N:=N) (t:=t) (o:=o) (i:=i) (nl:=nl) (nu:=nu) m j hB1 hB2 hB3 nu 0 N ky8 [] (by omega) (by omega) d (by simp) (by simp) mw rfl
  refine⟨x,f,s,u,fun K=>?_⟩
  unfold F8 M7
  have e1:(y8==1)=true:=by simpa using n
  rw[e,e1,ct]
  simpa using v K
 ·refine⟨⟨[111,A7q.getD i 0],.of B false false,false,.of [] false false⟩,ky8,⟨rfl,hB1,hB2,hB3,by simp[Sl.l],by simp[Sl.l],by simp[Sl.l],mw,rfl⟩,d,fun K=>?_⟩
  unfold F8 M7
  have e1:(y8==1)=false:=by simpa using n
  rw[e,e1,cf,Zy]
  rfl
def Apx{N:Nat}{l:List Int}{t o:Bool}(hN:64<=N)(n:l.length<=9223372036854775807){i nl nu:Nat}(hi:i<16)(M:1<=nl/\nl<=1000)(q:nu<=16)(k:Nat)(S:k<=l.length):
  ∃(x:OutD)(d:Nat),OutG i nl nu x/\d<=l.length/\∀ K:LA->Int->O R,Qg N (i:Int) (nl:Int) (nu:Int) (Av l) l.length t o (k:Int) K=K x.av (d:Int):=by
 obtain⟨y2,ky2,y20,y21,s,j⟩:=nx (R:=R) (N:=N) (t:=t) (o:=o) n (nl:Int) (by omega) (by omega) k S
 obtain⟨y4,ky4,y40,y41,e,m⟩:=nx (R:=R) (N:=N) (t:=t) (o:=o) n (nl:Int) (by omega) (by omega) ky2 s
 have one:∀ D,D<=l.length->∃(x:OutD)(d:Nat),OutG i nl nu x/\d<=l.length/\∀ K:LA->Int->O R,F8 N K (nu:Int) (Av l) l.length t o [111,A7q.getD i 0] (D:Int) 1 [.int .i64 y2]=K x.av (d:Int):=fun D F =>
  Agx (i:=i) (nl:=nl) hN n q (B:=[y2]) (.inl rfl) (by intro y u;simp at u;subst u;exact⟨y20,y21⟩) (VY _) D F
 by_cases G:y4>y2
 ·obtain⟨y6,ky6,y60,y61,f,v⟩:=nx (R:=R) (N:=N) (t:=t) (o:=o) n 3 (by omega) (by omega) ky4 e
  by_cases L:y6=2
  ·obtain⟨x,d,z,A,C⟩:=Agx (R:=R) (N:=N) (t:=t) (o:=o) (i:=i) (nl:=nl) (nu:=nu) hN n q (B:=[y2,y4]) (.inr rfl) (by intro y u;simp at u;rcases u with rfl|rfl<;>omega) (by rw[Yz,VY];simp;omega) ky6 f
   refine⟨x,d,z,A,fun K=>?_⟩
   rw[M8];unfold Kn
   have e1:decide (y4>y2)=true:=by simpa using G
   have I:(y6==2)=true:=by simpa using L
   rw[V3 hi,j,m,e1,v,I]
   simpa[Av]using C K
  ·obtain⟨x,d,z,A,C⟩:=one ky6 f
   refine⟨x,d,z,A,fun K=>?_⟩
   rw[M8];unfold Kn
   have e1:decide (y4>y2)=true:=by simpa using G
   have I:(y6==2)=false:=by simpa using L
   rw[V3 hi,j,m,e1,v,I]
   exact C K
 ·obtain⟨x,d,z,A,C⟩:=one ky4 e
  refine⟨x,d,z,A,fun K=>?_⟩
  rw[M8];unfold Kn
  have e1:decide (y4>y2)=false:=by simpa using G
  rw[V3 hi,j,m,e1]
  exact C K
def kE(f:Bool)(H:Nat)(res:List Int)(bs:List BusD)(ls:List LineD)(us:List UnitD)(ss:List StoreD)(ts:List TieD)(os:List OutD):CaseD:=⟨(H:Int),.of res false f,.of bs false f,.of ls false f,.of us false f,.of ss false f,.of ts false f,.of os false f⟩
structure BusG(i H:Nat)(b:BusD):Prop where
 name:b.name=[98,A7q.getD i 0]
 dl:b.demand.l.length=H
 dr:∀ x∈b.demand.l,0<=x/\x<14
 shed:0<=b.shed/\b.shed<300
structure StoreG(nb:Nat)(x:StoreD):Prop where
 name:x.name=[115,48]
 bus:0<=x.bus/\x.bus<(nb:Int)
 cap:0<=x.capacity/\x.capacity<20
 ini:0<=x.initial/\x.initial<=x.capacity
 fin:0<=x.final/\x.final<=x.capacity
 ch:0<=x.charge/\x.charge<8
 dis:0<=x.discharge/\x.discharge<8
 eff:1<=x.eff.num/\x.eff.num<=4/\x.eff.den=4
structure TieG(nb H:Nat)(x:TieD):Prop where
 name:x.name=[116,48]
 bus:0<=x.bus/\x.bus<(nb:Int)
 il:x.imp.l.length=H
 ir:∀ y∈x.imp.l,0<=y/\y<12
 el:x.exp.l.length=H
 er:∀ y∈x.exp.l,0<=y/\y<12
 pl:x.price.l.length=H
 pr:∀ y∈x.price.l,0<=y/\y<40
structure LineH(nb:Nat)(i:Nat)(H:Int)(x:LineD):Prop where
 g:LineG i x.fr x.tl H x
 fr:0<=x.fr/\x.fr<(nb:Int)
 tx:0<=x.tl/\x.tl<(nb:Int)
 ne:x.fr≠x.tl
structure BaseG(H:Nat)(res:List Int)(bs:List BusD)(ls:List LineD)(us:List UnitD)(ss:List StoreD)(ts:List TieD):Prop where
 h:1<=H/\H<=3
 rl:res.length=H
 rr:∀ x∈res,0<=x/\x<5
 bl:1<=bs.length/\bs.length<=4
 bg:∀ i (h:i<bs.length),BusG i H bs[i]
 ll:ls.length<=7
 lg:∀ i (h:i<ls.length),LineH bs.length i H ls[i]
 ul:1<=us.length/\us.length<=3
 ug:∀ i (h:i<us.length),UnitG i bs.length H us[i]
 sl:ss.length<=1
 sg:∀ x∈ss,StoreG bs.length x
 tl:ts.length<=1
 tg:∀ x∈ts,TieG bs.length H x
structure OutsG(nl nu:Nat)(os:List OutD):Prop where
 l:os.length<=3
 g:∀ i (h:i<os.length),OutG i nl nu os[i]
def Axz{N:Nat}(hN:4096<=N){f:Bool}{H:Nat}{res:List Int}{bs:List BusD}{ls:List LineD}{us:List UnitD}{ss:List StoreD}{ts:List TieD}{os:List OutD}(b:BaseG H res bs ls us ss ts)(g:OutsG ls.length us.length os):Small (kE f H res bs ls us ss ts os) N:=by
 have h:=b.h;have rl:=b.rl;have bl:=b.bl;have ll:=b.ll;have ul:=b.ul;have sl:=b.sl;have tl:=b.tl;have ol:=g.l
 have fit:∀ n:Nat,n<=100->Gn n N:=fun n hn=>⟨by omega,by omega⟩
 refine⟨by omega,fit _ (by simp only[kE,Sl.l];omega),fit _ (by simp only[kE,Sl.l];omega),fit _ (by simp only[kE,Sl.l];omega),fit _ (by simp only[kE,Sl.l];omega),fit _ (by simp only[kE,Sl.l];omega),fit _ (by simp only[kE,Sl.l];omega),fit _ (by simp only[kE,Sl.l];omega),
  fun x hx=>?_,fun x hx=>?_,fun x hx=>?_,fun x hx=>?_,fun x hx=>?_,fun x hx=>?_,fun x hx=>?_,fun x hx=>?_,fun x hx=>?_,fun x hx=>?_,by simp only[kE,Sl.l];omega⟩
 all_goals simp only[kE,Sl.l]at hx
 ·obtain⟨i,hi,rfl⟩:=A9n hx;have:=(b.bg i hi).dl;exact fit _ (by omega)
 ·obtain⟨i,hi,rfl⟩:=A9n hx;have:=(b.lg i hi).g.aw;exact fit _ (by omega)
 ·obtain⟨i,hi,rfl⟩:=A9n hx;have:=(b.ug i hi).sl;exact fit _ (by omega)
 ·obtain⟨i,hi,rfl⟩:=A9n hx;have:=(b.ug i hi).aw;exact fit _ (by omega)
 ·have:=(b.tg x hx).il;exact fit _ (by omega)
 ·have:=(b.tg x hx).el;exact fit _ (by omega)
 ·have:=(b.tg x hx).pl;exact fit _ (by omega)
 ·obtain⟨i,hi,rfl⟩:=A9n hx;have:=(g.g i hi).ll;exact fit _ (by omega)
 ·obtain⟨i,hi,rfl⟩:=A9n hx;have:=(g.g i hi).ml;exact fit _ (by omega)
 ·obtain⟨i,hi,rfl⟩:=A9n hx;have:=(g.g i hi).ml;omega
def DL{α:Type}{e:α->LA}{sz:Nat}(d:∀ a,(e a).length=sz)(l:List α):(l.flatMap e).length=l.length*sz:=by
 induction l with
|nil=>simp
|cons a r f=>rw[A9o,A8y,f,d,A83,Ba0];omega
def Cx{α:Type}{e:α->LA}{sz n:Nat}(d:∀ a,(e a).length=sz)(l:List α)(hn:n=l.length):take (n*sz) (l.flatMap e)=l.flatMap e:=A80 (by rw[DL d,hn];exact A86 _)
def Rs{B:List Int}{n:Nat}(h:n=B.length):take (n*1) (Av B)=B.flatMap O9:=by rw[h];exact Zy
def fT{α:Type}{P:Nat->α->Prop}{l:List α}{x:α}(h:∀ i (h:i<l.length),P i l[i])(hx:P l.length x):∀ i (h:i<(l++[x]).length),P i (l++[x])[i]:=by
 intro i hi
 by_cases d:i<l.length
 ·rw[List.getElem_append_left d];exact h i d
 ·have:i=l.length:=by simp at hi;omega
  subst this
  simpa using hx
def Atv{p:C7}(h:(B5 p==0)=true):p=none:=by
 rcases p with _|⟨x,e,d⟩
 ·rfl
 ·simp[B5]at h;exact absurd h d
def Ak9{N:Nat}{l:List Int}{o:Bool}(hN:4096<=N)(q:l.length<=9223372036854775807){H:Nat}{res:List Int}{bs:List BusD}{ls:List LineD}{us:List UnitD}{ss:List StoreD}{ts:List TieD}(b:BaseG H res bs ls us ss ts):∀(n fuel k:Nat)(os:List OutD),n<fuel->k<=l.length->os.length+n<=3->OutsG ls.length us.length os->(os=[]\/In (kE true H res bs ls us ss ts os)=none) ->
  ∃ d,OutsG ls.length us.length d/\(d=[]\/In (kE true H res bs ls us ss ts d)=none)/\∀ K:LA->O R,Jv N K (Av l) l.length o (H:Int) res.length bs.length ls.length us.length ss.length ts.length (Av res) (bs.flatMap BusD.av) (ls.flatMap LineD.av) (us.flatMap UnitD.av) (ss.flatMap StoreD.av) (ts.flatMap TieD.av) fuel (n:Int) (k:Int) os.length (os.flatMap OutD.av)=K (kE false H res bs ls us ss ts d).av
|0,fuel+1,k,os,_,s,_,g,j=>by
  refine⟨os,g,j,fun K=>?_⟩
  rw[Jv];unfold CM
  rw[show decide (((0:Nat):Int)>0)=false from rfl,Rs rfl,Cx Ir _ rfl,Cx Cm _ rfl,Cx Ft _ rfl,Cx Fk _ rfl,Cx H2 _ rfl,Cx Dd _ rfl]
  rfl
| n+1,fuel+1,k,os,D,s,hn,g,j=>by
  by_cases u:ls.length=0
  ·refine⟨os,g,j,fun K=>?_⟩
   rw[Jv];unfold CM
   rw[show decide ((ls.length:Int)>0)=false from decide_eq_false (by omega),show decide (((n+1:Nat):Int)>0)=true from decide_eq_true (by omega),Rs rfl,Cx Ir _ rfl,Cx Cm _ rfl,Cx Ft _ rfl,Cx Fk _ rfl,Cx H2 _ rfl,Cx Dd _ rfl]
   rfl
  ·have v:=b.ul;have y:=b.ll
   obtain⟨x,m,gx,e,hx⟩:=Apx (R:=R) (N:=N) (t:=false) (o:=o) (by omega) q (i:=os.length) (nl:=ls.length) (nu:=us.length) (by omega) (by omega) (by omega) k s
   have g':OutsG ls.length us.length (os++[x]):=⟨by simp;omega,fT g.g gx⟩
   have sm:=Axz (f:=true) hN b g'
   have wn:wrap .i64 (((n+1:Nat):Int) - 1)=(n:Int):=mz (by omega)
   have step:∀ K:LA->O R,Jv N K (Av l) l.length o (H:Int) res.length bs.length ls.length us.length ss.length ts.length (Av res) (bs.flatMap BusD.av) (ls.flatMap LineD.av) (us.flatMap UnitD.av) (ss.flatMap StoreD.av) (ts.flatMap TieD.av) (fuel+1) ((n+1:Nat):Int) (k:Int) os.length (os.flatMap OutD.av) =
     cond (B5 (In (kE true H res bs ls us ss ts (os++[x])))==0)
      (Jv N K (Av l) l.length o (H:Int) res.length bs.length ls.length us.length ss.length ts.length (Av res) (bs.flatMap BusD.av) (ls.flatMap LineD.av) (us.flatMap UnitD.av) (ss.flatMap StoreD.av) (ts.flatMap TieD.av) fuel (n:Int) (m:Int) (os++[x]).length ((os++[x]).flatMap OutD.av))
      (Jv N K (Av l) l.length o (H:Int) res.length bs.length ls.length us.length ss.length ts.length (Av res) (bs.flatMap BusD.av) (ls.flatMap LineD.av) (us.flatMap UnitD.av) (ss.flatMap StoreD.av) (ts.flatMap TieD.av) fuel (n:Int) (m:Int) os.length (os.flatMap OutD.av)):=fun K=>by
    rw[Jv];unfold CM WT
    have c1:(ble (0+os.length) 140737488355328&&ble ((0+os.length)*72) 140737488355328)=true:=by rw[C1,C1];simp;omega
    have z:(ble ((0+os.length)+1) 140737488355328&&ble (((0+os.length)+1)*72) 140737488355328)=true:=by rw[C1,C1];simp;omega
    have A:take ((0+os.length)*4) (take (os.length*4) (os.flatMap OutD.av))++take 4 (setCells [.str ([]:Lu),.nsl,.bool false,.nsl] 0 (take 4 x.av))=(os++[x]).flatMap OutD.av:=by
     rw[A89,Cx Dd _ rfl,Cx Dd _ rfl]
     simp only[Ba6,A9o,Bbn,A9g]
     rfl
    have B:take (((0+os.length)+1)*4) ((os++[x]).flatMap OutD.av)=(os++[x]).flatMap OutD.av:=Cx Dd _ (by simp)
    have C:(0+os.length)+1=(os++[x]).length:=by simp
    rw[show decide ((ls.length:Int)>0)=true from decide_eq_true (by omega),show decide (((n+1:Nat):Int)>0)=true from decide_eq_true (by omega)]
    simp only[beq_self_eq_true,cond_true]
    rw[hx,show((beq 0 0)&&((beq (List.length x.av) 4)&&(beq 4 4)))=true from rfl,ct,c1,ct,show ble 4 (List.length x.av)=true from rfl,ct,show((beq (List.length (take 4 x.av)) 4)&&(ble 4 4))=true from rfl,ct,z,ct,A,B,C,Rs rfl,Cx Ir _ rfl,Cx Cm _ rfl,Cx Ft _ rfl,Cx Fk _ rfl,Cx H2 _ rfl]
    refine Bby (Acg (R:=R) (N:=N) (c:=kE true H res bs ls us ss ts (os++[x])) (o:=true) sm hN) ?_
    rw[A40,show((beq 3 3)&&((ble 3 3)&&(!false)))=true from rfl,ct,wn]
   cases hq:B5 (In (kE true H res bs ls us ss ts (os++[x])))==0 with
   |true =>
    obtain⟨d,a1,a2,a3⟩:=Ak9 hN q b n fuel m (os++[x]) (by omega) e (by simp;omega) g' (.inr (Atv hq))
    exact⟨d,a1,a2,fun K=>by rw[step,hq,ct,a3]⟩
   |false =>
    obtain⟨d,a1,a2,a3⟩:=Ak9 hN q b n fuel m os (by omega) e (by omega) g j
    exact⟨d,a1,a2,fun K=>by rw[step,hq,cf,a3]⟩
end
end Gx.Cf
