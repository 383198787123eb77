/- A part of the proof; each theorem says what it holds. -/
import Derived.Test.YtihjnfhdmgipmaaGreatP3
set_option linter.unusedVariables false
set_option linter.defProp false
set_option linter.unusedSimpArgs false
open Nat (ble beq)
open List (take drop replicate)
open Go.IntKind (wrap)
namespace Gx.Uo
open Go Go.Proofs
noncomputable section
variable{R:Type}{N:Nat}{X:O R}
def Awj(N:Nat)(f:Int->(LA->O R)->O R)(r0:LA->Bool->O R)(j:Nat)(l:LA):Nat->Int->Int->Nat->Nat->LA->Bool->LA->O R
|0=>fun _ _ _ _ _ _ _=>none
|n+1=>fun y s v w z x aa=>cond (decide (s<y)) (cond (Ab s j) (Aj .i64 (l.drop (0+(s.toNat*1))) fun ad=>f ad fun af=>Ex N ad af false v w z x aa fun ag ah ai aj ak=>Awj N f r0 j l n y (wrap .i64 (s+1)) ag ah ai aj ak) none) (r0 [.imm (z.take (v*1)) v 1 false false,.imm (aa.take (w*3)) w 3 false x] (x||false))
def Axr(N:Nat)(f:Int->(LA->O R)->O R)(r0:LA->Bool->O R)(j:Nat)(l:LA):Nat->Int->O R
|0=>fun _=>none
|n+1=>fun ab=>cond (decide (0<ab)) (cond (Ab 0 j) (Aj .i64 l fun ae=>f ae fun al=>F6 N ae al false fun am an ao=>Awj N f r0 j l n ab 1 1 1 am an ao) none) (r0 [.nsl,.nsl] false)
def Arh(N:Nat)(f:Int->(LA->O R)->O R)(r0:LA->Bool->O R)(m o:Int)(p:Nat)(i:LA):Nat->Nat->Int->Int->LA->O R
|0=>fun _ _ _ _=>none
|n+1=>fun q t r u=>cond (decide (r<t)) (cond (Ab r p) (Aj .i64 (i.drop (0+(r.toNat*1))) fun ac=>cond ((decide (ac>m))==true) (cond (cond true (decide (ac<o)) false) (cond ((ble (q+1) 140737488355328)&&(ble ((q+1)*8) 140737488355328)) (Arh N f r0 m o p i n (q+1) t (wrap .i64 (r+1)) ((u.take (q*1))++[.int .i64 ac])) none) (Arh N f r0 m o p i n q t (wrap .i64 (r+1)) u)) (Arh N f r0 m o p i n q t (wrap .i64 (r+1)) u)) none) (E8 N q u fun ap=>C0 N q ap fun j l=>Axr N f r0 j l N (j:Int))
section
variable{r0:LA->Bool->O R}{F:F1}{M:Nat}{p q:Int}{f:Int->(LA->O R)->O R}
def yW{xs:List Int}{Gq:LA}(T:∀ x∈xs,0<=x/\x<=1048576)(hn:xs.length<=20000000)(G:∀ x∈xs,∀ K':LA->O R,(∀ d:RatD,d.can (F x)->K' d.av=X)->f x K'=X)(I:∀ x∈xs,qm (F x)<=M)(Y:fit (100*M+1000) N)
  (hX:∀ V,VOk V (bL F xs)->PB M (bL F xs)->r0 (S9 (bL F xs) V false) false=X):∀(m u k:Nat)(V:List RatD),u+m=xs.length->m<k->VOk V (bL F (xs.take u))->PB M (bL F (xs.take u))->(bL F (xs.take u)).length<=u ->
  Awj N f r0 xs.length (Am xs++Gq) k (xs.length:Int) (u:Int) (bL F (xs.take u)).length (bL F (xs.take u)).length (Am (F4 (bL F (xs.take u)))) false (V.flatMap RatD.av)=X
|0,u,k+1,V,hu,_,hV,hP,hl=>by
  rw[Awj];dsimp only
  rw[A2t (by omega)]at hV hP ⊢
  rw[Rc (by omega),cf,Aq6,Aq7 hV]
  exact hX V hV hP
|m+1,u,k+1,V,hu,hfu,hV,hP,hl=>by
  rw[Awj];dsimp only
  have D:u<xs.length:=by omega
  have L:=A24 D
  rw[Ox D,ct,Aa D,ct,A1c D,wS (by omega)]
  refine G _ L _ fun d' hd=>?_
  have hb:=T _ L
  have hq:=I _ L
  refine Au1 hV hd hP hq (by omega) Y fun V' hV'=>?_
  have e:=Ara (f:=F) D
  rw[<-e]at hV' ⊢
  refine yW T hn G I Y hX m (u+1) k V' (by omega) (by omega) hV' ?_ ?_
  ·rw[e];exact hP.add hq (by omega) (by omega)
  ·rw[e];have:=fW (bL F (xs.take u)) xs[u] (F xs[u]);omega
def Awk{xs:List Int}{Gq:LA}(L:0<xs.length)(Y:∀ x∈xs,0<=x/\x<=1048576)(hn:xs.length<=20000000)(D:∀ x∈xs,∀ K':LA->O R,(∀ d:RatD,d.can (F x)->K' d.av=X)->f x K'=X)(G:∀ x∈xs,qm (F x)<=M)(hf:fit (100*M+1000) N)(hNN:40000000<=N)
  (hX:∀ V,VOk V (bL F xs)->PB M (bL F xs)->r0 (S9 (bL F xs) V false) false=X):Axr N f r0 xs.length (Am xs++Gq) N (xs.length:Int)=X:=by
 obtain⟨n,rfl⟩:∃ k,N=k+1:=⟨N - 1,by omega⟩
 rw[Axr];dsimp only
 have T:=A24 L
 have hb:=Y _ T
 have hq:=G _ T
 rw[show decide ((0:Int)<(xs.length:Int))=true by simp;omega,ct,show Ab 0 xs.length=true from Aa (i:=0) L,ct,show ∀ K:Int->O R,Aj .i64 (Am xs++Gq) K=K xs[0]from fun K=>A1c (j:=0) L]
 refine D _ T _ fun d' hd=>Atu hd ?_
 have e:bL F (xs.take 1)=[(xs[0],F xs[0])]:=by
  cases xs with
  |nil=>simp at L
  |cons x r=>rfl
 have:=yW (Gq:=Gq) (r0:=r0) Y hn D G hf hX (xs.length - 1) 1 n [d'] (by omega) (by omega) (by
  rw[e];refine⟨rfl,fun i h1 h2=>?_⟩
  have:i=0:=by simp at h1;omega
  subst this;exact hd) (by
  rw[e];refine⟨fun z I=>?_,fun z I=>?_,by simp⟩
  ·simp at I;subst I;show -10000000<=xs[0]/\xs[0]<=10000000;omega
  ·simp at I;subst I;exact hq) (by rw[e];simp)
 rw[e]at this
 exact this
def MG{cs:List Int}(L:cs.length<=10000000):∀(m t k:Nat)(ys:List Int),t+m=cs.length->m<k->ys.length<=t+2 ->
  (Arh N f r0 p q cs.length (Am cs) k ys.length (cs.length:Int) (t:Int) (Am ys)=X↔(E8 N (ys++(cs.drop t).filter (PI p q)).length (Am (ys++(cs.drop t).filter (PI p q))) fun ar=>C0 N (ys++(cs.drop t).filter (PI p q)).length ar fun m o=>Axr N f r0 m o N (m:Int))=X)
|0,t,k+1,ys,T,_,_=>by
  rw[Arh];dsimp only
  rw[Rc (by omega),cf,Jx (by omega),List.filter_nil,A4x]
| m+1,t,k+1,ys,T,Y,hl=>by
  rw[Arh];dsimp only
  have D:t<cs.length:=by omega
  rw[Ox D,ct,Aa D,ct,Awb D,wS (by omega),Fg D,A8o]
  by_cases G:p<cs[t]
  ·rw[show(decide (cs[t]>p)==true)=true by simp[G],ct]
   by_cases I:cs[t]<q
   ·rw[decide_eq_true I,Ady,ct,show PI p q cs[t]=true by unfold PI;rw[decide_eq_true G,decide_eq_true I];rfl,if_pos rfl,show(ble (ys.length+1) 140737488355328&&ble ((ys.length+1)*8) 140737488355328)=true by
     rw[show ble (ys.length+1) 140737488355328=true by rw[A3p];omega,show ble ((ys.length+1)*8) 140737488355328=true by rw[A3p];omega];rfl,ct]
    have e1:(Am ys).take (ys.length*1)++[.int .i64 cs[t]]=Am (ys++[cs[t]]):=by
     rw[A2t (by rw[K2];omega)];unfold Am;simp
    have e2:(ys++[cs[t]]).length=ys.length+1:=by simp
    rw[e1,<-e2,show ys++cs[t]::List.filter (PI p q) (drop (t+1) cs)=(ys++[cs[t]])++List.filter (PI p q) (drop (t+1) cs) by simp]
    exact MG L m (t+1) k (ys++[cs[t]]) (by omega) (by omega) (by omega)
   ·rw[decide_eq_false I,Ady,cf,show PI p q cs[t]=false by unfold PI;rw[decide_eq_false I];simp]
    exact MG L m (t+1) k ys (by omega) (by omega) (by omega)
  ·rw[show(decide (cs[t]>p)==true)=false by simp[G],cf,show PI p q cs[t]=false by unfold PI;rw[decide_eq_false G];rfl]
   exact MG L m (t+1) k ys (by omega) (by omega) (by omega)
def Aft{cs:List Int}(G:p<=q)(hp:0<=p)(hq:q<=1048576)(Y:cs.length<=10000000)(I:∀ x,p<=x->x<=q->∀ K':LA->O R,(∀ d:RatD,d.can (F x)->K' d.av=X)->f x K'=X)(T:∀ x:Int,p<=x->x<=q->qm (F x)<=M)(hf:fit (100*M+1000) N)(hNN:40000000<=N)
  (hX:∀ V,VOk V (bL F (VN p q cs))->PB M (bL F (VN p q cs))->r0 (S9 (bL F (VN p q cs)) V false) false=X):Arh N f r0 p q cs.length (Am cs) N 2 (cs.length:Int) 0 [.int .i64 p,.int .i64 q]=X:=by
 refine(MG (r0:=r0) (p:=p) (q:=q) (cs:=cs) Y cs.length 0 N [p,q] (by omega) (by omega) (by simp)).2 ?_
 rw[A3m]
 have fl:∀ t,t∈cs.filter (PI p q)↔t∈cs/\p<t/\t<q:=fun t=>by
  rw[A5g];unfold PI;simp
 have ln:([p,q]++cs.filter (PI p q)).length<=10000002:=by
  have:=A85 (PI p q) cs
  rw[A3d];simp;omega
 have l2:2<=([p,q]++cs.filter (PI p q)).length:=by rw[A3d];simp
 have mem:∀ t,t∈[p,q]++cs.filter (PI p q)↔t=p\/t=q\/(t∈cs/\p<t/\t<q):=fun t=>by
  rw[A27,fl];simp[or_assoc]
 generalize [p,q]++cs.filter (PI p q)=ys at *
 refine Awd (by omega) (by omega) (fun t ht=>?_) ?_
 ·rcases(mem t).1 ht with h|h|h<;>omega
 rw[<-kN (ys:=ys)]
 refine Anz (Aq8 ys) (by rw[kN];omega) (by rw[kN];omega) hNN fun P Gq hP hm _=>?_
 have L:=z6 (cs:=cs) G
 have e:P=VN p q cs:=Asc.eq hP L.asc fun t=>by rw[hm t,Anx,mem t,L.mem t]
 subst e
 have k:∀ x∈VN p q cs,p<=x/\x<=q:=fun x D=>L.all G D
 exact Awk (L.ends G).1 (fun x D=>by have:=k x D;omega) (by have:=Arb (lo:=p) (hi:=q) (cs:=cs);omega) (fun x D=>I x (k x D).1 (k x D).2) (fun x D=>T x (k x D).1 (k x D).2) hf hNN hX
end
def Ayt{r0:LA->Bool->O R}{j:Nat}{i a d g l:LA}{b c f:Bool}{h:Int}:∀ n,Vw N r0 j i a b c d f g h l n=Awj N (fun x K=>Cl N x a b c d f g h K) r0 j l n
|0=>rfl
|n+1=>by rw[Vw,Ayt n];rfl
def A0g{r0:LA->Bool->O R}{j:Nat}{i a d g l:LA}{b c f:Bool}{h:Int}:∀ n,Vx N r0 j i a b c d f g h l n=Axr N (fun x K=>Cl N x a b c d f g h K) r0 j l n
|0=>rfl
|n+1=>by rw[Vx,Ayt n];rfl
def Ayu{r0:LA->Bool->O R}{m o:Int}{p:Nat}{i a d g:LA}{b c f:Bool}{h:Int}:∀ n,Qs N r0 m o p i a b c d f g h n=Arh N (fun x K=>Cl N x a b c d f g h K) r0 m o p i n
|0=>rfl
|n+1=>by
  rw[Qs,Ayu n];unfold L_
  rw[Arh];simp only[A0g]
def Ayv{r0:LA->Bool->O R}{g:Nat}{f a d h:LA}{b:Bool}{c:Int}:∀ n,M6 N r0 g f a b c d h n=Awj N (fun x K=>C1 N x a b c d K) r0 g h n
|0=>rfl
|n+1=>by rw[M6,Ayv n];rfl
def A0h{r0:LA->Bool->O R}{g:Nat}{f a d h:LA}{b:Bool}{c:Int}:∀ n,M7 N r0 g f a b c d h n=Axr N (fun x K=>C1 N x a b c d K) r0 g h n
|0=>rfl
|n+1=>by rw[M7,Ayv n];rfl
def Ayw{r0:LA->Bool->O R}{i j:Int}{l:Nat}{f a d:LA}{b:Bool}{c:Int}:∀ n,Ji N r0 i j l f a b c d n=Arh N (fun x K=>C1 N x a b c d K) r0 i j l f n
|0=>rfl
|n+1=>by
  rw[Ji,Ayw n];unfold Wx
  rw[Arh];simp only[A0h]
end
end Gx.Uo
namespace Gx.Uo
open Go Go.Proofs
section
variable{R:Type}{N:Nat}{X:O R}
def EL:∀ l:List Int,Bb (Am l)=true
|[]=>rfl
|_::r=>EL r
def Ari{L:Hk}{V:List RatD}{j d:Bool}{K:Int->O R}(h:0<L.length):Jh N (S9 L V j) d K=K (fstP L):=by
 rw[A_];unfold Wu
 rw[Abi,show Ab 0 L.length=true from Aa (i:=0) h,ct]
 have xl:(F4 L).length=L.length:=A4y ..
 have:=Ayk (R:=R) (l:=F4 L) (j:=0) (by omega) (f:=K)
 rw[A3m]at this
 rw[this,Ahw h]
 exact congrArg K (A4i ..)
def Arj{L:Hk}{V:List RatD}{j d:Bool}{K:Int->O R}(h:0<L.length)(G:L.length<=30000000):Lm N (S9 L V j) d K=K (lstP L):=by
 rw[EE];unfold BA
 have xl:(F4 L).length=L.length:=A4y ..
 have D:wrap .i64 ((L.length:Int) - 1)=((L.length - 1:Nat):Int):=yP (k:=1) h (by omega)
 rw[Abi,Abi,D,Aa (by omega),ct,Bh (by omega)]
 refine congrArg K ((A4i ..).trans ?_)
 unfold lstP
 rw[A6u,A6t,A2r (by omega)];rfl
def Ai2(L:Hk)(V:List RatD)(j:Bool)(w:RatD)(x y:Int):LA:=S9 L V j++(w.av++[.int .i64 x,.int .i64 y])
section
variable{u:UnitD}{hs:Int}{E Q V:List RatD}{o1 o2:Bool}{r:LA}
def Ai3{K:LA->Bool->O R}{h:Nat}{b:Rat}{L:Hk}{W:List RatD}{M:Nat}{j o c:Bool}(G:uR u)(p:Pr Q h b)(hL:0<L.length)(hW:VOk W L)(hP:PB M L)(hM:M<=4500)(D:fit 1000000 N)
  (k:∀ w:RatD,w.can (Av (un u) b)->K (Ai2 L W j w (E2 0 L) (E2 (Av (un u) b) L)) (c||false)=X):Fi N (gS u hs E Q V o1 o2 r) o (h:Int) (S9 L W j) c K=X:=by
 have hN:100001000<=N:=by have:=D.1;omega
 have hq:=V1 G p.qm
 rw[AZ];unfold Wt
 refine Abp G p (D.le (by omega)) fun w I=>?_
 rw[c3,ct,show ble 2 (List.length (S9 L W j))=true from rfl,ct,b3,ct,ct]
 refine D0 (by omega) (by omega) fun z T=>?_
 rw[show take 2 (S9 L W j)=S9 L W j from rfl,Y9,Ai1 hL T (S:=12) (A4f (qi (by omega)) (by omega)) hW hP (D.le (by omega)) (by omega),ct,ct,Ai1 hL I hq hW hP (D.le (by omega)) (by omega)]
 exact k w I
def An1(a b c:Int):NL (NL a b) c=NL a (NL b c):=by unfold NL;grind
def An2(a b c:Int):Lt (Lt a b) c=Lt a (Lt b c):=by unfold Lt;grind
def uV{K:Int->Int->O R}{x:Int}{w:Rat}{wd:RatD}{L:Hk}{W:List RatD}{M:Nat}{j o d:Bool}(k:uR u)(D:wd.can w)(hq:qm w<=12)(hL:0<L.length)(hP:PB M L)(hx:0<=x/\x<=1048576)(G:fit 1000 N):
  Ea N (gS u hs E Q V o1 o2 r) o (Ai2 L W j wd (E2 0 L) (E2 w L)) d x K=K (gQ (un u) L w x) (bM (un u) L w x):=by
 have v1:=k.2.1;have v2:=k.2.2.1;have v3:=k.2.2.2.1;have v4:=k.2.2.2.2.1
 rw[Vv];unfold Sa
 rw[Awi,A14,Az9]
 have I:∀ f:Int->O R,Aj .i64 (drop 5 (Ai2 L W j wd (E2 0 L) (E2 w L))) f=f (E2 0 L):=fun f=>Aw
 have T:∀ f:Int->O R,Aj .i64 (drop 6 (Ai2 L W j wd (E2 0 L) (E2 w L))) f=f (E2 w L):=fun f=>Aw
 rw[I,T,show ble 2 (List.length (Ai2 L W j wd (E2 0 L) (E2 w L)))=true from rfl,ct,show take 2 (Ai2 L W j wd (E2 0 L) (E2 w L))=S9 L W j from rfl,Ari hL,Az9,ct,Arj hL hP.n,A16,show ble 3 (drop 2 (Ai2 L W j wd (E2 0 L) (E2 w L))).length=true from rfl,ct,show take 3 (drop 2 (Ai2 L W j wd (E2 0 L) (E2 w L)))=wd.av from rfl,Io D.ok (G.le (by rw[D.m];omega)),D.q,Akz,Az9]
 have pb:∀ s:Rat,-10000000<=E2 s L/\E2 s L<=10000000:=fun s=>by
  obtain⟨e,Y,h1,_⟩:=Aj9 s hL
  rw[h1];exact hP.x e Y
 have fb:-10000000<=fstP L/\fstP L<=10000000:=by rw[Ahw hL];exact hP.x _ (A24 _)
 have lb:-10000000<=lstP L/\lstP L<=10000000:=by
  unfold lstP
  rw[A6u,A6t,A2r (show L.length - 1<L.length by omega)]
  exact hP.x _ (A24 _)
 have p0:=pb 0;have p1:=pb w
 simp only[Dg,Fr]
 rw[Bc (x+u.reserve) (by omega)]
 have t:Apq (un u) x=Lt (x+u.reserve) u.max:=rfl
 have tb:-10000000<=Apq (un u) x/\Apq (un u) x<=10000000:=by rw[t];unfold Lt;split<;>omega
 rw[<-t]
 rw[Bc (Apq (un u) x - u.rampUp) (by omega),Bc (x - u.rampUp) (by omega),Bc (x+u.rampDown) (by omega),An1,An2]
 have eb:Lt (NL (Lt (NL (Apq (un u) x - u.rampUp) (E2 0 L)) (E2 w L)) (NL (fstP L) (x - u.rampUp))) (Lt (lstP L) (x+u.rampDown))=gQ (un u) L w x:=rfl
 rw[eb]
 have bb:-30000000<=gQ (un u) L w x/\gQ (un u) L w x<=30000000:=by
  rw[<-eb];unfold Lt NL;split<;>split<;>split<;>split<;>split<;>split<;>omega
 rw[Bc (gQ (un u) L w x+u.rampUp) (by omega)]
 have mb:-30000000<=Lt (Apq (un u) x) (gQ (un u) L w x+u.rampUp)/\Lt (Apq (un u) x) (gQ (un u) L w x+u.rampUp)<=30000000:=by unfold Lt;split<;>omega
 rw[Bc _ (by omega)]
 unfold bM
 by_cases h:0<w
 ·rw[decide_eq_true h,ct,if_pos h];rfl
 ·rw[decide_eq_false h,cf,if_neg h]
end
end
end Gx.Uo
namespace Gx.Uo
open Go Go.Proofs
section
variable{R:Type}{N:Nat}{X:O R}
def BM{u:UnitD}{h:Int}(k:A4 u h=true):(un u).Ok:=by
 have G:=E6 k
 have hs:=Hf k
 have hR:=(Bf k).2.1
 have D:=k
 simp only[A4,A2y,Im,decide_eq_true_eq]at D
 refine⟨⟨G.1.1,G.2.2,G.2.1.2⟩,hR.2.2.1,hR.2.2.2.1,hR.2.2.2.2.1,?_,?_,fun I=>?_,Are k,(yN hs.2.1 hs.2.2).2⟩
 ·show u.min<=u.startRamp/\u.startRamp<=u.max;omega
 ·show u.min<=u.stopRamp/\u.stopRamp<=u.max;omega
 ·have I:u.state=2:=by simpa[un]using I
  have:=D.2.2.2.2.2.2.2.2.2.2.2.2.2.2.1
  unfold Am6 at this
  rw[I]at this
  have this:u.min<=u.output/\u.output<=u.max:=by simpa[Im]using this
  exact this
def Ak3{u:Un}(k:u.Ok){a b:Rat}{f:F1}{L:Hk}{lo hi x:Int}(s:Stage u f L lo hi)(x1:NL u.min (lo - u.rd)<=x)(x2:x<=Lt u.max (hi+u.ru)):YT u a b f L x=f (gQ u L (Av u b) x:Int)+Av u b*(bM u L (Av u b) x:Int)+own u a x:=by
 have:=(GL k (a:=a) (b:=b) s x1 x2).2.2
 rw[<-this]
 unfold OU
 by_cases h:0<Av u b
 ·have:=rI h;grind
 ·have e:bM u L (Av u b) x=0:=by unfold bM;rw[if_neg h]
  rw[e]
  have:((0:Int):Rat)=0:=rfl
  grind
section
variable{u:UnitD}{hs:Int}{E Q V:List RatD}{o1 o2:Bool}{r:LA}
def kS{hh:Int}(G:A4 u hh=true){a b:Rat}(I:qm a<=9)(T:qm b<=9){f:F1}{L:Hk}{lo hi x:Int}{B:Nat}(s:Stage (un u) f L lo hi)(hB:∀ y:Int,lo<=y->y<=hi->qm (f y)<=B)(x1:NL u.min (lo - u.rampDown)<=x)(x2:x<=Lt u.max (hi+u.rampUp)):qm (YT (un u) a b f L x)<=B+540/\(u.min<=x/\x<=u.max)/\(-10000000<=gQ (un u) L (Av (un u) b) x/\gQ (un u) L (Av (un u) b) x<=10000000)/\(-10000000<=bM (un u) L (Av (un u) b) x/\bM (un u) L (Av (un u) b) x<=10000000):=by
 have k:=BM G
 have hm:=E6 G
 have hR:=(Bf G).2.1
 have D:=GL k (a:=a) (b:=b) s x1 x2
 have l0:=s.l0;have l2:=s.l2
 have l0:u.min<=lo:=l0
 have l2:hi<=u.max:=l2
 have xr:u.min<=x/\x<=u.max:=by
  have:u.min<=NL u.min (lo - u.rampDown):=by unfold NL;split<;>omega
  have:Lt u.max (hi+u.rampUp)<=u.max:=by unfold Lt;split<;>omega
  omega
 have r0:=D.2.1.r0;have r1:=D.2.1.r1
 have Y:0<=bM (un u) L (Av (un u) b) x:=A3n.1 r0
 have r1':bM (un u) L (Av (un u) b) x<=u.reserve:=A3n.1 r1
 have rv:=hR.2.2.2.2.1
 rw[Ak3 k s x1 x2]
 have q1:=hB _ D.1.1 D.1.2
 have q2:=V1 (Bf G).2.1 T
 have q3:=qi (v:=bM (un u) L (Av (un u) b) x) (by omega)
 have q4:=Abq G I xr
 have m1:=Kb (Av (un u) b) ((bM (un u) L (Av (un u) b) x:Int):Rat)
 have m2:=Fz (f ((gQ (un u) L (Av (un u) b) x:Int):Rat)) (Av (un u) b*((bM (un u) L (Av (un u) b) x:Int):Rat))
 have m3:=Fz (f ((gQ (un u) L (Av (un u) b) x:Int):Rat)+Av (un u) b*((bM (un u) L (Av (un u) b) x:Int):Rat)) (own (un u) a x)
 exact⟨by omega,xr,by omega,by omega⟩
def Ayx{K:LA->O R}{h:Nat}{hh x:Int}{a b:Rat}{wd:RatD}{f:F1}{L:Hk}{W:List RatD}{lo hi:Int}{B M:Nat}{j o d d':Bool}(I:A4 u hh=true)(s:Stage (un u) f L lo hi)(hB:∀ y:Int,lo<=y->y<=hi->qm (f y)<=B)(hBM:B<=4000)(pa:Pr E h a)(pb:Pr Q h b)(Y:wd.can (Av (un u) b))(hW:VOk W L)(hP:PB M L)(hM:M<=4500)(hV:VOk V (Za u))(hPc:PB 500 (Za u))(x1:NL u.min (lo - u.rampDown)<=x)(x2:x<=Lt u.max (hi+u.rampUp))(G:fit 1000000 N)
  (k:∀ d:RatD,d.can (YT (un u) a b f L x)->K d.av=X):Cl N x (gS u hs E Q V o1 o2 r) o d (Ai2 L W j wd (E2 0 L) (E2 (Av (un u) b) L)) d' (S9 L W j) (h:Int) K=X:=by
 have ko:=BM I
 have hR:=(Bf I).2.1
 have hm:=E6 I
 have hN:100001000<=N:=by have:=G.1;omega
 obtain⟨_,xr,cb,cr⟩:=kS I (a:=a) pa.qm pb.qm s hB x1 x2
 have D:=GL ko (a:=a) (b:=b) s x1 x2
 have q1:=hB _ D.1.1 D.1.2
 have q2:=V1 hR pb.qm
 have q3:=qi (v:=bM (un u) L (Av (un u) b) x) (by omega)
 have q4:=Abq I pa.qm xr
 have m1:=Kb (Av (un u) b) ((bM (un u) L (Av (un u) b) x:Int):Rat)
 have m2:=Fz (f ((gQ (un u) L (Av (un u) b) x:Int):Rat)) (Av (un u) b*((bM (un u) L (Av (un u) b) x:Int):Rat))
 rw[Pa];unfold Ls
 rw[show ble 7 (List.length (Ai2 L W j wd (E2 0 L) (E2 (Av (un u) b) L)))=true from rfl,ct,show take 7 (Ai2 L W j wd (E2 0 L) (E2 (Av (un u) b) L))=Ai2 L W j wd (E2 0 L) (E2 (Av (un u) b) L)from rfl,uV hR Y q2 s.up.cv.ne hP (by omega) (G.le (by omega))]
 rw[show ble 2 (List.length (S9 L W j))=true from rfl,ct,show take 2 (S9 L W j)=S9 L W j from rfl]
 refine Ai0 hW hP s.up.cv (by rw[s.up.fst];exact D.1.1) (by rw[s.up.lst];exact D.1.2) (G.le (by omega)) (by omega) fun n o hn=>?_
 rw[show ble 3 (drop 2 (Ai2 L W j wd (E2 0 L) (E2 (Av (un u) b) L))).length=true from rfl,ct]
 refine D0 (by omega) (by omega) fun p hp=>?_
 rw[show take 3 (drop 2 (Ai2 L W j wd (E2 0 L) (E2 (Av (un u) b) L)))=wd.av from rfl]
 refine SU Y hp (G.le (by omega)) fun q hq=>?_
 refine ST hn hq (G.le (by omega)) fun i T=>?_
 rw[c3,ct,b3,ct]
 refine Au3 I pa hV hPc xr G fun r' hr=>?_
 rw[Y9]
 refine ST T hr (G.le (by omega)) fun j' hj=>?_
 rw[c3,ct,b3,ct,Y9]
 exact k j' (by rw[Ak3 ko s x1 x2];exact hj)
def yX{r0:LA->Bool->O R}{L:Hk}{a b h:LA}{c d j:Bool}{f p q:Int}(I:uR u)(hP:∀ e∈L,-10000000<=e.1/\e.1<=10000000)(hn:L.length<=3000000)(G:UnitD)(T:G.rampDown=u.rampDown)(Y:G.rampUp=u.rampUp)(e16:G.reserve=u.reserve):∀(m t k:Nat)(ys:List Int),t+m=L.length->m<k->ys.length<=100+3*t ->
  (Dn N r0 (Am (F4 L)) L.length c a d f b j h k p q ys.length (L.length:Int) (t:Int) G.av (Am ys)=X ↔
   TG N p q (ys++(L.drop t).flatMap fun e=>[e.1 - u.rampDown,e.1+u.rampUp,e.1+u.rampUp - u.reserve]).length (Am (ys++(L.drop t).flatMap fun e=>[e.1 - u.rampDown,e.1+u.rampUp,e.1+u.rampUp - u.reserve])) a d j h c b f (fun z ab=>cond ((beq 0 0)&&((beq z.length 2)&&(beq 2 2))) (cond (ble 2 z.length) (r0 (z.take 2) ab) none) none)=X)
|0,t,k+1,ys,ht,_,_=>by
  rw[Dn];unfold H3
  rw[Rc (by omega),cf,Jx (by omega),List.flatMap_nil,A4x]
| m+1,t,k+1,ys,ht,hfu,hl=>by
  have v2:=I.2.2.1;have v3:=I.2.2.2.1;have v4:=I.2.2.2.2.1
  rw[Dn];unfold H3
  have D:t<L.length:=by omega
  have xl:(F4 L).length=L.length:=A4y ..
  have bx:=hP _ (A24 D)
  rw[Ox D,ct,Aa D,ct,Bh (by omega),show(F4 L)[t]'(by omega)=L[t].1 from A4i ..,u7,u6,u6,Av0,T,Y,e16,wS (by omega)]
  rw[show(ble (ys.length+3) 140737488355328&&ble ((ys.length+3)*8) 140737488355328)=true by
   rw[show ble (ys.length+3) 140737488355328=true by rw[A3p];omega,show ble ((ys.length+3)*8) 140737488355328=true by rw[A3p];omega];rfl,ct]
  rw[Bc (L[t].1 - u.rampDown) (by omega),Bc (L[t].1+u.rampUp) (by omega),Bc (L[t].1+u.rampUp - u.reserve) (by omega),Fg D,A3r]
  have e1:(Am ys).take (ys.length*1)++[.int .i64 (L[t].1 - u.rampDown),.int .i64 (L[t].1+u.rampUp),.int .i64 (L[t].1+u.rampUp - u.reserve)]=Am (ys++[L[t].1 - u.rampDown,L[t].1+u.rampUp,L[t].1+u.rampUp - u.reserve]):=by
   rw[A2t (by rw[K2];omega)];unfold Am;simp
  have e2:(ys++[L[t].1 - u.rampDown,L[t].1+u.rampUp,L[t].1+u.rampUp - u.reserve]).length=ys.length+3:=by simp
  rw[e1,<-e2,<-A38]
  exact yX I hP hn G T Y e16 m (t+1) k _ (by omega) (by omega) (by rw[e2];omega)
end
end
end Gx.Uo
namespace Gx.Uo
noncomputable section
def sd(s:Nj):StD:=⟨s.1,s.2⟩
def ds(s:StD):Nj:=(s.k,s.h)
def Au4(s:StD):sd (ds s)=s:=rfl
def Ark(s:Nj):ds (sd s)=s:=rfl
def Arl{s t:StD}(h:ds s=ds t):s=t:=by rw[<-Au4 s,h,Au4]
def Aou(u:UnitD)(s:StD):Bool:=decide (1<=s.h)&&((s.k==0&&decide (s.h<=A5 u))||((s.k==1&&decide (s.h<=u.startTime))||(s.k==2&&decide (s.h<=H4 u))))
def VL{u:UnitD}{s:StD}:Aou u s=true↔C4 u s:=by unfold Aou C4;simp
def Bw(u:UnitD)(fx:List Int)(H:Nat)(a b:Nat->Rat):Pl where
 nxt s:=cond (Aou u (sd s)) ((Bl u (sd s)).map ds) []
 cost s t:=L8 u (sd s) (sd t)
 s0:=ds (Ar u)
 may h k:=(fx.getD h 0==-1||fx.getD h 0==k)&&MF u h k
 H:=H
 rev:=oG (un u) a b H
 shut:=decide (u.stopRamp<u.output)
 succ s k:=cond (Aou u (sd s)) ((Jj (Bl u (sd s)) k).map ds) none
def Jt(u:UnitD):List Nj:=(Be u).map ds
def yY{u:UnitD}{s t:StD}(h:t∈Bl u s):Jj (Bl u s) t.k=some t:=by
 unfold Bl Jj at *
 cases D:(s.k==0)<;>cases G:(s.k==1)<;>cases I:decide (s.h<u.downTime)<;>cases L:decide (u.startTime>0)<;>cases T:decide (s.h<u.startTime)<;>cases Y:decide (s.h>=u.upTime)<;>simp only[D,G,I,L,T,Y,cond_true,cond_false,A28,A7o,or_false]at h ⊢<;>(first|(subst h;rfl)|(rcases h with rfl|rfl<;>rfl))
variable{u:UnitD}{fx:List Int}{H:Nat}{a b:Nat->Rat}
def ph{s t:Nj}(h:t∈(Bw u fx H a b).nxt s):C4 u (sd s)/\sd t∈Bl u (sd s):=by
 have h:t∈cond (Aou u (sd s)) ((Bl u (sd s)).map ds) []:=h
 cases k:Aou u (sd s)with
|false=>rw[k]at h;cases h
|true =>
  rw[k]at h
  obtain⟨x,D,rfl⟩:=A3w.1 h
  exact⟨VL.1 k,D⟩
def Arm{s t:StD}(hs:C4 u s)(h:t∈Bl u s):ds t∈(Bw u fx H a b).nxt (ds s):=by
 show ds t∈cond (Aou u s) ((Bl u s).map ds) []
 rw[VL.2 hs];exact A3w.2 ⟨t,h,rfl⟩
def Awl{s:StD}(hs:C4 u s):(Bw u fx H a b).nxt (ds s)=(Bl u s).map ds:=by
 show cond (Aou u s) ((Bl u s).map ds) []=_
 rw[VL.2 hs];rfl
def Abr{s:StD}{k:Int}(hs:C4 u s):(Bw u fx H a b).succ (ds s) k=(Jj (Bl u s) k).map ds:=by
 show cond (Aou u s) ((Jj (Bl u s) k).map ds) none=_
 rw[VL.2 hs];rfl
def Ak4{hh:Int}(L:A4 u hh=true):PlOk (un u) a b (Bw u fx H a b) (Jt u) where
 u:=BM L
 sc s t h:=by
  obtain⟨G,D⟩:=ph h
  show cond (Aou u (sd s)) ((Jj (Bl u (sd s)) (sd t).k).map ds) none=some t
  rw[VL.2 G,yY D];rfl
 sm s k t h:=by
  have h:cond (Aou u (sd s)) ((Jj (Bl u (sd s)) k).map ds) none=some t:=h
  cases I:Aou u (sd s)with
  |false=>rw[I]at h;cases h
  |true =>
   rw[I]at h
   obtain⟨x,T,rfl⟩:=A80.1 h
   obtain⟨m1,m2⟩:=VK T
   exact⟨Arm (s:=sd s) (VL.1 I) m1,m2⟩
 on0:=by show u.state=2↔(u.state==2)=true;simp
 shut:=by show decide (u.stopRamp<u.output)=true↔u.stopRamp<u.output;simp
 rev _ _ _:=rfl
 k2 s t hs h:=by
  obtain⟨_,D⟩:=ph h
  have hs:(sd s).k=2:=hs
  unfold Bl at D
  rw[hs]at D
  cases Y:decide ((sd s).h>=u.upTime)<;>rw[Y]at D<;>simp at D
  ·right;rw[<-Ark t,D];rfl
  ·rcases D with D|D
   ·left;rw[<-Ark t,D];rfl
   ·right;rw[<-Ark t,D];rfl
 c2 s t hs:=by
  have hs:(sd s).k=2:=hs
  show L8 u (sd s) (sd t)=0
  unfold L8;rw[hs];rfl
 mem:=by
  have hs:=(Bf L).1
  refine⟨A3w.2 ⟨_,uT hs (Oa hs),rfl⟩,fun s t h=>?_⟩
  obtain⟨G,D⟩:=ph h
  exact A3w.2 ⟨sd t,uT hs (BK hs G _ D),rfl⟩
end
end Gx.Uo
namespace Gx
open Go Go.Proofs
section
variable{R:Type}
structure PD where
 lo:Int
 hi:Int
def PD.av(p:PD):LA:=[.int .i64 p.lo,.int .i64 p.hi]
def tb(n:Nat)(g:Nat->PD):LA:=((List.range n).map g).flatMap PD.av
def Ag0(g:Nat->PD)(i:Nat)(v:PD):Nat->PD:=fun j=>if j=i then v else g j
def V3{n:Nat}{g g':Nat->PD}(h:∀ i,i<n->g i=g' i):tb n g=tb n g':=by unfold tb;rw[A57 (fun i hi=>h i (by simpa using hi))]
def Awm(n:Nat)(g:Nat->PD):(tb n g).length=n*2:=by
 unfold tb
 induction n with
|zero=>rfl
|succ n k=>rw[A82,A7y,A5r,A3d,k];simp[PD.av];omega
def Au5{n j:Nat}{g:Nat->PD}(h:j<n):drop (j*2) (tb n g)=(g j).av++(((List.range n).map g).drop (j+1)).flatMap PD.av:=by
 unfold tb
 rw[Y4 (e:=PD.av) (sz:=2) (fun _=>rfl) _ j (by simpa using h)];simp
def nT{n j:Nat}{g:Nat->PD}(h:j<n){f:Int->O R}:Aj .i64 (drop (0+(Int.toNat (j:Int))*2) (tb n g)) f=f (g j).lo:=by rw[A2u,A22,Au5 h];exact Aw
def nU{n j:Nat}{g:Nat->PD}(h:j<n){f:Int->O R}:Aj .i64 (drop ((0+(Int.toNat (j:Int))*2)+1) (tb n g)) f=f (g j).hi:=by rw[A2u,A22,<-A69,Au5 h];exact Aw
def Arn{n j:Nat}{g:Nat->PD}(h:j<n):((beq 2 2)&&((ble ((0+(Int.toNat (j:Int))*2)+2) (List.length (tb n g)))&&(!false)))=true:=by rw[A2u,Awm];simp;omega
def Awn{n j:Nat}{g:Nat->PD}{p:PD}(h:j<n):((beq (List.length p.av) 2)&&((ble ((0+(Int.toNat (j:Int))*2)+2) (List.length (tb n g)))&&(!false)))=true:=Arn h
def TK{α:Type}{e:α->LA}{sz:Nat}(k:∀ a,(e a).length=sz):∀(l:List α)(j:Nat)(v:α),j<l.length->D2 (l.flatMap e) (j*sz) (e v)=(l.set j v).flatMap e
|a::r,0,v,_=>by
  unfold D2
  rw[A7d,A9e,A5z,A22,k,A3r,A7m,k,A6d,A3v (by rw[k];exact A2s _)];simp
|a::r,j+1,v,h=>by
  have D:=TK k r j v (by simpa using h)
  unfold D2 at D ⊢
  rw[A3r,A8q,A7m,k,k,A2t (by rw[k,A23];omega),A3v (by rw[k,A23];omega),show(j+1)*sz - sz=j*sz by rw[A23];omega,show(j+1)*sz+sz - sz=j*sz+sz by rw[A23];omega]
  rw[k]at D
  rw[A9q,A3r,<-D];simp
def Ai4{n j:Nat}{g:Nat->PD}{v:PD}(h:j<n):D2 (tb n g) (0+(Int.toNat (j:Int))*2) v.av=tb n (Ag0 g j v):=by
 rw[A2u,A22]
 unfold tb
 rw[TK (e:=PD.av) (sz:=2) (fun _=>rfl) _ j v (by simpa using h)]
 congr 1
 refine List.ext_getElem (by simp) fun i k D=>?_
 rw[A58]
 simp only[A4i,List.getElem_range,Ag0]
 by_cases e:j=i
 ·subst e;simp
 ·rw[if_neg e,if_neg (fun h=>e h.symm)]
def Atx(n:Nat):List.flatten (replicate n ([Bbr,Bbr]:LA))=tb n fun _=>⟨0,0⟩:=by
 unfold tb
 induction n with
|zero=>rfl
|succ n k =>
  rw[A7w,List.flatten_append,k,A82,A7y,A5r];rfl
def Aty{n j:Nat}{g:Nat->PD}{v:PD}(h:j<n):setCells (tb n g) (0+(Int.toNat (j:Int))*2) v.av=tb n (Ag0 g j v):=Ai4 h
def B8(ks:List Int)(h:Nat):Bool:=ks.getD h 0==2
def Se{ks:List Int}{h:Nat}(hh:h<ks.length):B8 ks h=(ks[h]==2):=by unfold B8;rw[A2z,A2r hh];rfl
section
variable(u:UnitD)(ks:List Int)
def BN:Nat->Bool
|0=>u.state==2
|h+1=>B8 ks h
def B_:Nat->PD
|0=>cond (B8 ks 0) (cond (u.state==2) ⟨Fc u.min (u.output - u.rampDown),Cn u.max (u.output+u.rampUp)⟩ ⟨u.min,u.startRamp⟩) ⟨0,0⟩
|h+1=>cond (B8 ks (h+1)) (cond (B8 ks h) ⟨Fc u.min ((B_ h).lo - u.rampDown),Cn u.max ((B_ h).hi+u.rampUp)⟩ ⟨u.min,u.startRamp⟩) ⟨0,0⟩
def Xn(n h:Nat):PD:=cond (B8 ks h&&(decide (h+1<n)&&!B8 ks (h+1))) ⟨(B_ u ks h).lo,Cn (B_ u ks h).hi u.stopRamp⟩ (B_ u ks h)
def Azj(n:Nat):Nat->PD
|0=>Xn u ks n (n - 1)
|i+1=>cond (B8 ks (n - 2 - i)&&B8 ks (n - 1 - i)) ⟨Fc (Xn u ks n (n - 2 - i)).lo ((Azj n i).lo - u.rampUp),Cn (Xn u ks n (n - 2 - i)).hi ((Azj n i).hi+u.rampDown)⟩ (Xn u ks n (n - 2 - i))
def V4(n h:Nat):PD:=Azj u ks n (n - 1 - h)
def f_{n:Nat}(k:0<n):V4 u ks n (n - 1)=Xn u ks n (n - 1):=by unfold V4;rw[A6d];rfl
def TL{n h:Nat}(hh:h+1<n):V4 u ks n h=cond (B8 ks h&&B8 ks (h+1)) ⟨Fc (Xn u ks n h).lo ((V4 u ks n (h+1)).lo - u.rampUp),Cn (Xn u ks n h).hi ((V4 u ks n (h+1)).hi+u.rampDown)⟩ (Xn u ks n h):=by
 unfold V4
 rw[show n - 1 - h=(n - 1 - (h+1))+1 by omega,Azj,show n - 2 - (n - 1 - (h+1))=h by omega,show n - 1 - (n - 1 - (h+1))=h+1 by omega]
end
section
variable{u:UnitD}{ks:List Int}{n:Nat}
structure UOk(u:UnitD):Prop where
 a:0<=u.min/\u.min<=u.max/\u.max<=1048576
 b:0<=u.rampUp/\u.rampUp<=1048576/\0<=u.rampDown/\u.rampDown<=1048576
 c:u.min<=u.startRamp/\u.startRamp<=u.max/\u.min<=u.stopRamp/\u.stopRamp<=u.max
 d:u.state=2->u.min<=u.output/\u.output<=u.max
def Afu(g:UOk u):∀ h,0<=(B_ u ks h).lo/\(B_ u ks h).lo<=1048576/\0<=(B_ u ks h).hi/\(B_ u ks h).hi<=1048576/\(B8 ks h=true->u.min<=(B_ u ks h).lo/\(B_ u ks h).lo<=u.max/\u.min<=(B_ u ks h).hi/\(B_ u ks h).hi<=u.max)
| 0=>by
  obtain⟨a,b,c,d⟩:=g
  unfold B_
  cases B8 ks 0 with
  |false=>simp
  |true =>
   by_cases hs:u.state=2
   ·have:=d hs;rw[show(u.state==2)=true by simpa using hs];simp only[cond_true,Dg,Fr];omega
   ·rw[show(u.state==2)=false by simpa using hs];simp only[cond_true,cond_false];omega
| h+1=>by
  have k:=Afu g h
  obtain⟨a,b,c,d⟩:=g
  rw[B_]
  cases B8 ks (h+1)with
  |false=>simp
  |true =>
   cases hh:B8 ks h with
   |true=>have:=k.2.2.2.2 hh;simp only[cond_true,Dg,Fr];omega
   |false=>simp only[cond_true,cond_false];omega
def Afv(g:UOk u)(h:Nat):(Xn u ks n h).lo=(B_ u ks h).lo/\(Xn u ks n h).hi<=(B_ u ks h).hi/\0<=(Xn u ks n h).hi/\(B8 ks h=true->u.min<=(Xn u ks n h).hi):=by
 have k:=Afu (ks:=ks) g h
 obtain⟨a,b,c,d⟩:=g
 unfold Xn
 cases hh:B8 ks h<;>cases decide (h+1<n)<;>cases B8 ks (h+1)<;>simp only[Bool.and_true,A5s,A5b,A6o,A6n,A5u,cond_true,cond_false,Dg]<;>(have:=k.2.2.2.2;simp[hh]at this ⊢;try omega)
def Aro{h:Nat}(hh:B8 ks (h+1)=true):Xn u ks n h=B_ u ks h:=by unfold Xn;rw[hh];simp
def Afw(g:UOk u):∀(i h:Nat),h+i+1=n->(Xn u ks n h).lo<=(V4 u ks n h).lo/\(V4 u ks n h).hi<=(Xn u ks n h).hi/\(V4 u ks n h).lo<=1048576/\0<=(V4 u ks n h).hi
|0,h,hi=>by
  rw[show h=n - 1 by omega,f_ _ _ (by omega)]
  have:=Afv (ks:=ks) (n:=n) g (n - 1);have:=Afu (ks:=ks) g (n - 1);omega
|i+1,h,hi=>by
  have k:=Afw g i (h+1) (by omega)
  have:=Afv (ks:=ks) (n:=n) g h;have:=Afu (ks:=ks) g h
  have D:=g.b
  rw[TL u ks (by omega)]
  cases (B8 ks h&&B8 ks (h+1))with
  |true=>simp only[cond_true,Dg,Fr];omega
  |false=>simp only[cond_false];omega
def Ak5(g:UOk u)(D:∀ h,h<n->B8 ks h=true->(Xn u ks n h).lo<=(Xn u ks n h).hi):∀(i h:Nat),h+i+1=n->B8 ks h=true->(V4 u ks n h).lo<=(V4 u ks n h).hi
|0,h,hi,k=>by
  rw[show h=n - 1 by omega,f_ _ _ (by omega)]
  exact D _ (by omega) (by rw[show n - 1=h by omega];exact k)
| i+1,h,hi,k=>by
  rw[TL u ks (n:=n) (h:=h) (by omega),k,A5s]
  have I:=D h (by omega) k
  cases G:B8 ks (h+1)with
  |false=>exact I
  |true =>
   have L:=Ak5 g D i (h+1) (by omega) G
   have r:=Afw (ks:=ks) (n:=n) g i (h+1) (by omega)
   have e:=Afv (ks:=ks) (n:=n) g (h+1)
   have T:=g.b
   rw[Aro G]at I ⊢
   have f:B_ u ks (h+1)=⟨Fc u.min ((B_ u ks h).lo - u.rampDown),Cn u.max ((B_ u ks h).hi+u.rampUp)⟩:=by rw[B_,G,k];rfl
   rw[f]at e
   simp only[Dg,Fr]at e
   simp only[cond_true,Dg,Fr];omega
def Oo(u:UnitD)(ks:List Int)(n:Nat):Bool:=(List.range n).any fun h=>B8 ks h&&decide ((Xn u ks n h).lo>(Xn u ks n h).hi)
def Arp(g:UOk u):Oo u ks n=(List.range n).any fun h=>decide ((V4 u ks n h).lo>(V4 u ks n h).hi):=by
 cases k:Oo u ks n with
|true =>
  symm
  unfold Oo at k
  rw[A7l]at k ⊢
  obtain⟨h,D,T⟩:=k
  refine⟨h,D,?_⟩
  simp at T D ⊢
  have:=Afw (ks:=ks) (n:=n) g (n - 1 - h) h (by omega)
  omega
| false =>
  symm
  rw[A5d]
  intro h D
  simp at D
  cases G:B8 ks h with
  | true =>
   have:=Ak5 g (ks:=ks) (n:=n) (fun h' I L=>by
    unfold Oo at k
    rw[A5d]at k
    have:=k h' (by simpa using I)
    simp[L] at this;omega) (n - 1 - h) h (by omega) G
   simp;omega
  | false =>
   have e:Xn u ks n h=⟨0,0⟩:=by
    unfold Xn;rw[G];simp only[A5u,cond_false]
    cases h<;>(rw[B_,G];rfl)
   have:V4 u ks n h=⟨0,0⟩:=by
    by_cases Y:h+1<n
    ·rw[TL u ks Y,G];exact e
    ·rw[show h=n - 1 by omega]at e ⊢
     rw[f_ _ _ (by omega)];exact e
   rw[this];simp
end
end
end Gx
namespace Gx.Uo
open Go Go.Proofs
noncomputable section
def pi{k:Int}:∀{m:Nat}{i:Int}{j:Nat},j<m->(Gh k i m)[j]?=some ⟨k,i+j+1⟩
|0,_,_,h=>absurd h (by omega)
|m+1,i,0,_=>by show some (⟨k,i+1⟩:StD)=_;congr 2;omega
|m+1,i,j+1,h=>by
  have:=pi (k:=k) (m:=m) (i:=i+1) (j:=j) (by omega)
  show(Gh k (i+1) m)[j]?=_
  rw[this];congr 2;omega
variable{u:UnitD}
def nS(u:UnitD):Nat:=(Be u).length
def Ak6(hs:Bg u=true):(nS u:Int)=A5 u+u.startTime+H4 u:=by
 have k:=Fs hs;have D:=On hs
 unfold nS Be
 rw[A3d,A3d,EI,EI,EI];omega
def Arq(hs:Bg u=true){i:Nat}(h:i<nS u):(Be u)[i]?=some (if (i:Int)<A5 u then⟨0,i+1⟩else if (i:Int)<A5 u+u.startTime then⟨1,i - A5 u+1⟩else⟨2,i - A5 u - u.startTime+1⟩):=by
 have D:=Fs hs;have G:=On hs;have I:=Ak6 hs
 have l0:(Gh 0 0 (A5 u).toNat).length=(A5 u).toNat:=EI
 have l1:(Gh 0 0 (A5 u).toNat++Gh 1 0 u.startTime.toNat).length=(A5 u).toNat+u.startTime.toNat:=by rw[A3d,EI,EI]
 unfold Be
 by_cases c1:(i:Int)<A5 u
 ·rw[if_pos c1,A42 (by omega),A42 (by omega),pi (by omega)]
  congr 2;omega
 ·rw[if_neg c1]
  by_cases k:(i:Int)<A5 u+u.startTime
  ·rw[if_pos k,A42 (by omega),A5e (by omega),l0,pi (by omega)]
   congr 2;omega
  ·rw[if_neg k,A5e (by omega),l1,pi (by omega)]
   congr 2;omega
def Ak7(hs:Bg u=true){i:Nat}(h:i<(Be u).length):(Be u)[i]=if (i:Int)<A5 u then⟨0,i+1⟩else if (i:Int)<A5 u+u.startTime then⟨1,i - A5 u+1⟩else⟨2,i - A5 u - u.startTime+1⟩:=by
 have:=Arq hs h
 rw[A2r h]at this
 exact A72 this
def w7(u:UnitD)(s:StD):Int:=cond (s.k==0) (s.h - 1) (cond (s.k==1) (A5 u+s.h - 1) (A5 u+u.startTime+s.h - 1))
def ix(u:UnitD)(s:StD):Nat:=(w7 u s).toNat
def Ak8(hs:Bg u=true){s:StD}(h:C4 u s):w7 u s=(ix u s:Int)/\ix u s<nS u/\(if w7 u s<A5 u then(⟨0,w7 u s+1⟩:StD)else if w7 u s<A5 u+u.startTime then⟨1,w7 u s - A5 u+1⟩else⟨2,w7 u s - A5 u - u.startTime+1⟩)=s:=by
 have G:=Fs hs;have I:=On hs;have L:=Ak6 hs
 obtain⟨k,x⟩:=s
 unfold C4 at h;simp only at h
 unfold ix w7
 rcases h with⟨T,⟨rfl,D⟩|⟨rfl,D⟩|⟨rfl,D⟩⟩
 ·simp only[show((0:Int)==0)=true from rfl,cond_true]
  refine⟨by omega,by omega,?_⟩
  rw[if_pos (by omega)];congr 1;omega
 ·simp only[show((1:Int)==0)=false from rfl,show((1:Int)==1)=true from rfl,cond_true,cond_false]
  refine⟨by omega,by omega,?_⟩
  rw[if_neg (by omega),if_pos (by omega)];congr 1;omega
 ·simp only[show((2:Int)==0)=false from rfl,show((2:Int)==1)=false from rfl,cond_false]
  refine⟨by omega,by omega,?_⟩
  rw[if_neg (by omega),if_neg (by omega)];congr 1;omega
def EM(hs:Bg u=true){s:StD}(h:C4 u s):ix u s<(Be u).length:=(Ak8 hs h).2.1
def Afx(hs:Bg u=true){s:StD}(h:C4 u s):(Be u)[ix u s]'(EM hs h)=s:=by rw[Ak7 hs,<-(Ak8 hs h).1];exact(Ak8 hs h).2.2
def Au6(hs:Bg u=true){i:Nat}(h:i<(Be u).length):C4 u (Be u)[i]/\ix u (Be u)[i]=i:=by
 have k:=Fs hs;have D:=On hs;have G:((Be u).length:Int)=_:=Ak6 hs
 rw[Ak7 hs h]
 unfold ix w7 C4
 split
 ·exact⟨⟨by simp only;omega,.inl ⟨rfl,by simp only;omega⟩⟩,by simp only[show((0:Int)==0)=true from rfl,cond_true];omega⟩
 ·split
  ·exact⟨⟨by simp only;omega,.inr (.inl ⟨rfl,by simp only;omega⟩)⟩,by simp only[show((1:Int)==0)=false from rfl,show((1:Int)==1)=true from rfl,cond_true,cond_false];omega⟩
  ·exact⟨⟨by simp only;omega,.inr (.inr ⟨rfl,by simp only;omega⟩)⟩,by simp only[show((2:Int)==0)=false from rfl,show((2:Int)==1)=false from rfl,cond_false];omega⟩
def uW(hs:Bg u=true):nS u<=80:=by have k:=Fs hs;have D:=On hs;have:=Ak6 hs;omega
structure MkD where
 d:RatD
 h:Nat
 p:Nat
 r:Bool
def FY:Option MkD->LA
|none=>[.bool false,.bool false,.nsl,.nsl,.int .i64 0,.int .i64 0,.bool false]
|some m=>.bool true::(m.d.av++[.int .i64 (m.h:Int),.int .i64 (m.p:Int),.bool m.r])
def A2(l:List (Option MkD)):LA:=l.flatMap FY
def EO(m:Option MkD):(FY m).length=7:=by cases m<;>rfl
def Arr(l:List (Option MkD)):(A2 l).length=l.length*7:=by
 induction l with
|nil=>rfl
|cons x r k=>unfold A2 at *;rw[A3r,A3d,k,EO,A3a];omega
def gA{l:List (Option MkD)}{j:Nat}(h:j<l.length):(A2 l).drop (j*7)=FY l[j]++A2 (l.drop (j+1)):=Y4 EO l j h
def Afy{l:List (Option MkD)}{j:Nat}{v:Option MkD}(h:j<l.length):setCells (A2 l) (j*7) (FY v)=A2 (l.set j v):=by
 have e:setCells (A2 l) (j*7) (FY v)=D2 (A2 l) (j*7) (FY v):=by cases v<;>rfl
 rw[e];exact TK EO l j v h
def An3(n:Nat):List.flatten (replicate n ([.bool false,.bool false,.nsl,.nsl,.int .i64 0,.int .i64 0,.bool false]:LA))=A2 (replicate n none):=by unfold A2;rw[List.flatMap_def,List.map_replicate];rfl
def A0i(u:UnitD)(h:Nat):Option MkD->Option Mk->Prop
|none,none=>True
|some m,some t=>m.d.can t.profit/\qm t.profit<=1000*h+10/\m.h=t.hour/\m.r=t.run/\(0<h->∃ s,C4 u s/\t.pos=ds s/\m.p=ix u s)
|_,_=>False
structure RowOk(u:UnitD)(h:Nat)(T:FG)(W:List (Option MkD)):Prop where
 n:W.length=(Be u).length
 e:∀ s,C4 u s->∃ m,W[ix u s]?=some m/\A0i u h m (T h (ds s))
def L9(u:UnitD)(H:Nat)(T:FG)(W:Nat->List (Option MkD)):Prop:=∀ h≤H,RowOk u h T (W h)
def Ars(hs:Bg u=true){s t:StD}(h:C4 u s)(h':C4 u t)(e:ix u s=ix u t):s=t:=by
 have a:=Afx hs h;have b:=Afx hs h'
 rw[<-a,<-b];congr 1
def Ai5(W:List (Option MkD))(i:Nat)(c:Bool)(m:MkD):List (Option MkD):=cond c (W.set i (some m)) W
def An4(hs:Bg u=true){H h:Nat}{T:FG}{W:Nat->List (Option MkD)}(k:L9 u H T W){s:StD}(h1:C4 u s){m:MkD}{t:Mk}(Y:A0i u h (some m) (some t)){c:Bool}
  (hc:c=match T h (ds s)with|none=>true|some o=>decide (o.profit<t.profit)) (hh:h<=H):L9 u H (W3 T h (ds s) t) (fun j=>if j=h then Ai5 (W h) (ix u s) c m else W j):=by
 intro j hj
 by_cases e:j=h
 ·subst e
  obtain⟨n,f⟩:=k j hh
  simp only[if_true]
  refine⟨by unfold Ai5;cases c<;>simp[n],fun D h'=>?_⟩
  obtain⟨m0,I,L⟩:=f D h'
  by_cases es:D=s
  ·subst es
   have lt:=EM hs h'
   unfold W3;rw[if_pos ⟨rfl,rfl⟩]
   unfold Ai5
   cases hT:T j (ds D)with
   |none =>
    rw[hT]at hc;dsimp only at hc;subst hc
    exact⟨some m,by rw[cond_true,A35 (by omega)],Y⟩
   | some o =>
    rw[hT]at hc L;dsimp only at hc ⊢
    by_cases G:o.profit<t.profit
    ·rw[decide_eq_true G]at hc;subst hc
     rw[if_pos G]
     exact⟨some m,by rw[cond_true,A35 (by omega)],Y⟩
    ·rw[decide_eq_false G]at hc;subst hc
     rw[if_neg G]
     exact⟨m0,I,L⟩
  ·have ne:ix u s≠ix u D:=fun e=>es (Ars hs h' h1 e.symm)
   unfold W3;rw[if_neg (fun c=>es (Arl c.2))]
   refine⟨m0,?_,L⟩
   unfold Ai5
   cases c
   ·exact I
   ·rw[cond_true,A4k ne];exact I
 ·show RowOk u j (W3 T h (ds s) t) (if j=h then Ai5 (W h) (ix u s) c m else W j)
  rw[if_neg e]
  obtain⟨n,f⟩:=k j hj
  refine⟨n,fun D h'=>?_⟩
  unfold W3;rw[if_neg (fun c=>e c.1)]
  exact f D h'
end
end Gx.Uo
namespace Gx.Uo
open Go Go.Proofs
section
variable{R:Type}{N:Nat}{X:O R}{u:UnitD}{hs:Int}{E Q V:List RatD}{o1 o2:Bool}{r:LA}
def Cv.far{f:F1}{L:Hk}(c:Cv f L):∀ i (h:i<L.length),(L[0]'(c.ne)).1+(i:Int)<=L[i].1
|0,_=>by omega
|i+1,h=>by have:=c.far i (by omega);have:=c.lt i h;omega
def Upto.len{f:F1}{L:Hk}{a b:Int}(u:Upto f L a b):(L.length:Int)<=b - a+1:=by
 have k:=u.cv.ne
 have:=u.cv.far (L.length - 1) (by omega)
 rw[u.fst,u.lst]at this;omega
def Axs(L:Hk)(V:List RatD)(j:Bool):((beq 0 0)&&((beq (List.length (S9 L V j)) 2)&&(beq 2 2)))=true:=rfl
def Axt(L:Hk)(V:List RatD)(j:Bool):ble 2 (List.length (S9 L V j))=true:=rfl
def Axu(L:Hk)(V:List RatD)(j:Bool):take 2 (S9 L V j)=S9 L V j:=rfl
def Afz{K:LA->Bool->O R}{h:Nat}{hh:Int}{a b:Rat}{f:F1}{L:Hk}{W:List RatD}{lo hi:Int}{B M:Nat}{j o c:Bool}(D:A4 u hh=true)(s:Stage (un u) f L lo hi)(hB:∀ y:Int,lo<=y->y<=hi->qm (f y)<=B)(hBM:B<=4000)(pa:Pr E h a)(pb:Pr Q h b)(hW:VOk W L)(hP:PB M L)(hM:M<=4500)(hV:VOk V (Za u))(hPc:PB 500 (Za u))(G:fit 1000000 N)
  (k:∀ W',VOk W' (zZ (un u) a b f L)->PB (B+540) (zZ (un u) a b f L)->K (S9 (zZ (un u) a b f L) W' false) false=X):Ec N (gS u hs E Q V o1 o2 r) o (h:Int) (S9 L W j) c K=X:=by
 have I:fit (100*(B+540)+1000) N:=G.le (show 100*(B+540)+1000<=1000000 by omega)
 have hNN:40000000<=N:=by have:=G.1;omega
 have ko:=BM D
 have hR:=(Bf D).2.1
 have hm:=E6 D
 have hN:100001000<=N:=by have:=G.1;omega
 have v2:=hR.2.2.1;have v3:=hR.2.2.2.1;have v4:=hR.2.2.2.2.1
 have st:=iO ko a b s
 have l0:u.min<=lo:=s.l0
 have l1:=s.l1
 have l2:hi<=u.max:=s.l2
 have ef:fstP L=lo:=s.up.fstP
 have Y:lstP L=hi:=s.up.lstP
 have hl:L.length<=3000000:=by have:=s.up.len;omega
 have sl:(Za u).length<=1+u.segs.l.length:=Abk _ _ _ _
 have s8:=(Hf D).1
 rw[Vy];unfold L7
 rw[A2a,ct,A19,show((beq 0 0)&&((beq (List.length u.av) 22)&&(beq 22 22)))=true from rfl,ct,Axt,ct,Axu]
 refine Ai3 hR pb s.up.cv.ne hW hP hM G fun w hw=>?_
 rw[show((beq 0 0)&&((beq (List.length (Ai2 L W j w (E2 0 L) (E2 (Av (un u) b) L))) 7)&&(beq 7 7)))=true from rfl,ct,u2,ct,Ari s.up.cv.ne,u7,u3,ct,Arj s.up.cv.ne hP.n,u6,u3,Av0,u3,u6,u7,Ays,EL,show((!o)||true)=true by cases o<;>rfl,ct]
 rw[show(ble (2+(Za u).length) 140737488355328&&ble ((2+(Za u).length)*8) 140737488355328)=true by
  rw[show ble (2+(Za u).length) 140737488355328=true by rw[A3p];omega,show ble ((2+(Za u).length)*8) 140737488355328=true by rw[A3p];omega];rfl,ct,Abi,ef,Y]
 rw[Bc (lo - u.rampDown) (by omega),Bc (hi+u.rampUp) (by omega),Bc (u.max - u.reserve) (by omega),Bc (u.max - u.rampUp) (by omega),Bc (u.max - u.rampUp - u.rampDown) (by omega),Fr,Dg]
 have e1:([.int .i64 (u.max - u.reserve),.int .i64 (u.max - u.rampUp - u.rampDown)]:LA)++Am (F4 (Za u))=Am ([u.max - u.reserve,u.max - u.rampUp - u.rampDown]++F4 (Za u)):=by unfold Am;simp
 have T:2+(Za u).length=([u.max - u.reserve,u.max - u.rampUp - u.rampDown]++F4 (Za u)).length:=by unfold F4;simp;omega
 rw[e1,T]
 refine(yX hR hP.x hl u rfl rfl rfl L.length 0 N ([u.max - u.reserve,u.max - u.rampUp - u.rampDown]++F4 (Za u)) (by omega) (by omega) (by rw[<-T];omega)).2 ?_
 rw[A3m]
 have ec:([u.max - u.reserve,u.max - u.rampUp - u.rampDown]++F4 (Za u))++L.flatMap (fun e=>[e.1 - u.rampDown,e.1+u.rampUp,e.1+u.rampUp - u.reserve])=NM (un u) L:=by
  unfold NM F4 un;simp
 rw[ec]
 have cl:(NM (un u) L).length<=10000000:=by
  rw[<-ec,A3d,<-T]
  have:∀ l:Hk,(l.flatMap fun e=>[e.1 - u.rampDown,e.1+u.rampUp,e.1+u.rampUp - u.reserve]).length=3*l.length:=fun l=>by
   induction l with
   |nil=>rfl
   |cons x r ih=>rw[A3r,A3d,ih];show 3+3*r.length=3*(r.length+1);omega
  rw[this];omega
 rw[f5];unfold VJ
 rw[Ayu]
 have d0:u.min<=NL u.min (lo - u.rampDown):=by unfold NL;split<;>omega
 have d1:Lt u.max (hi+u.rampUp)<=u.max:=by unfold Lt;split<;>omega
 have d2:NL u.min (lo - u.rampDown)<=Lt u.max (hi+u.rampUp):=st.l1
 have Azd:∀ x:Int,NL u.min (lo - u.rampDown)<=x->x<=Lt u.max (hi+u.rampUp)->qm (YT (un u) a b f L x)<=B+540:=fun x x0 x1=>(kS D pa.qm pb.qm s hB x0 x1).1
 refine Aft (F:=YT (un u) a b f L) (M:=B+540) d2 (by omega) (by omega) cl (fun x x0 x1 K' hK=>Ayx D s hB hBM pa pb hw hW hP hM hV hPc x0 x1 G hK) Azd I hNN fun W' h1 h2=>?_
 have eL:bL (YT (un u) a b f L) (VN (NL u.min (lo - u.rampDown)) (Lt u.max (hi+u.rampUp)) (NM (un u) L))=zZ (un u) a b f L:=by
  unfold zZ;rw[ef,Y];rfl
 rw[eL]at h1 h2 ⊢
 rw[Axs,ct,Axt,ct,Axu]
 exact k W' h1 h2
def Ai6{hh:Int}(k:A4 u hh=true){a b:Rat}(D:qm a<=9)(G:qm b<=9){x:Int}(x1:u.min<=x)(x2:x<=u.startRamp):qm (cM (un u) a b x)<=540/\cM (un u) a b x=own (un u) a x+Av (un u) b*(Lt u.reserve (u.startRamp - x):Int)/\(-10000000<=Lt u.reserve (u.startRamp - x)/\Lt u.reserve (u.startRamp - x)<=10000000):=by
 have hR:=(Bf k).2.1
 have I:=E6 k
 have ko:=BM k
 have s1:u.startRamp<=u.max:=ko.sr0.2
 have v4:=hR.2.2.2.2.1
 have ib:-10000000<=Lt u.reserve (u.startRamp - x)/\Lt u.reserve (u.startRamp - x)<=10000000:=by unfold Lt;split<;>omega
 have e:cM (un u) a b x=own (un u) a x+Av (un u) b*(Lt u.reserve (u.startRamp - x):Int):=by
  rw[Amd,A3i];rfl
 have L:=V1 hR G
 have T:=qi (v:=Lt u.reserve (u.startRamp - x)) (by omega)
 have Y:=Abq k D (x:=x) (by omega)
 have m1:=Kb (Av (un u) b) ((Lt u.reserve (u.startRamp - x):Int):Rat)
 have m2:=Fz (own (un u) a x) (Av (un u) b*((Lt u.reserve (u.startRamp - x):Int):Rat))
 exact⟨by rw[e];omega,e,ib⟩
def Ayy{K:LA->O R}{h:Nat}{hh x:Int}{a b:Rat}{wd:RatD}{o:Bool}(D:A4 u hh=true)(pa:Pr E h a)(pb:qm b<=9)(I:wd.can (Av (un u) b))(hV:VOk V (Za u))(hPc:PB 500 (Za u))(x1:u.min<=x)(x2:x<=u.startRamp)(G:fit 1000000 N)
  (k:∀ d:RatD,d.can (cM (un u) a b x)->K d.av=X):C1 N x (gS u hs E Q V o1 o2 r) o (h:Int) wd.av K=X:=by
 have hR:=(Bf D).2.1
 have hm:=E6 D
 have hN:100001000<=N:=by have:=G.1;omega
 obtain⟨q0,e,ib⟩:=Ai6 D pa.qm pb x1 x2
 have s1:u.startRamp<=u.max:=(BM D).sr0.2
 have q2:=V1 hR pb
 have q3:=qi (v:=Lt u.reserve (u.startRamp - x)) (by omega)
 have q4:=Abq D pa.qm (x:=x) (by omega)
 have m1:=Kb (Av (un u) b) ((Lt u.reserve (u.startRamp - x):Int):Rat)
 rw[Qu];unfold M5
 rw[Awi,A0a,Bc (u.startRamp - x) (by omega),Dg]
 refine Au3 D pa hV hPc (by omega) G fun i hi=>?_
 rw[b3,ct]
 refine D0 (by omega) (by omega) fun j L=>?_
 rw[Y9]
 refine SU I L (G.le (by omega)) fun l T=>?_
 refine ST hi T (G.le (by omega)) fun g Y=>?_
 rw[c3,ct,b3,ct,Y9]
 exact k g (by rw[e];exact Y)
def Atz{K:LA->Bool->O R}{h:Nat}{hh:Int}{a b:Rat}{o:Bool}(D:A4 u hh=true)(pa:Pr E h a)(pb:Pr Q h b)(hV:VOk V (Za u))(hPc:PB 500 (Za u))(G:fit 1000000 N)
  (k:∀ W',VOk W' (Ame (un u) a b)->PB 540 (Ame (un u) a b)->K (S9 (Ame (un u) a b) W' false) false=X):K4 N (gS u hs E Q V o1 o2 r) o (h:Int) K=X:=by
 have ko:=BM D
 have hR:=(Bf D).2.1
 have hm:=E6 D
 have hN:100001000<=N:=by have:=G.1;omega
 have v4:=hR.2.2.2.2.1
 have s0:u.min<=u.startRamp:=ko.sr0.1
 have s1:u.startRamp<=u.max:=ko.sr0.2
 have sl:(Za u).length<=1+u.segs.l.length:=Abk _ _ _ _
 have s8:=(Hf D).1
 rw[Xm];unfold Ug
 refine Abp hR pb (G.le (by omega)) fun w Y=>?_
 rw[c3,ct,A0a,Awi,Ays,EL,show((!o)||true)=true by cases o<;>rfl,ct]
 rw[show(ble (1+(Za u).length) 140737488355328&&ble ((1+(Za u).length)*8) 140737488355328)=true by
  rw[show ble (1+(Za u).length) 140737488355328=true by rw[A3p];omega,show ble ((1+(Za u).length)*8) 140737488355328=true by rw[A3p];omega];rfl,ct,Axo,A0a,Bc (u.startRamp - u.reserve) (by omega)]
 have e1:([.int .i64 (u.startRamp - u.reserve)]:LA)++Am (F4 (Za u))=Am ((u.startRamp - u.reserve)::F4 (Za u)):=by unfold Am;simp
 have I:1+(Za u).length=((u.startRamp - u.reserve)::F4 (Za u)).length:=by unfold F4;simp;omega
 rw[e1,I,OQ];unfold Yu
 rw[Ayw]
 refine Aft (F:=cM (un u) a b) (M:=540) s0 (by omega) (by omega) (by rw[<-I];omega) (fun x x0 x1 K' hK=>Ayy D pa pb.qm Y hV hPc x0 x1 G hK) (fun x x0 x1=>(Ai6 D pa.qm pb.qm x0 x1).1) (G.le (by omega)) (by omega) fun W' L T=>?_
 have eL:bL (cM (un u) a b) (VN u.min u.startRamp ((u.startRamp - u.reserve)::F4 (Za u)))=Ame (un u) a b:=rfl
 rw[eL]at L T ⊢
 rw[Axs,ct,Axt,ct,Axu]
 exact k W' L T
def Af0{K:LA->O R}{o:Bool}(hN:4<=N)(G:uR u)(k:∀ W',VOk W' (oL (un u))->PB 2 (oL (un u))->K (S9 (oL (un u)) W' false)=X):E9 N (gS u hs E Q V o1 o2 r) o K=X:=by
 have v:=G.2.2.2.2.2.2.2.2.2.2.2
 rw[Vz];unfold Sb
 rw[A0d]
 refine D0 (by omega) hN fun c hc=>?_
 rw[show((beq (List.length c.av) 3)&&(ble 3 3))=true from rfl,ct]
 refine k [c] ⟨rfl,fun i I L=>?_⟩ ⟨fun p D=>?_,fun p D=>?_,by simp[oL]⟩
 ·have:i=0:=by simp at I;omega
  subst this;exact hc
 ·simp only[oL,A5w]at D;subst D;show -10000000<=u.output/\u.output<=10000000;omega
 ·simp only[oL,A5w]at D;subst D;exact qi (v:=0) (by omega)
end
end Gx.Uo
namespace Gx
open Go Go.Proofs
set_option maxRecDepth 100000
noncomputable section
variable{R:Type}(N:Nat)
def F8(N:Nat)(k1:Int->Int->N6 (L6 (O R)))(r0:N6 (Nat->L6 (O R)))(r1:N6 (Nat->L6 (O R)))(r2:N6 (Nat->L6 (O R)))(r3:N6 (Nat->L6 (O R)))(r4:N6 (Nat->L6 (O R)))(r5:N6 (Nat->L6 (O R)))(a:Int)(s:RB)(au av:Int)(v w x y z aa:Nat)(r aw ax ay az ba bb:LA):O R:=(Aht au fun i0=>cond (ble 2 r.length) (cond ((beq ((r.take 2).length) 2)&&(ble 2 2)) (cond ((ble ((v6 i0 v w x y z aa)+1) 140737488355328)&&(ble (((v6 i0 v w x y z aa)+1)*48) 140737488355328)) (p6 i0 (((v6 i0 aw ax ay az ba bb).take ((v6 i0 v w x y z aa)*2))++((setCells [.nsl,.nsl] 0 (r.take 2)).take 2)) aw ax ay az ba bb (p6 i0 ((v6 i0 v w x y z aa)+1) v w x y z aa (k1 (iI i0) (wrap .i64 (av+1))))) none) none) none)
def V5(r0:N6 (Nat->L6 (O R)))(r1:N6 (Nat->L6 (O R)))(r2:N6 (Nat->L6 (O R)))(r3:N6 (Nat->L6 (O R)))(r4:N6 (Nat->L6 (O R)))(r5:N6 (Nat->L6 (O R)))(a:Int)(s:RB)(k1:Int->Int->N6 (L6 (O R)))(q2:Int->Int->N6 (L6 (LA->O R)))(t b:Int)(c d f g h i:Nat)(j l m o p q:LA):O R:=(cond (decide (b<=a)) (cond (decide (b>t)) (Aht t fun i0=>cond (Ab (wrap .i64 ((wrap .i64 (b - (iI i0))) - 1)) (v6 i0 c d f g h i)) (cond (ble 2 (((v6 i0 j l m o p q).drop (0+(((wrap .i64 ((wrap .i64 (b - (iI i0))) - 1)).toNat)*2))).length)) (Ec N (Amb s (j.take (c*2)) c (l.take (d*2)) d (m.take (f*2)) f (o.take (g*2)) g (p.take (h*2)) h (q.take (i*2)) i) true b (((v6 i0 j l m o p q).drop (0+(((wrap .i64 ((wrap .i64 (b - (iI i0))) - 1)).toNat)*2))).take 2) false fun be bm=>cond (bm||false) none (cond ((beq 0 0)&&((beq be.length 2)&&(beq 2 2))) (q2 (iI i0) b c d f g h i be j l m o p q) none)) none) none) (Do N (Amb s (j.take (c*2)) c (l.take (d*2)) d (m.take (f*2)) f (o.take (g*2)) g (p.take (h*2)) h (q.take (i*2)) i) true t fun bs=>cond bs (E9 N (Amb s (j.take (c*2)) c (l.take (d*2)) d (m.take (f*2)) f (o.take (g*2)) g (p.take (h*2)) h (q.take (i*2)) i) true fun bt=>Ec N (Amb s (j.take (c*2)) c (l.take (d*2)) d (m.take (f*2)) f (o.take (g*2)) g (p.take (h*2)) h (q.take (i*2)) i) true b bt false fun bk bv=>cond (bv||false) none (cond ((beq 0 0)&&((beq bk.length 2)&&(beq 2 2))) (q2 t b c d f g h i bk j l m o p q) none)) (K4 N (Amb s (j.take (c*2)) c (l.take (d*2)) d (m.take (f*2)) f (o.take (g*2)) g (p.take (h*2)) h (q.take (i*2)) i) true b fun bl bw=>cond (bw||false) none (cond ((beq 0 0)&&((beq bl.length 2)&&(beq 2 2))) (q2 t b c d f g h i bl j l m o p q) none)))) (Aht t fun i1=>m6 i1 j l m o p q ((v6 i1 r0 r1 r2 r3 r4 r5) (v6 i1 c d f g h i) c d f g h i)))
def C2(r0:N6 (Nat->L6 (O R)))(r1:N6 (Nat->L6 (O R)))(r2:N6 (Nat->L6 (O R)))(r3:N6 (Nat->L6 (O R)))(r4:N6 (Nat->L6 (O R)))(r5:N6 (Nat->L6 (O R)))(a:Int)(s:RB):Nat->Int->Int->N6 (L6 (O R))
|0=>fun _ _ _ _ _ _ _ _ _ _ _ _ _ _=>none
|n+1=>V5 N r0 r1 r2 r3 r4 r5 a s (C2 r0 r1 r2 r3 r4 r5 a s n) (F8 N (C2 r0 r1 r2 r3 r4 r5 a s n) r0 r1 r2 r3 r4 r5 a s)
def V6(N:Nat)(r0:N6 (Nat->L6 (O R)))(r1:N6 (Nat->L6 (O R)))(r2:N6 (Nat->L6 (O R)))(r3:N6 (Nat->L6 (O R)))(r4:N6 (Nat->L6 (O R)))(r5:N6 (Nat->L6 (O R)))(a:Int)(s:RB)(q1:Int->Int->N6 (L6 (O R)))(bc bd:Int):O R:=(q1 bc bd s.na s.nb s.nc s.nd s.ne s.nf s.ka s.kb s.kc s.kd s.ke s.kf)
def Oq(r0:N6 (Nat->L6 (O R)))(r1:N6 (Nat->L6 (O R)))(r2:N6 (Nat->L6 (O R)))(r3:N6 (Nat->L6 (O R)))(r4:N6 (Nat->L6 (O R)))(r5:N6 (Nat->L6 (O R)))(a:Int)(s:RB)(bc bd:Int):O R:=V6 N r0 r1 r2 r3 r4 r5 a s (C2 N r0 r1 r2 r3 r4 r5 a s N) bc bd
def Sf(N:Nat)(r0:N6 (Nat->L6 (O R)))(r1:N6 (Nat->L6 (O R)))(r2:N6 (Nat->L6 (O R)))(r3:N6 (Nat->L6 (O R)))(r4:N6 (Nat->L6 (O R)))(r5:N6 (Nat->L6 (O R)))(q0:Int->Int->O R)(u a:Int)(s:RB):O R:=(Aht u fun i0=>q0 (iI i0) (wrap .i64 ((iI i0)+(((v6 i0 s.na s.nb s.nc s.nd s.ne s.nf):Nat):Int))))
def Jk:=(shut fun N u a s r0 r1 r2 r3 r4 r5=>Sf (R:=R) N r0 r1 r2 r3 r4 r5 (Oq N r0 r1 r2 r3 r4 r5 a s) u a s).1
def V7(u a s r0 r1 r2 r3 r4 r5):(@Jk R N u a s r0 r1 r2 r3 r4 r5)=(Sf N r0 r1 r2 r3 r4 r5 (Oq N r0 r1 r2 r3 r4 r5 a s) u a s):=by rw[Jk,(shut _).2]
def Xo:Hints:={H:=hK 1 (hS (hJ [0,1,2,7] hL (hS (hP [0,1,2,7] (hK 1 (hS (hS (hK 1 (hJ [0,1,2,7,8] hL hL)) hL) hL))) hL)) hL),nils:=[(6,2)],modes:=[(2,2)],free:=[100001,100002,100003,100004,100005,100006],cob:=[6000009,6000033,6000055,6000069]}
def BO:Oe:=[aY N,Ta N,BI N,f9 N]
def Ot(F:KF R):=Iv Tryz.f195 Xo (BO N) [100000,100001,100002,100003,100004,100005,100006] N F
def Dp(s:RB)(F:KF R):N6 (Nat->L6 (O R)):=fun ab ad ae af ag ah ai aj ak al am ap ar=>F (Bbq 0 ab) [(100000,bN 0 (Zt 299999 {s with na:=ad,nb:=ae,nc:=af,nd:=ag,ne:=ah,nf:=ai})),(300000,bQ 2 aj),(300001,bQ 2 ak),(300002,bQ 2 al),(300003,bQ 2 am),(300004,bQ 2 ap),(300005,bQ 2 ar)]
def Dq(s:RB)(F:KF R):N6 (Nat->L6 (O R)):=fun ab ad ae af ag ah ai aj ak al am ap ar=>F (Bbq 0 ab) [(100000,bN 0 [.str s.nm,iv s.bu,iv s.mi,iv s.ma,.imm s.sc s.sn 2 s.st s.so,iv s.nl,iv s.ru,iv s.rd,iv s.sr,iv s.tr,iv s.ut,iv s.dt,iv s.sT,iv s.hc,iv s.cc,iv s.hh,iv s.rs,iv s.rp,.imm s.ac s.an 1 s.aq s.ao,iv s.us,iv s.uh,iv s.uo,iv s.hs,.imm s.ec s.en 3 s.et s.eo,.imm s.qc s.qn 3 s.qt s.qo,.imm s.pc s.pn 1 s.pt s.po,.imm s.vc s.vn 3 s.vt s.vo,Bbq 1 ad,Bbq 0 ae,Bbq 2 af,Bbq 3 ag,Bbq 4 ah,Bbq 5 ai,.nsl,.nsl,.nsl,.nsl,.nsl,.nsl,.nsl,.nsl,.nsl,.nsl,.nsl,.nsl,.nsl,.nsl,.nsl,.nsl,.nsl,.nsl]),(300000,bQ 2 aj),(300001,bQ 2 ak),(300002,bQ 2 al),(300003,bQ 2 am),(300004,bQ 2 ap),(300005,bQ 2 ar)]
def Dr(s:RB)(F:KF R):N6 (Nat->L6 (O R)):=fun ab ad ae af ag ah ai aj ak al am ap ar=>F (Bbq 0 ab) [(100000,bN 0 [.str s.nm,iv s.bu,iv s.mi,iv s.ma,.imm s.sc s.sn 2 s.st s.so,iv s.nl,iv s.ru,iv s.rd,iv s.sr,iv s.tr,iv s.ut,iv s.dt,iv s.sT,iv s.hc,iv s.cc,iv s.hh,iv s.rs,iv s.rp,.imm s.ac s.an 1 s.aq s.ao,iv s.us,iv s.uh,iv s.uo,iv s.hs,.imm s.ec s.en 3 s.et s.eo,.imm s.qc s.qn 3 s.qt s.qo,.imm s.pc s.pn 1 s.pt s.po,.imm s.vc s.vn 3 s.vt s.vo,Bbq 1 ad,Bbq 2 ae,Bbq 0 af,Bbq 3 ag,Bbq 4 ah,Bbq 5 ai,.nsl,.nsl,.nsl,.nsl,.nsl,.nsl,.nsl,.nsl,.nsl,.nsl,.nsl,.nsl,.nsl,.nsl,.nsl,.nsl,.nsl,.nsl]),(300000,bQ 2 aj),(300001,bQ 2 ak),(300002,bQ 2 al),(300003,bQ 2 am),(300004,bQ 2 ap),(300005,bQ 2 ar)]
def Ds(s:RB)(F:KF R):N6 (Nat->L6 (O R)):=fun ab ad ae af ag ah ai aj ak al am ap ar=>F (Bbq 0 ab) [(100000,bN 0 [.str s.nm,iv s.bu,iv s.mi,iv s.ma,.imm s.sc s.sn 2 s.st s.so,iv s.nl,iv s.ru,iv s.rd,iv s.sr,iv s.tr,iv s.ut,iv s.dt,iv s.sT,iv s.hc,iv s.cc,iv s.hh,iv s.rs,iv s.rp,.imm s.ac s.an 1 s.aq s.ao,iv s.us,iv s.uh,iv s.uo,iv s.hs,.imm s.ec s.en 3 s.et s.eo,.imm s.qc s.qn 3 s.qt s.qo,.imm s.pc s.pn 1 s.pt s.po,.imm s.vc s.vn 3 s.vt s.vo,Bbq 1 ad,Bbq 2 ae,Bbq 3 af,Bbq 0 ag,Bbq 4 ah,Bbq 5 ai,.nsl,.nsl,.nsl,.nsl,.nsl,.nsl,.nsl,.nsl,.nsl,.nsl,.nsl,.nsl,.nsl,.nsl,.nsl,.nsl,.nsl,.nsl]),(300000,bQ 2 aj),(300001,bQ 2 ak),(300002,bQ 2 al),(300003,bQ 2 am),(300004,bQ 2 ap),(300005,bQ 2 ar)]
def Dt(s:RB)(F:KF R):N6 (Nat->L6 (O R)):=fun ab ad ae af ag ah ai aj ak al am ap ar=>F (Bbq 0 ab) [(100000,bN 0 [.str s.nm,iv s.bu,iv s.mi,iv s.ma,.imm s.sc s.sn 2 s.st s.so,iv s.nl,iv s.ru,iv s.rd,iv s.sr,iv s.tr,iv s.ut,iv s.dt,iv s.sT,iv s.hc,iv s.cc,iv s.hh,iv s.rs,iv s.rp,.imm s.ac s.an 1 s.aq s.ao,iv s.us,iv s.uh,iv s.uo,iv s.hs,.imm s.ec s.en 3 s.et s.eo,.imm s.qc s.qn 3 s.qt s.qo,.imm s.pc s.pn 1 s.pt s.po,.imm s.vc s.vn 3 s.vt s.vo,Bbq 1 ad,Bbq 2 ae,Bbq 3 af,Bbq 4 ag,Bbq 0 ah,Bbq 5 ai,.nsl,.nsl,.nsl,.nsl,.nsl,.nsl,.nsl,.nsl,.nsl,.nsl,.nsl,.nsl,.nsl,.nsl,.nsl,.nsl,.nsl,.nsl]),(300000,bQ 2 aj),(300001,bQ 2 ak),(300002,bQ 2 al),(300003,bQ 2 am),(300004,bQ 2 ap),(300005,bQ 2 ar)]
def Du(s:RB)(F:KF R):N6 (Nat->L6 (O R)):=fun ab ad ae af ag ah ai aj ak al am ap ar=>F (Bbq 0 ab) [(100000,bN 0 [.str s.nm,iv s.bu,iv s.mi,iv s.ma,.imm s.sc s.sn 2 s.st s.so,iv s.nl,iv s.ru,iv s.rd,iv s.sr,iv s.tr,iv s.ut,iv s.dt,iv s.sT,iv s.hc,iv s.cc,iv s.hh,iv s.rs,iv s.rp,.imm s.ac s.an 1 s.aq s.ao,iv s.us,iv s.uh,iv s.uo,iv s.hs,.imm s.ec s.en 3 s.et s.eo,.imm s.qc s.qn 3 s.qt s.qo,.imm s.pc s.pn 1 s.pt s.po,.imm s.vc s.vn 3 s.vt s.vo,Bbq 1 ad,Bbq 2 ae,Bbq 3 af,Bbq 4 ag,Bbq 5 ah,Bbq 0 ai,.nsl,.nsl,.nsl,.nsl,.nsl,.nsl,.nsl,.nsl,.nsl,.nsl,.nsl,.nsl,.nsl,.nsl,.nsl,.nsl,.nsl,.nsl]),(300000,bQ 2 aj),(300001,bQ 2 ak),(300002,bQ 2 al),(300003,bQ 2 am),(300004,bQ 2 ap),(300005,bQ 2 ar)]
def VZ(a:Int)(s:RB)(K:St->O R):=fun au av v w x y z aa r aw ax ay az ba bb=>K ⟨[(0,.optr 100000 0),(1,iv au),(2,iv a),(7,iv av),(8,op 0)],[(100000,bN 0 (Zt 300000 {s with na:=v,nb:=w,nc:=x,nd:=y,ne:=z,nf:=aa})),(300000,bQ 0 r),(300001,bQ 2 aw),(300002,bQ 2 ax),(300003,bQ 2 ay),(300004,bQ 2 az),(300005,bQ 2 ba),(300006,bQ 2 bb)]⟩
def Xp(a:Int)(s:RB)(K:St->O R):=fun t b c d f g h i j l m o p q=>K ⟨[(0,.optr 100000 0),(1,iv t),(2,iv a),(7,iv b)],[(100000,bN 0 (Zt 299999 {s with na:=c,nb:=d,nc:=f,nd:=g,ne:=h,nf:=i})),(300000,bQ 2 j),(300001,bQ 2 l),(300002,bQ 2 m),(300003,bQ 2 o),(300004,bQ 2 p),(300005,bQ 2 q)]⟩
def V_(a:Int)(s:RB)(K:St->O R):=fun bc bd=>K ⟨[(0,.optr 100000 0),(1,iv bc),(2,iv a),(7,iv bd)],[(100000,bN 0 (Zt 299999 s)),(300000,bQ 2 s.ka),(300001,bQ 2 s.kb),(300002,bQ 2 s.kc),(300003,bQ 2 s.kd),(300004,bQ 2 s.ke),(300005,bQ 2 s.kf)]⟩
def MH Q1 (F:KF R) (a s):VZ a s (A1 (Ot N F (pz 1327365) [Q1]))=(F8 N (Xp a s Q1) (Dp s F) (Dq s F) (Dr s F) (Ds s F) (Dt s F) (Du s F) a s):=by kernel_rfl
def MI(F:KF R)(a s):∀ n,Xp a s (Ao (Ot N F (pz 324) []) n)=(C2 N (Dp s F) (Dq s F) (Dr s F) (Ds s F) (Dt s F) (Du s F) a s n):=Gu fun n e=>(QH (V5 N (Dp s F) (Dq s F) (Dr s F) (Ds s F) (Dt s F) (Du s F) a s) e ((jW ..).trans ((MH ..).trans (xP (F8 _ · _ _ _ _ _ _ _ _) e))):_)
def MJ(F:KF R)(a s):V_ a s (A1 (Ot N F (pz 81) []))=(Oq N (Dp s F) (Dq s F) (Dr s F) (Ds s F) (Dt s F) (Du s F) a s):=(B6 (V6 N (Dp s F) (Dq s F) (Dr s F) (Ds s F) (Dt s F) (Du s F) a s) ((lW ..).trans (MI ..)):_)
def a_:=Cc N 195 (BO N) Xo (Ax4 fun
|[.optr 100000 0,.int .i64 u,.int .i64 a],s=>some fun _ k=>Jk N u a s (Dp s k) (Dq s k) (Dr s k) (Ds s k) (Dt s k) (Du s k)
| _,_=>none) (Az1 fun _ s=>by split;rename_i u a;intro R F;exact(B6 (Sf N (Dp s F) (Dq s F) (Dr s F) (Ds s F) (Dt s F) (Du s F) · u a s) ((jW ..).trans (MJ ..)):_).trans (V7 ..).symm;trivial)
def Ob(r0:Int->Bool->N6 (L6 (O R)))(s:RB)(d e f g h i:Nat)(c j l m n o p:LA)(q:Int):O R:=(cond (ble 2 c.length) (Jh N (c.take 2) false fun z=>cond (decide (q<z)) (r0 0 false d e f g h i j l m n o p) (cond (ble 2 c.length) (A7 N 0 fun aa=>Ir N (c.take 2) false aa false fun ab=>r0 (Cn ab q) true d e f g h i j l m n o p) none)) none)
def Sg(r0:Int->Bool->N6 (L6 (O R)))(a:Int)(s:RB)(q1:N6 (L6 (LA->Int->O R)))(d e f g h i:Nat)(c j l m n o p:LA):O R:=(cond (ble 2 c.length) (Lm N (c.take 2) false fun y=>cond (decide (a<(wrap .i64 (s.hs - 1)))) (q1 d e f g h i c j l m n o p (Cn y s.tr)) (q1 d e f g h i c j l m n o p y)) none)
def Jl(r0:Int->Bool->N6 (L6 (O R)))(a:Int)(s:RB)(d e f g h i:Nat)(c j l m n o p:LA):O R:=Sg N r0 a s (fun d e f g h i c j l m n o p=>Ob N r0 s d e f g h i c j l m n o p) d e f g h i c j l m n o p
def Sh(r0:Int->Bool->N6 (L6 (O R)))(q0:N6 (L6 (LA->O R)))(b a:Int)(s:RB):O R:=(Jk N b a s (fun ac ad ae af ag ah ai r aj ak al am an=>cond (Ab (wrap .i64 (a - b)) ac) (cond (ble 2 ((r.drop (0+(((wrap .i64 (a - b)).toNat)*2))).length)) (cond ((beq 0 0)&&((beq (((r.drop (0+(((wrap .i64 (a - b)).toNat)*2))).take 2).length) 2)&&(beq 2 2))) (q0 ad ae af ag ah ai ((r.drop (0+(((wrap .i64 (a - b)).toNat)*2))).take 2) r aj ak al am an) none) none) none) (fun ao ap aq ar au av aw t ax ay az ba bb=>cond (Ab (wrap .i64 (a - b)) ao) (cond (ble 2 ((t.drop (0+(((wrap .i64 (a - b)).toNat)*2))).length)) (cond ((beq 0 0)&&((beq (((t.drop (0+(((wrap .i64 (a - b)).toNat)*2))).take 2).length) 2)&&(beq 2 2))) (q0 ap aq ar au av aw ((t.drop (0+(((wrap .i64 (a - b)).toNat)*2))).take 2) ax t ay az ba bb) none) none) none) (fun bc bd be bf bg bh bi u bj bk bl bm bn=>cond (Ab (wrap .i64 (a - b)) bc) (cond (ble 2 ((u.drop (0+(((wrap .i64 (a - b)).toNat)*2))).length)) (cond ((beq 0 0)&&((beq (((u.drop (0+(((wrap .i64 (a - b)).toNat)*2))).take 2).length) 2)&&(beq 2 2))) (q0 bd be bf bg bh bi ((u.drop (0+(((wrap .i64 (a - b)).toNat)*2))).take 2) bj bk u bl bm bn) none) none) none) (fun bo bp bq br bs bt bu v bv bw bx bz ca=>cond (Ab (wrap .i64 (a - b)) bo) (cond (ble 2 ((v.drop (0+(((wrap .i64 (a - b)).toNat)*2))).length)) (cond ((beq 0 0)&&((beq (((v.drop (0+(((wrap .i64 (a - b)).toNat)*2))).take 2).length) 2)&&(beq 2 2))) (q0 bp bq br bs bt bu ((v.drop (0+(((wrap .i64 (a - b)).toNat)*2))).take 2) bv bw bx v bz ca) none) none) none) (fun cb cc cd ce cf cg ch w ci cj ck cl cm=>cond (Ab (wrap .i64 (a - b)) cb) (cond (ble 2 ((w.drop (0+(((wrap .i64 (a - b)).toNat)*2))).length)) (cond ((beq 0 0)&&((beq (((w.drop (0+(((wrap .i64 (a - b)).toNat)*2))).take 2).length) 2)&&(beq 2 2))) (q0 cc cd ce cf cg ch ((w.drop (0+(((wrap .i64 (a - b)).toNat)*2))).take 2) ci cj ck cl w cm) none) none) none) fun cn co cp cq cr cs ct x cu cv cw cx cy=>cond (Ab (wrap .i64 (a - b)) cn) (cond (ble 2 ((x.drop (0+(((wrap .i64 (a - b)).toNat)*2))).length)) (cond ((beq 0 0)&&((beq (((x.drop (0+(((wrap .i64 (a - b)).toNat)*2))).take 2).length) 2)&&(beq 2 2))) (q0 co cp cq cr cs ct ((x.drop (0+(((wrap .i64 (a - b)).toNat)*2))).take 2) cu cv cw cx cy x) none) none) none)
def Ln:=(shut fun N b a s r0=>Sh (R:=R) N r0 (Jl N r0 a s) b a s).1
def EP(b a s r0):(@Ln R N b a s r0)=(Sh N r0 (Jl N r0 a s) b a s):=by rw[Ln,(shut _).2]
def IE:Hints:={H:=hK 1 (hJ [0,2,8] hL (hK 1 (hJ [8,9] hL hL)))}
def OS:Oe:=[a_ N,Wv N,Ue N,Cp N,OM N]
def IF(F:KF R):=Iv Tryz.f144 IE (OS N) [100000,100001,100002,100003,100004,100005,100006] N F
def Jm(s:RB)(F:KF R):Int->Bool->N6 (L6 (O R)):=fun cz da db dc dd de df dg dh di dj dk dl dm=>F (.tup [iv cz,.bool da]) [(100000,bN 0 (Zt 299999 {s with na:=db,nb:=dc,nc:=dd,nd:=de,ne:=df,nf:=dg})),(300000,bQ 2 dh),(300001,bQ 2 di),(300002,bQ 2 dj),(300003,bQ 2 dk),(300004,bQ 2 dl),(300005,bQ 2 dm)]
def kT(s:RB)(d e f g h i:Nat)(c j l m n o p:LA)(K:St->O R):=fun q=>K ⟨[(8,op 0),(9,iv q)],[(100000,bN 0 (Zt 300000 {s with na:=d,nb:=e,nc:=f,nd:=g,ne:=h,nf:=i})),(300000,bQ 0 c),(300001,bQ 2 j),(300002,bQ 2 l),(300003,bQ 2 m),(300004,bQ 2 n),(300005,bQ 2 o),(300006,bQ 2 p)]⟩
def kU(a:Int)(s:RB)(K:St->O R):=fun d e f g h i c j l m n o p=>K ⟨[(0,.optr 100000 0),(2,iv a),(8,op 0)],[(100000,bN 0 (Zt 300000 {s with na:=d,nb:=e,nc:=f,nd:=g,ne:=h,nf:=i})),(300000,bQ 0 c),(300001,bQ 2 j),(300002,bQ 2 l),(300003,bQ 2 m),(300004,bQ 2 n),(300005,bQ 2 o),(300006,bQ 2 p)]⟩
def WA(F:KF R)(s d e f g h i c j l m n o p):kT s d e f g h i c j l m n o p (A1 (IF N F (pz 341) []))=(Ob N (Jm s F) s d e f g h i c j l m n o p):=by kernel_rfl
def WB(F:KF R)(a s):kU a s (A1 (IF N F (pz 21) []))=(Jl N (Jm s F) a s):=(B6 (Sg N (Jm s F) a s) (vQ fun d=>Api fun e f g h i c=>Api fun j l m n o p=>(jW ..).trans (WA ..)):_)
def OT:=Cc N 144 (OS N) IE (Ax4 fun
|[.optr 100000 0,.int .i64 b,.int .i64 a],s=>some fun _ k=>Ln N b a s (Jm s k)
| _,_=>none) (Az1 fun _ s=>by split;rename_i b a;intro R F;exact(B6 (Sh N (Jm s F) · b a s) ((jW ..).trans (WB ..)):_).trans (EP ..).symm;trivial)
def P9(b a:Int)(s:RB)(r0:LA->Bool->Bool->N6 (L6 (O R))):O R:=(Ln N b a s fun p x i j l m n o c d e f g h=>cond (!x) (r0 [.bool false,.nsl,.nsl] false false i j l m n o c d e f g h) (Aht b fun i0=>cond (Ab (wrap .i64 (a - (iI i0))) (v6 i0 i j l m n o)) (cond (ble 2 (((v6 i0 c d e f g h).drop (0+(((wrap .i64 (a - (iI i0))).toNat)*2))).length)) (Is N (((v6 i0 c d e f g h).drop (0+(((wrap .i64 (a - (iI i0))).toNat)*2))).take 2) false p fun q y=>cond ((beq 0 0)&&((beq q.length 3)&&(beq 3 3))) (cond (ble 3 q.length) (r0 (q.take 3) y true i j l m n o c d e f g h) none) none) none) none))
def Ma:=(shut (@P9 R)).1
def Tb:@Ma R=@P9 R:=(shut _).2
def TM(s:RB)(F:KF R):LA->Bool->Bool->N6 (L6 (O R)):=fun ae af ag ah ai aj ak al am an ao ap aq ar au=>F (.tup [.pagg ae af,.bool ag]) [(100000,bN 0 (Zt 299999 {s with na:=ah,nb:=ai,nc:=aj,nd:=ak,ne:=al,nf:=am})),(300000,bQ 2 an),(300001,bQ 2 ao),(300002,bQ 2 ap),(300003,bQ 2 aq),(300004,bQ 2 ar),(300005,bQ 2 au)]
def WC:=Cc N 85 [OT N,Ww N] { H:=hL,modes:=[(3,0),(0,0)],cob:=[6000021] } (Ax4 fun
|[.optr 100000 0,.int .i64 b,.int .i64 a],s=>some fun _ k=>Ma N b a s (TM s k)
| _,_=>none) (Az1 fun _ s=>by split;intro R F;dsimp only;rw[Tb];kernel_rfl;trivial)
def Si(i:Int)(j a t:LA)(u:Nat)(v w:Bool)(l m n o q r:Nat)(c d e f g h:LA)(s:RB)(r0:L6 (O R)):O R:=(cond (ble 2 j.length) (Hy N (Amc s) (s.so||(s.ao||false)) (j.take 2) false fun b=>cond (decide (b<0)) (r0 c d e f g h) (Aht i fun i0=>cond (Ab b (v6 i0 l m n o q r)) (Wg ((v6 i0 c d e f g h).drop (0+(b.toNat*7))) fun x=>cond ((!x)==false) (cond (ble 3 ((a.drop 1).length)) (cond (ble 3 (((v6 i0 c d e f g h).drop ((0+(b.toNat*7))+1)).length)) (Ih N ((a.drop 1).take 3) false (((v6 i0 c d e f g h).drop ((0+(b.toNat*7))+1)).take 3) false fun y=>cond (cond false true (decide (y>0))) (cond (ble 7 a.length) (cond ((beq ((a.take 7).length) 7)&&((ble ((0+(b.toNat*7))+7) ((v6 i0 c d e f g h).length))&&(!false))) (p6 i0 (setCells (v6 i0 c d e f g h) (0+(b.toNat*7)) (a.take 7)) c d e f g h r0) none) none) (r0 c d e f g h)) none) none) (cond (ble 7 a.length) (cond ((beq ((a.take 7).length) 7)&&((ble ((0+(b.toNat*7))+7) ((v6 i0 c d e f g h).length))&&(!false))) (p6 i0 (setCells (v6 i0 c d e f g h) (0+(b.toNat*7)) (a.take 7)) c d e f g h r0) none) none)) none)) none)
def Fa:=(shut (@Si R)).1
def V8:@Fa R=@Si R:=(shut _).2
def WD(t:LA)(u:Nat)(v w:Bool)(l m n o q r:Nat)(s:RB)(F:KF R):L6 (O R):=fun ak al am ap aq ar=>F (.tup []) [(100000,bN 0 [.optr 100001 0,.imm t u 1 v w,.own 100002 0 l,.own 100003 0 m,.own 100004 0 n,.own 100005 0 o,.own 100006 0 q,.own 100007 0 r,.nsl,.nsl,.nsl,.nsl,.nsl,.nsl,.nsl,.nsl,.nsl,.nsl,.nsl,.nsl,.nsl,.nsl,.nsl,.nsl,.nsl,.nsl,.nsl]),(100001,bN 0 (Zt 100007 s)),(100002,bQ 7 ak),(100003,bQ 7 al),(100004,bQ 7 am),(100005,bQ 7 ap),(100006,bQ 7 aq),(100007,bQ 7 ar),(100008,bQ 2 s.ka),(100009,bQ 2 s.kb),(100010,bQ 2 s.kc),(100011,bQ 2 s.kd),(100012,bQ 2 s.ke),(100013,bQ 2 s.kf)]
def BP:=Cc N 113 [FL N,Ri N] { H:=hL,cob:=[6000022] } (Asr Es fun
|[.optr 100000 0,.int .i64 i,.pagg j false,.pagg a false],p=>some fun _ k=>Fa N i j a p.2.1 p.2.2.1 p.2.2.2.1 p.2.2.2.2.1 p.2.2.2.2.2.1 p.2.2.2.2.2.2.1 p.2.2.2.2.2.2.2.1 p.2.2.2.2.2.2.2.2.1 p.2.2.2.2.2.2.2.2.2.1 p.2.2.2.2.2.2.2.2.2.2.1 p.2.2.2.2.2.2.2.2.2.2.2.1 p.2.2.2.2.2.2.2.2.2.2.2.2.1 p.2.2.2.2.2.2.2.2.2.2.2.2.2.1 p.2.2.2.2.2.2.2.2.2.2.2.2.2.2.1 p.2.2.2.2.2.2.2.2.2.2.2.2.2.2.2.1 p.2.2.2.2.2.2.2.2.2.2.2.2.2.2.2.2 p.1 (WD p.2.1 p.2.2.1 p.2.2.2.1 p.2.2.2.2.1 p.2.2.2.2.2.1 p.2.2.2.2.2.2.1 p.2.2.2.2.2.2.2.1 p.2.2.2.2.2.2.2.2.1 p.2.2.2.2.2.2.2.2.2.1 p.2.2.2.2.2.2.2.2.2.2.1 p.1 k)
| _,_=>none) (Axi E7 fun _ p=>by obtain⟨s,t,u,v,w,l,m,n,o,q,r,c,d,e,f,g,h⟩:=p;split;intro R F;dsimp only;rw[V8];kernel_rfl;trivial)
def Gi(k0:Int->N6 (L6 (L6 (LA->LA->LA->O R))))(r0:N6 (L6 (L6 (O R))))(m y:Int)(a:LA)(b:Nat)(c d:Bool)(f g h i j l:Nat)(s:RB)(x w o q r t u v:LA)(cz:Int)(da db dc dd de df:Nat)(cr cs ct cu cv cw ba cx dg dh di dj dk dl:LA):O R:=(Ma N m y (Agz s da db dc dd de df dg dh di dj dk dl) fun dm ef eg dn dp dq dr ds du dv dw dx dy dz ea=>cond ((beq 0 0)&&((beq dm.length 3)&&(beq 3 3))) (cond (!eg) (k0 (wrap .i64 (y+1)) dn dp dq dr ds du cr cs ct cu cv cw x ba w dv dw dx dy dz ea) (cond (ble 3 w.length) (cond (ble 3 dm.length) (Pv N (w.take 3) false (dm.take 3) ef fun cy=>cond ((beq cy.length 3)&&((ble 4 ba.length)&&(!false))) (cond (ble 2 cx.length) (cond (ble 7 ((setCells ba 1 cy).length)) (Fa N cz (cx.take 2) ((setCells ba 1 cy).take 7) a b c d f g h i j l cr cs ct cu cv cw (Agz s dn dp dq dr ds du dv dw dx dy dz ea) fun eh ei ej ek el em=>k0 (wrap .i64 (y+1)) dn dp dq dr ds du eh ei ej ek el em x (setCells ba 1 cy) w dv dw dx dy dz ea) none) none) none) none) none)) none)
def Jn(k0:Int->N6 (L6 (L6 (LA->LA->LA->O R))))(r0:N6 (L6 (L6 (O R))))(m:Int)(a:LA)(b:Nat)(c d:Bool)(f g h i j l:Nat)(s:RB)(w o q r t u v:LA)(q3:Int->LA->Int->N6 (L6 (L6 (LA->LA->O R))))(y:Int)(ab ad ae af ag ah:Nat)(ai aj ak al am ap x az aq ar au av aw ax:LA):O R:=(cond (ble 2 x.length) (cond ((beq ((x.take 2).length) 2)&&((ble 2 2)&&(!false))) (cond (decide (y<(wrap .i64 (s.hs - 1)))) (cond (ble 2 x.length) (N8 N (Amc s) (s.so||(s.ao||false)) (x.take 2) false 0 fun eb=>cond ((beq eb.length 2)&&((ble 2 ((zS (x.take 2)).length))&&(!false))) (Aj .i64 ((setCells (zS (x.take 2)) 0 eb).drop 1) fun en=>cond ((en==0)==false) (Jg N (wrap .i64 (y+1)) 0 a b c d f g h i j l ai aj ak al am ap (Agz s ab ad ae af ag ah aq ar au av aw ax) fun eo=>cond (cond false true (!eo)) (k0 (wrap .i64 (y+1)) ab ad ae af ag ah ai aj ak al am ap x az w aq ar au av aw ax) (q3 y x (wrap .i64 (y+2)) ab ad ae af ag ah ai aj ak al am ap az (setCells (zS (x.take 2)) 0 eb) aq ar au av aw ax)) (k0 (wrap .i64 (y+1)) ab ad ae af ag ah ai aj ak al am ap x az w aq ar au av aw ax)) none) none) (q3 y x (wrap .i64 (y+1)) ab ad ae af ag ah ai aj ak al am ap az (zS (x.take 2)) aq ar au av aw ax)) none) none)
def Gj(k0:Int->N6 (L6 (L6 (LA->LA->LA->O R))))(r0:N6 (L6 (L6 (O R))))(m:Int)(a:LA)(b:Nat)(c d:Bool)(f g h i j l:Nat)(s:RB)(w o q r t u v:LA)(y:Int)(ab ad ae af ag ah:Nat)(ai aj ak al am ap x az aq ar au av aw ax:LA):O R:=Jn N k0 r0 m a b c d f g h i j l s w o q r t u v (fun y x=>Gi N k0 r0 m y a b c d f g h i j l s x w o q r t u v) y ab ad ae af ag ah ai aj ak al am ap x az aq ar au av aw ax
def Jo(k0:Int->N6 (L6 (L6 (LA->LA->LA->O R))))(r0:N6 (L6 (L6 (O R))))(m:Int)(a:LA)(b:Nat)(c d:Bool)(f g h i j l:Nat)(s:RB)(w o q r t u v:LA)(q2:Int->N6 (L6 (L6 (LA->LA->O R))))(bb:Int)(bc bd be bf bg bh:Nat)(bi bj bk bl bm bn ay bo bp bq br bs bt bv:LA):O R:=(cond (decide (bb>m)) (cond (ble 2 ay.length) (N8 N (Amc s) (s.so||(s.ao||false)) (ay.take 2) false 2 fun ee=>cond ((beq ee.length 2)&&((ble 2 ay.length)&&(!false))) (q2 bb bc bd be bf bg bh bi bj bk bl bm bn (setCells ay 0 ee) bo bp bq br bs bt bv) none) none) (q2 bb bc bd be bf bg bh bi bj bk bl bm bn ay bo bp bq br bs bt bv))
def Gk(k0:Int->N6 (L6 (L6 (LA->LA->LA->O R))))(r0:N6 (L6 (L6 (O R))))(m:Int)(a:LA)(b:Nat)(c d:Bool)(f g h i j l:Nat)(s:RB)(w o q r t u v:LA)(bb:Int)(bc bd be bf bg bh:Nat)(bi bj bk bl bm bn ay bo bp bq br bs bt bv:LA):O R:=Jo N k0 r0 m a b c d f g h i j l s w o q r t u v (Gj N k0 r0 m a b c d f g h i j l s w o q r t u v) bb bc bd be bf bg bh bi bj bk bl bm bn ay bo bp bq br bs bt bv
def Ft(r0:N6 (L6 (L6 (O R))))(m:Int)(a:LA)(b:Nat)(c d:Bool)(f g h i j l:Nat)(s:RB)(o q r t u v:LA)(k0:Int->N6 (L6 (L6 (LA->LA->LA->O R))))(q1:LA->Int->N6 (L6 (L6 (LA->LA->O R))))(cq:Int)(bw bx bz ca cb cd:Nat)(ce cf cg ch ci cj ec ed w ck cl cm cn co cp:LA):O R:=(cond ((decide (cq<s.hs))==true) (Jg N cq 2 a b c d f g h i j l ce cf cg ch ci cj (Agz s bw bx bz ca cb cd ck cl cm cn co cp) fun ep=>cond (cond true ep false) (q1 w cq bw bx bz ca cb cd ce cf cg ch ci cj ec ed ck cl cm cn co cp) (r0 bw bx bz ca cb cd ce cf cg ch ci cj ck cl cm cn co cp)) (r0 bw bx bz ca cb cd ce cf cg ch ci cj ck cl cm cn co cp))
def A9(r0:N6 (L6 (L6 (O R))))(m:Int)(a:LA)(b:Nat)(c d:Bool)(f g h i j l:Nat)(s:RB)(o q r t u v:LA):Nat->Int->N6 (L6 (L6 (LA->LA->LA->O R)))
|0=>fun _ _ _ _ _ _ _ _ _ _ _ _ _ _ _ _ _ _ _ _ _ _=>none
|n+1=>Ft N r0 m a b c d f g h i j l s o q r t u v (A9 r0 m a b c d f g h i j l s o q r t u v n) (fun w=>Gk N (A9 r0 m a b c d f g h i j l s o q r t u v n) r0 m a b c d f g h i j l s w o q r t u v)
def H5(N:Nat)(r0:N6 (L6 (L6 (O R))))(q0:Int->N6 (L6 (L6 (LA->LA->LA->O R))))(m:Int)(aa z a:LA)(b:Nat)(c d:Bool)(f g h i j l:Nat)(o q r t u v:LA)(s:RB):O R:=(cond (ble 3 ((z.drop 1).length)) (cond ((beq 0 0)&&((beq (((z.drop 1).take 3).length) 3)&&(beq 3 3))) (q0 m s.na s.nb s.nc s.nd s.ne s.nf o q r t u v aa z ((z.drop 1).take 3) s.ka s.kb s.kc s.kd s.ke s.kf) none) none)
def F9:=(shut fun N m aa z a b c d f g h i j l o q r t u v s r0=>H5 (R:=R) N r0 (A9 N r0 m a b c d f g h i j l s o q r t u v N) m aa z a b c d f g h i j l o q r t u v s).1
def Qv(m aa z a b c d f g h i j l o q r t u v s r0):(@F9 R N m aa z a b c d f g h i j l o q r t u v s r0)=(H5 N r0 (A9 N r0 m a b c d f g h i j l s o q r t u v N) m aa z a b c d f g h i j l o q r t u v s):=by rw[F9,(shut _).2]
def Sk:Hints:={H:=hK 1 (hS (hK 3 (hS (hP [0,1,6,7,8,9] (hJ [0,1,6,7,8,9] hL (hS (hS (hJ [0,1,6,7,8,9] hL (hK 1 (hJ [0,1,6,7,8,9,10,11] hL hL))) hL) hL))) hL)) hL),free:=[100008,100009,100010,100011,100012,100013]}
def Tc:Oe:=[HY N,uI N,WC N,Z8 N,BP N]
def Gl(F:KF R):=Iv Tryz.f112 Sk (Tc N) [100000,100001,100002,100003,100004,100005,100006,100007,100008,100009,100010,100011,100012,100013] N F
def MK(m y:Int)(a:LA)(b:Nat)(c d:Bool)(f g h i j l:Nat)(s:RB)(x w o q r t u v:LA)(K:St->O R):=fun cz da db dc dd de df cr cs ct cu cv cw ba cx dg dh di dj dk dl=>K ⟨[(0,.optr 100000 0),(1,iv m),(6,op 0),(7,op 1),(8,op 2),(9,iv y),(10,op 3),(11,iv cz)],[(100000,bN 0 [.optr 100001 0,.imm a b 1 c d,.own 100002 0 f,.own 100003 0 g,.own 100004 0 h,.own 100005 0 i,.own 100006 0 j,.own 100007 0 l,.nsl,.nsl,.nsl,.nsl,.nsl,.nsl,.nsl,.nsl,.nsl,.nsl,.nsl,.nsl,.nsl,.nsl,.nsl,.nsl,.nsl,.nsl,.nsl]),(100001,bN 0 (Zt 300003 {s with na:=da,nb:=db,nc:=dc,nd:=dd,ne:=de,nf:=df})),(100002,bQ 7 cr),(100003,bQ 7 cs),(100004,bQ 7 ct),(100005,bQ 7 cu),(100006,bQ 7 cv),(100007,bQ 7 cw),(300000,bQ 0 x),(300001,bQ 0 ba),(300002,bQ 0 w),(300003,bQ 0 cx),(300004,bQ 2 dg),(300005,bQ 2 dh),(300006,bQ 2 di),(300007,bQ 2 dj),(300008,bQ 2 dk),(300009,bQ 2 dl)]⟩
def ML(m:Int)(a:LA)(b:Nat)(c d:Bool)(f g h i j l:Nat)(s:RB)(w o q r t u v:LA)(K:St->O R):=fun y ab ad ae af ag ah ai aj ak al am ap x az aq ar au av aw ax=>K ⟨[(0,.optr 100000 0),(1,iv m),(6,op 0),(7,op 1),(8,op 2),(9,iv y)],[(100000,bN 0 [.optr 100001 0,.imm a b 1 c d,.own 100002 0 f,.own 100003 0 g,.own 100004 0 h,.own 100005 0 i,.own 100006 0 j,.own 100007 0 l,.nsl,.nsl,.nsl,.nsl,.nsl,.nsl,.nsl,.nsl,.nsl,.nsl,.nsl,.nsl,.nsl,.nsl,.nsl,.nsl,.nsl,.nsl,.nsl]),(100001,bN 0 (Zt 300002 {s with na:=ab,nb:=ad,nc:=ae,nd:=af,ne:=ag,nf:=ah})),(100002,bQ 7 ai),(100003,bQ 7 aj),(100004,bQ 7 ak),(100005,bQ 7 al),(100006,bQ 7 am),(100007,bQ 7 ap),(300000,bQ 0 x),(300001,bQ 0 az),(300002,bQ 0 w),(300003,bQ 2 aq),(300004,bQ 2 ar),(300005,bQ 2 au),(300006,bQ 2 av),(300007,bQ 2 aw),(300008,bQ 2 ax)]⟩
def MM(m:Int)(a:LA)(b:Nat)(c d:Bool)(f g h i j l:Nat)(s:RB)(w o q r t u v:LA)(K:St->O R):=fun bb bc bd be bf bg bh bi bj bk bl bm bn ay bo bp bq br bs bt bv=>K ⟨[(0,.optr 100000 0),(1,iv m),(6,op 0),(7,op 1),(8,op 2),(9,iv bb)],[(100000,bN 0 [.optr 100001 0,.imm a b 1 c d,.own 100002 0 f,.own 100003 0 g,.own 100004 0 h,.own 100005 0 i,.own 100006 0 j,.own 100007 0 l,.nsl,.nsl,.nsl,.nsl,.nsl,.nsl,.nsl,.nsl,.nsl,.nsl,.nsl,.nsl,.nsl,.nsl,.nsl,.nsl,.nsl,.nsl,.nsl]),(100001,bN 0 (Zt 300002 {s with na:=bc,nb:=bd,nc:=be,nd:=bf,ne:=bg,nf:=bh})),(100002,bQ 7 bi),(100003,bQ 7 bj),(100004,bQ 7 bk),(100005,bQ 7 bl),(100006,bQ 7 bm),(100007,bQ 7 bn),(300000,bQ 0 ay),(300001,bQ 0 bo),(300002,bQ 0 w),(300003,bQ 2 bp),(300004,bQ 2 bq),(300005,bQ 2 br),(300006,bQ 2 bs),(300007,bQ 2 bt),(300008,bQ 2 bv)]⟩
def Dh(m:Int)(a:LA)(b:Nat)(c d:Bool)(f g h i j l:Nat)(s:RB)(o q r t u v:LA)(K:St->O R):=fun cq bw bx bz ca cb cd ce cf cg ch ci cj ec ed w ck cl cm cn co cp=>K ⟨[(0,.optr 100000 0),(1,iv m),(6,op 0),(7,op 1),(8,op 2),(9,iv cq)],[(100000,bN 0 [.optr 100001 0,.imm a b 1 c d,.own 100002 0 f,.own 100003 0 g,.own 100004 0 h,.own 100005 0 i,.own 100006 0 j,.own 100007 0 l,.nsl,.nsl,.nsl,.nsl,.nsl,.nsl,.nsl,.nsl,.nsl,.nsl,.nsl,.nsl,.nsl,.nsl,.nsl,.nsl,.nsl,.nsl,.nsl]),(100001,bN 0 (Zt 300002 {s with na:=bw,nb:=bx,nc:=bz,nd:=ca,ne:=cb,nf:=cd})),(100002,bQ 7 ce),(100003,bQ 7 cf),(100004,bQ 7 cg),(100005,bQ 7 ch),(100006,bQ 7 ci),(100007,bQ 7 cj),(300000,bQ 0 ec),(300001,bQ 0 ed),(300002,bQ 0 w),(300003,bQ 2 ck),(300004,bQ 2 cl),(300005,bQ 2 cm),(300006,bQ 2 cn),(300007,bQ 2 co),(300008,bQ 2 cp)]⟩
def B' Q0 (F:KF R) (m y a b c d f g h i j l s x w o q r t u v):MK m y a b c d f g h i j l s x w o q r t u v (A1 (Gl N F (pz 85263381) [Q0]))=(Gi N (Dh m a b c d f g h i j l s o q r t u v Q0) (Zu a b c d f g h i j l s F) m y a b c d f g h i j l s x w o q r t u v):=by kernel_rfl
def CA Q0 (F:KF R) (m a b c d f g h i j l s w o q r t u v):ML m a b c d f g h i j l s w o q r t u v (A1 (Gl N F (pz 5328961) [Q0]))=(Gj N (Dh m a b c d f g h i j l s o q r t u v Q0) (Zu a b c d f g h i j l s F) m a b c d f g h i j l s w o q r t u v):=(B6 (Jn N (Dh m a b c d f g h i j l s o q r t u v Q0) (Zu a b c d f g h i j l s F) m a b c d f g h i j l s w o q r t u v) (rD fun y x=>(jW ..).trans (B' ..)):_)
def CB Q0 (F:KF R) (m a b c d f g h i j l s w o q r t u v):MM m a b c d f g h i j l s w o q r t u v (A1 (Gl N F (pz 83265) [Q0]))=(Gk N (Dh m a b c d f g h i j l s o q r t u v Q0) (Zu a b c d f g h i j l s F) m a b c d f g h i j l s w o q r t u v):=(B6 (Jo N (Dh m a b c d f g h i j l s o q r t u v Q0) (Zu a b c d f g h i j l s F) m a b c d f g h i j l s w o q r t u v) ((jW ..).trans (CA ..)):_)
def CC(F:KF R)(m a b c d f g h i j l s o q r t u v):∀ n,Dh m a b c d f g h i j l s o q r t u v (Ao (Gl N F (pz 5204) []) n)=(A9 N (Zu a b c d f g h i j l s F) m a b c d f g h i j l s o q r t u v n):=Gu fun n e=>(QH (Ft N (Zu a b c d f g h i j l s F) m a b c d f g h i j l s o q r t u v) e (vQ fun w=>(jW ..).trans ((CB ..).trans (xP (Gk _ · _ _ _ _ _ _ _ _ _ _ _ _ _ _ _ _ _ _ _ _) e))):_)
def PJ:=Cc N 112 (Tc N) Sk (Asr Es fun
|[.optr 100000 0,.int .i64 m,.pagg aa false,.pagg z false],p=>some fun _ k=>F9 N m aa z p.2.1 p.2.2.1 p.2.2.2.1 p.2.2.2.2.1 p.2.2.2.2.2.1 p.2.2.2.2.2.2.1 p.2.2.2.2.2.2.2.1 p.2.2.2.2.2.2.2.2.1 p.2.2.2.2.2.2.2.2.2.1 p.2.2.2.2.2.2.2.2.2.2.1 p.2.2.2.2.2.2.2.2.2.2.2.1 p.2.2.2.2.2.2.2.2.2.2.2.2.1 p.2.2.2.2.2.2.2.2.2.2.2.2.2.1 p.2.2.2.2.2.2.2.2.2.2.2.2.2.2.1 p.2.2.2.2.2.2.2.2.2.2.2.2.2.2.2.1 p.2.2.2.2.2.2.2.2.2.2.2.2.2.2.2.2 p.1 (Zu p.2.1 p.2.2.1 p.2.2.2.1 p.2.2.2.2.1 p.2.2.2.2.2.1 p.2.2.2.2.2.2.1 p.2.2.2.2.2.2.2.1 p.2.2.2.2.2.2.2.2.1 p.2.2.2.2.2.2.2.2.2.1 p.2.2.2.2.2.2.2.2.2.2.1 p.1 k)
| _,_=>none) (Axi E7 fun _ p=>by obtain⟨s,a,b,c,d,f,g,h,i,j,l,o,q,r,t,u,v⟩:=p;split;rename_i m aa z;intro R F;exact(B6 (H5 N (Zu a b c d f g h i j l s F) · m aa z a b c d f g h i j l o q r t u v s) ((lW ..).trans (CC ..)):_).trans (Qv ..).symm;trivial)
end
end Gx
namespace Gx.Uo
open Go Go.Proofs
noncomputable section
variable{R:Type}{N:Nat}{X:O R}
abbrev KN(R:Type):=Nat->Nat->Nat->Nat->Nat->Nat->LA->LA->LA->LA->LA->LA->Option R
abbrev KR(R:Type):=Nat->KN R
def Ai7(k:KN R)(n:Nat->Nat)(c:Nat->LA):O R:=k (n 0) (n 1) (n 2) (n 3) (n 4) (n 5) (c 0) (c 1) (c 2) (c 3) (c 4) (c 5)
def A0j(r0 r1 r2 r3 r4 r5:KR R)(j:Nat)(n:Nat->Nat)(c:Nat->LA):O R:=match j with
|0=>r0 (n 0) (n 0) (n 1) (n 2) (n 3) (n 4) (n 5) (c 0) (c 1) (c 2) (c 3) (c 4) (c 5)
|1=>r1 (n 1) (n 0) (n 1) (n 2) (n 3) (n 4) (n 5) (c 1) (c 0) (c 2) (c 3) (c 4) (c 5)
|2=>r2 (n 2) (n 0) (n 1) (n 2) (n 3) (n 4) (n 5) (c 2) (c 0) (c 1) (c 3) (c 4) (c 5)
|3=>r3 (n 3) (n 0) (n 1) (n 2) (n 3) (n 4) (n 5) (c 3) (c 0) (c 1) (c 2) (c 4) (c 5)
|4=>r4 (n 4) (n 0) (n 1) (n 2) (n 3) (n 4) (n 5) (c 4) (c 0) (c 1) (c 2) (c 3) (c 5)
|_=>r5 (n 5) (n 0) (n 1) (n 2) (n 3) (n 4) (n 5) (c 5) (c 0) (c 1) (c 2) (c 3) (c 4)
def up{α:Type}(f:Nat->α)(j:Nat)(v:α)(i:Nat):α:=cond (beq i j) v (f i)
def Vi{α:Type}{f:Nat->α}{j:Nat}{v:α}:up f j v j=v:=by unfold up;rw[A9v];rfl
def Au7{α:Type}{f:Nat->α}{j:Nat}{v w:α}:up (up f j v) j w=up f j w:=by funext i;unfold up;cases beq i j<;>rfl
abbrev Rn:=List (Hk×List RatD)
def rc(l:Rn):LA:=l.flatMap fun p=>S9 p.1 p.2 false
def Awo(l:Rn):(rc l).length=l.length*2:=by
 induction l with
|nil=>rfl
|cons x r k=>unfold rc at *;rw[A3r,A3d,k,A3a];show 2+_=_;omega
def At0(l:Rn):(rc l).take (l.length*2)=rc l:=A2t (by rw[Awo];omega)
def Af1:∀(l:Rn)(i:Nat)(h:i<l.length),(rc l).drop (i*2)=S9 l[i].1 l[i].2 false++rc (l.drop (i+1))
|x::r,0,_=>rfl
|x::r,i+1,h=>by
  have:=Af1 r i (by simpa using h)
  rw[show(i+1)*2=i*2+2 by omega]
  show(S9 x.1 x.2 false++rc r).drop (i*2+2)=_
  rw[show(S9 x.1 x.2 false++rc r).drop (i*2+2)=(rc r).drop (i*2)from rfl,this];rfl
def At1(l:Rn)(p:Hk×List RatD):rc (l++[p])=rc l++S9 p.1 p.2 false:=by unfold rc;simp
def fz(s:RB)(n:Nat->Nat)(c:Nat->LA):LA:=Amb s ((c 0).take (n 0*2)) (n 0) ((c 1).take (n 1*2)) (n 1) ((c 2).take (n 2*2)) (n 2) ((c 3).take (n 3*2)) (n 3) ((c 4).take (n 4*2)) (n 4) ((c 5).take (n 5*2)) (n 5)
section
variable{r0 r1 r2 r3 r4 r5:KR R}{last:Int}{s:RB}
def Ayz{k:Int->Int->KN R}{j:Nat}(D:j<5){ba:Int}{n:Nat->Nat}{c:Nat->LA}{v:LA}:F8 N k r0 r1 r2 r3 r4 r5 last s (j:Int) ba (n 0) (n 1) (n 2) (n 3) (n 4) (n 5) v (c 0) (c 1) (c 2) (c 3) (c 4) (c 5) =
  cond (ble 2 v.length) (cond ((beq (v.take 2).length 2)&&ble 2 2) (cond (ble (n j+1) 140737488355328&&ble ((n j+1)*48) 140737488355328) (Ai7 (k (j:Int) (wrap .i64 (ba+1))) (up n j (n j+1)) (up c j ((c j).take (n j*2)++(setCells [.nsl,.nsl] 0 (v.take 2)).take 2))) none) none) none:=by
 have:j=0\/j=1\/j=2\/j=3\/j=4:=by omega
 rcases this with rfl|rfl|rfl|rfl|rfl<;>rfl
def Q2(N:Nat)(r0 r1 r2 r3 r4 r5:KR R)(last:Int)(s:RB)(fuel:Nat)(n:Nat->Nat)(c:Nat->LA)(j:Int)(a:Int)(v:LA):O R:=F8 N (C2 N r0 r1 r2 r3 r4 r5 last s fuel) r0 r1 r2 r3 r4 r5 last s j a (n 0) (n 1) (n 2) (n 3) (n 4) (n 5) v (c 0) (c 1) (c 2) (c 3) (c 4) (c 5)
def Ay0{j k:Nat}(D:j<5){a:Int}{n:Nat->Nat}{c:Nat->LA}:Ai7 (C2 N r0 r1 r2 r3 r4 r5 last s (k+1) (j:Int) a) n c =
  cond (decide (a<=last)) (cond (decide (a>(j:Int))) (cond (Ab (wrap .i64 ((wrap .i64 (a - (j:Int))) - 1)) (n j)) (cond (ble 2 (((c j).drop (0+(((wrap .i64 ((wrap .i64 (a - (j:Int))) - 1)).toNat)*2))).length)) (Ec N (fz s n c) true a (((c j).drop (0+(((wrap .i64 ((wrap .i64 (a - (j:Int))) - 1)).toNat)*2))).take 2) false fun bk bt=>cond (bt||false) none (cond ((beq 0 0)&&((beq bk.length 2)&&(beq 2 2))) (Q2 N r0 r1 r2 r3 r4 r5 last s k n c (j:Int) a bk) none)) none) none)
   (Do N (fz s n c) true (j:Int) fun cd=>cond cd (E9 N (fz s n c) true fun ce=>Ec N (fz s n c) true a ce false fun br cf=>cond (cf||false) none (cond ((beq 0 0)&&((beq br.length 2)&&(beq 2 2))) (Q2 N r0 r1 r2 r3 r4 r5 last s k n c (j:Int) a br) none)) (K4 N (fz s n c) true a fun bs cg=>cond (cg||false) none (cond ((beq 0 0)&&((beq bs.length 2)&&(beq 2 2))) (Q2 N r0 r1 r2 r3 r4 r5 last s k n c (j:Int) a bs) none))))
   (A0j r0 r1 r2 r3 r4 r5 j n c):=by
 have:j=0\/j=1\/j=2\/j=3\/j=4:=by omega
 rcases this with rfl|rfl|rfl|rfl|rfl<;>rfl
def rB(u:UnitD)(hs:Int)(E Q V:List RatD)(o o1 o2:Bool)(n:Nat->Nat)(c:Nat->LA):RB:={nm:=u.name,bu:=u.bus,mi:=u.min,ma:=u.max,sc:=u.segs.l.flatMap SegD.av,sn:=u.segs.l.length,st:=false,so:=o,nl:=u.noLoad,ru:=u.rampUp,rd:=u.rampDown,sr:=u.startRamp,tr:=u.stopRamp,ut:=u.upTime,dt:=u.downTime,sT:=u.startTime,hc:=u.hotCost,cc:=u.coldCost,hh:=u.hotHours,rs:=u.reserve,rp:=u.reservePrice,ac:=u.away.l.flatMap Am3,an:=u.away.l.length,aq:=false,ao:=o,us:=u.state,uh:=u.hours,uo:=u.output,hs:=hs,ec:=E.flatMap RatD.av,en:=E.length,et:=false,eo:=o1,qc:=Q.flatMap RatD.av,qn:=Q.length,qt:=false,qo:=o2,pc:=Am (F4 (Za u)),pn:=(Za u).length,pt:=false,po:=false,vc:=V.flatMap RatD.av,vn:=(Za u).length,vt:=false,vo:=false,na:=n 0,nb:=n 1,nc:=n 2,nd:=n 3,ne:=n 4,nf:=n 5,ka:=c 0,kb:=c 1,kc:=c 2,kd:=c 3,ke:=c 4,kf:=c 5}
def uN(u:UnitD)(o:Bool):UnitD:={u with segs:=.of u.segs.l false o,away:=.of u.away.l false o}
def Art{u:UnitD}{hs:Int}{E Q V:List RatD}{o o1 o2:Bool}{n n':Nat->Nat}{c c':Nat->LA}:∃ r,fz (rB u hs E Q V o o1 o2 n c) n' c'=gS (uN u o) hs E Q V o1 o2 r:=⟨_,rfl⟩
def RI(u:UnitD)(a b:Nat->Rat)(j:Nat)(l:Rn):Prop:=∀ i (h:i<l.length),VOk l[i].2 l[i].1/\PB (540*(i+1)+2) l[i].1/\l[i].1=(runF (un u) a b j i).2
def Abs{u:UnitD}{hh:Int}(k:A4 u hh=true){a b:Nat->Rat}{j:Nat}{H:Nat}(D:∀ h,h<H->qm (a h)<=9)(G:∀ h,h<H->qm (b h)<=9):∀ i,j+i<H->∀ y:Int,Hu (un u) j i<=y->y<=S5 (un u) j i->qm ((runF (un u) a b j i).1 y)<=540*(i+1)+2
| 0,hi,y,y1,y2=>by
  unfold runF;unfold Hu at y1;unfold S5 at y2
  cases hc:X1 (un u) j with
  |true =>
   rw[hc]at y1 y2
   have:=(kS k (D j (by omega)) (G j (by omega)) (B:=2) (UJ (BM k) (xV hc)) (fun z _ _=>qi (v:=0) (by omega)) y1 y2).1
   simp only[if_true];omega
  |false =>
   rw[hc]at y1 y2
   have:=(Ai6 k (D j (by omega)) (G j (by omega)) y1 y2).1
   simp only[A4m,if_false];omega
|i+1,hi,y,y1,y2=>by
  have:=(kS k (D (j+i+1) (by omega)) (G (j+i+1) (by omega)) (B:=540*(i+1)+2) (Hm (a:=a) (b:=b) (fi:=j) (BM k) i) (fun z z1 z2=>Abs k D G i (by omega) z z1 z2) y1 y2).1
  unfold runF;omega
end
end
end Gx.Uo
namespace Gx.Uo
open Go Go.Proofs
noncomputable section
variable{R:Type}{N:Nat}{X:O R}
def yZ{h:Nat}(hh:h<6){f:Nat->O R}:Aht (h:Int) f=f h:=by
 have:h=0\/h=1\/h=2\/h=3\/h=4\/h=5:=by omega
 rcases this with rfl|rfl|rfl|rfl|rfl|rfl<;>rfl
def w8{α:Type}{h:Nat}(hh:h<6)(f:Nat->α):v6 h (f 0) (f 1) (f 2) (f 3) (f 4) (f 5)=f h:=by
 have:h=0\/h=1\/h=2\/h=3\/h=4\/h=5:=by omega
 rcases this with rfl|rfl|rfl|rfl|rfl|rfl<;>rfl
def bA{α:Type}(W:Nat->α)(h:Nat)(w:α):Nat->α:=fun j=>if j=h then w else W j
def An5{α:Type}{W:Nat->α}{h:Nat}{w:α}:bA W h w h=w:=if_pos rfl
def An6{α:Type}{W:Nat->α}{h:Nat}:bA W h (W h)=W:=by
 funext j;unfold bA;split
 ·next e=>rw[e]
 ·rfl
def IG{α β:Type}(k:α->α->α->α->α->α->β)(f:Nat->α):β:=k (f 0) (f 1) (f 2) (f 3) (f 4) (f 5)
def Awp{α β:Type}{h:Nat}(hh:h<6)(f:Nat->α)(e:α)(k:α->α->α->α->α->α->β):p6 h e (f 0) (f 1) (f 2) (f 3) (f 4) (f 5) k=IG k (bA f h e):=by
 have:h=0\/h=1\/h=2\/h=3\/h=4\/h=5:=by omega
 rcases this with rfl|rfl|rfl|rfl|rfl|rfl<;>rfl
def Af2{α β:Type}{W:Nat->α}{h:Nat}{w:α}(g:α->β):bA (fun j=>g (W j)) h (g w)=fun j=>g (bA W h w j):=by funext j;unfold bA;split<;>rfl
variable{u:UnitD}
def Au8{s:StD}{o o':Bool}{K:Int->O R}(hN:64<=N)(hs:Bg u=true)(h:C4 u s):Hy N u.av o s.av o' K=K ((ix u s:Nat):Int):=by
 have L:=Fs hs;have T:=On hs;have D:=aZ hs h
 have G:=(Ak8 hs h).1
 rw[<-G]
 rw[Wp];unfold Rp
 rw[Ef,ct,Cj,Li hN,hs,show((!true)==false)=true from rfl,ct,Sc,show decide (s.h<1)=false by simp;omega,Axj,cf]
 unfold Mn Pf
 rw[Ef,ct,Cj,Sd hN hs,V0]
 unfold Ro Pe Rm
 simp only[V0,Sc,Am4]
 unfold C4 at h
 have e1:wrap .i64 (s.h - 1)=s.h - 1:=i64 (by omega)
 have I:wrap .i64 (wrap .i64 (A5 u+s.h) - 1)=A5 u+s.h - 1:=by rw[i64 (a:=A5 u+s.h) (by omega),i64 (by omega)]
 have e3:wrap .i64 (wrap .i64 (wrap .i64 (A5 u+u.startTime)+s.h) - 1)=A5 u+u.startTime+s.h - 1:=by rw[i64 (a:=A5 u+u.startTime) (by omega),i64 (a:=A5 u+u.startTime+s.h) (by omega),i64 (by omega)]
 rw[e1,I,e3]
 unfold w7
 rcases D.2.2 with k|k|k<;>rw[k]at h ⊢
 ·rw[show decide (s.h<=A5 u)=true by simp;omega];rfl
 ·rw[show decide (s.h<=u.startTime)=true by simp;omega];rfl
 ·rw[show decide (s.h<=H4 u)=true by simp;omega];rfl
def Ak9(m:MkD)(r:LA):(FY (some m)++r).drop 1=m.d.av++([.int .i64 (m.h:Int),.int .i64 (m.p:Int),.bool m.r]++r):=rfl
def Abt{l:List (Option MkD)}{j:Nat}(h:j<l.length):(A2 l).drop (0+j*7+1)=(FY l[j]++A2 (l.drop (j+1))).drop 1:=by rw[A22,<-A69,gA h]
def Af3(r:LA){f:Bool->O R}:Wg (FY none++r) f=f false:=rfl
def Af4(m:MkD)(r:LA){f:Bool->O R}:Wg (FY (some m)++r) f=f true:=rfl
def Au9(m:Option MkD):(FY m).take 7=FY m:=by cases m<;>rfl
def Ava(m:Option MkD):ble 7 (FY m).length=true:=by rw[EO];rfl
def Aru{l:List (Option MkD)}{j:Nat}(h:j<l.length){m:Option MkD}:((beq (FY m).length 7)&&((ble ((0+(j*7))+7) ((A2 l).length))&&(!false)))=true:=by rw[EO,Arr,show ble (0+j*7+7) (l.length*7)=true by rw[A3p];omega];rfl
variable{hh:Int}{hs:Int}{E Q V:List RatD}{o o1 o2:Bool}{n':Nat->Nat}{c':Nat->LA}
def Ala{r0:L6 (O R)}(hv:A4 u hh=true){H h:Nat}(L:h<6)(hH:h<=H){T:FG}{W:Nat->List (Option MkD)}(tk:L9 u H T W){s:StD}(Y:C4 u s){m:MkD}{t:Mk}(hm:A0i u h (some m) (some t))(hh1:h<=100)(hf:fit 1000000 N)
  {n:Nat->Nat} (hn:n h=(Be u).length) {w:LA} {x:Nat} {y z:Bool} (k:∀ W',L9 u H (W3 T h (ds s) t) W'->IG r0 (fun j=>A2 (W' j))=X) :
  Fa N (h:Int) s.av (FY (some m)) w x y z (n 0) (n 1) (n 2) (n 3) (n 4) (n 5) (A2 (W 0)) (A2 (W 1)) (A2 (W 2)) (A2 (W 3)) (A2 (W 4)) (A2 (W 5)) (rB u hs E Q V o o1 o2 n' c') r0=X:=by
 have G:=(Bf hv).1
 have hN:100001000<=N:=by have:=hf.1;omega
 obtain⟨wn,we⟩:=tk h hH
 obtain⟨m0,g1,I⟩:=we s Y
 have lt:=EM G Y
 have D:ix u s<(W h).length:=by omega
 rw[A2r D,A3k]at g1
 rw[V8];unfold Si
 rw[show ble 2 s.av.length=true from rfl,ct,gR,show Amc (rB u hs E Q V o o1 o2 n' c')=(uN u o).av from rfl]
 rw[Au8 (u:=uN u o) (by omega) G Y,show ix (uN u o) s=ix u s from rfl,decide_eq_false (show ¬ ((ix u s:Nat):Int)<0 by omega),cf,yZ L]
 have ev:v6 h (A2 (W 0)) (A2 (W 1)) (A2 (W 2)) (A2 (W 3)) (A2 (W 4)) (A2 (W 5))=A2 (W h):=w8 L fun j=>A2 (W j)
 rw[w8 L n,ev,hn,Aa lt,ct,A2u,Abt D,Ava,ct,Au9,Aru D,ct,A22,gA D,Afy D,g1]
 have fin:∀ c,(c=match T h (ds s)with|none=>true|some o=>decide (o.profit<t.profit))->IG r0 (fun j=>A2 (bA W h (Ai5 (W h) (ix u s) c m) j))=X:=fun c hc=>k _ (An4 G tk Y hm hc hH)
 have e6:p6 h (A2 ((W h).set (ix u s) (some m))) (A2 (W 0)) (A2 (W 1)) (A2 (W 2)) (A2 (W 3)) (A2 (W 4)) (A2 (W 5)) r0=IG r0 (fun j=>A2 (bA W h ((W h).set (ix u s) (some m)) j)):=by
  rw[<-Af2];exact Awp L (fun j=>A2 (W j)) _ r0
 rw[e6]
 cases hT:T h (ds s)with
| none =>
  rw[hT]at I fin
  have:m0=none:=by cases m0 with
   |none=>rfl
   |some _=>exact I.elim
  subst this
  rw[Af3,show((!false)==false)=false from rfl,cf]
  exact fin true rfl
| some t0 =>
  rw[hT]at I fin
  cases m0 with
  |none=>exact I.elim
  | some m0 =>
   obtain⟨d0,q0,_⟩:=I
   obtain⟨d1,q1,_⟩:=hm
   rw[Af4,show((!true)==false)=true from rfl,ct,Ak9,show(FY (some m)).drop 1=m.d.av++[.int .i64 (m.h:Int),.int .i64 (m.p:Int),.bool m.r]from rfl]
   rw[OR,ct,OR,ct,Wy,Wy,Atp (d1.is (m:=10000) (by omega)) (d0.is (m:=10000) (by omega)) (hf.le (by omega)),Abj]
   dsimp only at fin
   by_cases hl:t0.profit<t.profit
   ·rw[decide_eq_true hl]at fin ⊢
    rw[show(cond false true true)=true from rfl,ct]
    exact fin true rfl
   ·rw[decide_eq_false hl]at fin ⊢
    rw[show(cond false true false)=false from rfl,cf]
    have:=fin false rfl
    rw[show Ai5 (W h) (ix u s) false m=W h from rfl,An6]at this
    exact this
end
end Gx.Uo
namespace Gx.Uo
open Go Go.Proofs
noncomputable section
variable{R:Type}{N:Nat}{X:O R}
def y6{K:Int->O R}{l:List Int}{d f:Bool}{c:Int}(I:l.length<=1000000):∀(m j k:Nat),j+m=l.length->m<k->(c∉l.drop j->K (-1)=X)->(c∈l.drop j->∀ i:Nat,K (i:Int)=X) ->
  Da N K (Am l) l.length d f c k (l.length:Int) (j:Int)=X
|0,j,k+1,L,_,D,_=>by
  rw[Da];unfold Hi
  rw[Rc (by omega),cf]
  exact D (by rw[Jx (by omega)];simp)
| m+1,j,k+1,L,T,D,G=>by
  rw[Da];unfold Hi
  have h:j<l.length:=by omega
  rw[Ox h,ct,Aa h,ct,Bh h]
  rw[Fg h]at D G
  by_cases e:c=l[j]
  ·rw[show(c==l[j])=true by simpa using e,ct]
   exact G (by rw[e];exact A5v ..) j
  ·rw[show(c==l[j])=false by simpa using e,cf,wS (by omega)]
   exact y6 I m (j+1) k (by omega) (by omega) (fun g=>D (by rw[A28];rintro(x|x);exact e x;exact g x)) (fun g=>G (A4w _ g))
def Ai8{K:Bool->O R}{l:List Int}{e c:Bool}{d:Int}(k:l.length<=1000)(hN:1100<=N):Fh N (Am l) l.length e c d K=K (decide (d∈l)):=by
 rw[O8];unfold Lr
 rw[S7];unfold Ke
 refine y6 (by omega) l.length 0 N (by omega) (by omega) (fun g=>?_) (fun g i=>?_)
 ·rw[show decide ((-1:Int)>=0)=false from rfl,decide_eq_false (by simpa using g)]
 ·rw[decide_eq_true (show(i:Int)>=0 by omega),decide_eq_true (by simpa using g)]
variable{u:UnitD}
def An7{K:Bool->O R}{o:Bool}{h k:Int}(D:u.away.l.length<=1000)(hN:1100<=N)(G:k=0\/k=1\/k=2):Uc N u.av o h k K=K (MF u h k):=by
 rw[TD];unfold TC
 simp only[Ass,Ai8 D hN]
 unfold MF
 rcases G with rfl|rfl|rfl<;>rfl
def y7{K:LA->O R}{L:List StD}{k:Int}(hL:L.length<=1000):∀(m j D:Nat),j+m=L.length->m<D->(Jj (L.drop j) k=none->K [Bbr,Bbr]=X)->(∀ t,Jj (L.drop j) k=some t->K t.av=X) ->
  F2 N K k (L.flatMap StD.av) L.length D (L.length:Int) (j:Int)=X
|0,j,D+1,Y,_,G,_=>by
  rw[F2];unfold N7
  rw[Rc (by omega),cf]
  exact G (by rw[Jx (by omega)];rfl)
| m+1,j,D+1,Y,hf,G,I=>by
  rw[F2];unfold N7
  have h:j<L.length:=by omega
  rw[Ox h,ct,Aa h,ct,Afo h,MD,ct,ME,YH,ct]
  rw[Fg h]at G I
  unfold Jj at G I
  simp only[A7x]at G I
  rw[show zS L[j].av=L[j].av from rfl,V0]
  cases T:(L[j].k==k)with
  |true =>
   rw[T]at G I
   exact I _ rfl
  |false =>
   rw[T]at G I
   rw[cf,wS (by omega)]
   exact y7 hL m (j+1) D (by omega) (by omega) G I
def nV{K:LA->O R}{s:StD}{o d:Bool}{k:Int}(hN:1100<=N)(hs:Bg u=true)(h:C4 u s)(D:Jj (Bl u s) k=none->K [Bbr,Bbr]=X)(G:∀ t,Jj (Bl u s) k=some t->K t.av=X):N8 N u.av o s.av d k K=X:=by
 rw[HZ];unfold Vh
 have:=Zb (u:=u) (s:=s)
 rw[Ef,ct,IJ,ct,gR,ID,ct,Cj,MC (by omega) hs h]
 exact y7 (by omega) (Bl u s).length 0 N (by omega) (by omega) D G
variable{hh:Int}{hs:Int}{E Q V:List RatD}{o o1 o2:Bool}{n':Nat->Nat}{c':Nat->LA}
def Arv{K:Bool->O R}{fx:List Int}{H h:Nat}{k:Int}{a b:Nat->Rat}(G:u.away.l.length<=1000)(hN:1100<=N)(I:k=0\/k=1\/k=2)(D:h<fx.length){d g:Bool}{i0 i1 i2 i3 i4 i5:Nat}{L T Y w3 w4 w5:LA}:
  Jg N (h:Int) k (Am fx) fx.length d g i0 i1 i2 i3 i4 i5 L T Y w3 w4 w5 (rB u hs E Q V o o1 o2 n' c') K=K ((Bw u fx H a b).may h k):=by
 rw[AY];unfold Ws
 have e:∀ K:Bool->O R,Uc N (Amc (rB u hs E Q V o o1 o2 n' c')) ((rB u hs E Q V o o1 o2 n' c').so||((rB u hs E Q V o o1 o2 n' c').ao||false)) (h:Int) k K=K (MF u h k):=fun K=>An7 (u:=uN u o) G hN I
 rw[Aa D,ct,Bh D,ct,Bh D,e]
 show _=K ((fx.getD h 0==-1||fx.getD h 0==k)&&MF u h k)
 rw[A2z,A2r D,A8t]
 cases (fx[h]==-1)<;>cases (fx[h]==k)<;>cases MF u h k<;>rfl
end
end Gx.Uo
namespace Gx.Uo
open Go Go.Proofs
noncomputable section
variable{R:Type}{N:Nat}{X:O R}
structure DOk(u:UnitD)(hh:Int)(H:Nat)(E Q V:List RatD)(a b:Nat->Rat):Prop where
 hv:A4 u hh=true
 h6:H<=5
 pa:∀ h,h<H->Pr E h (a h)
 pb:∀ h,h<H->Pr Q h (b h)
 hV:VOk V (Za u)
 hP:PB 500 (Za u)
section
variable{r0 r1 r2 r3 r4 r5:KR R}{u:UnitD}{hh hs:Int}{H:Nat}{E Q V:List RatD}{a b:Nat->Rat}{o o1 o2:Bool}{n0:Nat->Nat}{c0:Nat->LA}
def RI.snoc{j:Nat}{l:Rn}{L:Hk}{W:List RatD}(h:RI u a b j l)(k:VOk W L)(D:PB (540*(l.length+1)+2) L)(G:L=(runF (un u) a b j l.length).2):RI u a b j (l++[(L,W)]):=fun i hi=>by
 by_cases e:i<l.length
 ·rw[A3q e];exact h i e
 ·have:i=l.length:=by simp at hi;omega
  subst this
  rw[A43 (by omega)]
  simp only[A6d,A6b]
  exact⟨k,D,G⟩
def nW(D:DOk u hh H E Q V a b)(hf:fit 1000000 N){j last:Nat}(hj:j<5)(hl:last<H)(n:Nat->Nat)(c:Nat->LA)
  (k:∀ l',RI u a b j l'->last<j+l'.length->l'.length<=7->A0j r0 r1 r2 r3 r4 r5 j (up n j l'.length) (up c j (rc l'))=X):∀(m G:Nat)(l:Rn),RI u a b j l->l.length<=7->last+1<=m+(j+l.length)->m<G ->
  Ai7 (C2 N r0 r1 r2 r3 r4 r5 (last:Int) (rB u hs E Q V o o1 o2 n0 c0) G (j:Int) ((j+l.length:Nat):Int)) (up n j l.length) (up c j (rc l))=X
| m,G+1,l,hr,h7,hm,hfu=>by
  have h6:=D.h6
  rw[Ay0 hj]
  by_cases hd:j+l.length<=last
  ·obtain⟨r,er⟩:=Art (u:=u) (hs:=hs) (E:=E) (Q:=Q) (V:=V) (o:=o) (o1:=o1) (o2:=o2) (n:=n0) (n':=up n j l.length) (c:=c0) (c':=up c j (rc l))
   have hv:A4 (uN u o) hh=true:=D.hv
   have ko:=BM D.hv
   have key:∀(L:Hk)(W:List RatD),VOk W L->PB (540*(l.length+1)+2) L->L=(runF (un u) a b j l.length).2->Q2 N r0 r1 r2 r3 r4 r5 (last:Int) (rB u hs E Q V o o1 o2 n0 c0) G (up n j l.length) (up c j (rc l)) (j:Int) ((j+l.length:Nat):Int) (S9 L W false)=X:=fun L W T I g3=>by
    unfold Q2
    rw[Ayz hj,Vi,Vi,Au7,Au7,Axt,ct,Axu,show((beq (List.length (S9 L W false)) 2)&&ble 2 2)=true from rfl,ct,show(ble (l.length+1) 140737488355328&&ble ((l.length+1)*48) 140737488355328)=true by
     rw[show ble (l.length+1) 140737488355328=true by rw[A3p];omega,show ble ((l.length+1)*48) 140737488355328=true by rw[A3p];omega];rfl,ct,At0,show take 2 (setCells [.nsl,.nsl] 0 (S9 L W false))=S9 L W false from rfl,<-At1 l (L,W)]
    cases m with
    |zero=>omega
    |succ m =>
     have:=nW D hf hj hl n c k m G (l++[(L,W)]) (hr.snoc T I g3) (by simp;omega) (by simp;omega) (by omega)
     rw[A3d,A7h]at this
     rw[wS (by omega)]
     rw[show j+l.length+1=j+(l.length+1) by omega]
     exact this
   rw[decide_eq_true (show((j+l.length:Nat):Int)<=(last:Int) by omega),ct,er,Vi,Vi]
   have hH:j+l.length<H:=by omega
   by_cases hz:l.length=0
   ·rw[decide_eq_false (show ¬ (((j+l.length:Nat):Int)>(j:Int)) by omega),cf,Arg]
    have e0:un (uN u o)=un u:=rfl
    rw[e0]
    have ej:j+l.length=j:=by omega
    cases hc:X1 (un u) j with
    |true =>
     rw[ct]
     refine Af0 (by have:=hf.1;omega) (Bf hv).2.1 fun W' w1 w2=>?_
     refine Afz hv (UJ ko (xV hc)) (B:=2) (fun z _ _=>qi (v:=0) (by omega)) (by omega) (D.pa _ hH) (D.pb _ hH) w1 w2 (by omega) D.hV D.hP hf fun W2 T I=>?_
     rw[show(false||false)=false from rfl,cf,Axs,ct]
     refine key _ _ T ?_ ?_
     ·rw[show 540*(l.length+1)+2=2+540 by omega];exact I
     ·rw[hz];unfold runF;rw[hc];simp only[if_true,A30];rfl
    |false =>
     rw[cf]
     refine Atz hv (D.pa _ hH) (D.pb _ hH) D.hV D.hP hf fun W2 T I=>?_
     rw[show(false||false)=false from rfl,cf,Axs,ct]
     refine key _ _ T ?_ ?_
     ·exact⟨I.x,fun p hp=>by have:=I.q p hp;omega,I.n⟩
     ·rw[hz];unfold runF;rw[hc];simp only[A4m,if_false,A30];rfl
   ·obtain⟨i,hi⟩:∃ i,l.length=i+1:=⟨l.length - 1,by omega⟩
    have e1:wrap .i64 ((wrap .i64 (((j+l.length:Nat):Int) - (j:Int))) - 1)=(i:Int):=by
     rw[Bc (((j+l.length:Nat):Int) - (j:Int)) (by omega),Bc _ (by omega)];omega
    have Y:i<l.length:=by omega
    rw[decide_eq_true (show((j+l.length:Nat):Int)>(j:Int) by omega),ct,e1,Aa Y,ct,A22,A2u,Af1 l i Y]
    obtain⟨w1,w2,w3⟩:=hr i Y
    rw[show ble 2 (List.length (S9 l[i].1 l[i].2 false++rc (l.drop (i+1))))=true from rfl,ct,show take 2 (S9 l[i].1 l[i].2 false++rc (l.drop (i+1)))=S9 l[i].1 l[i].2 false from rfl]
    have st:=Hm (a:=a) (b:=b) (fi:=j) ko i
    rw[<-w3]at st
    refine Afz hv st (B:=540*(i+1)+2) (fun z z1 z2=>Abs D.hv (H:=H) (fun h hh=>(D.pa h hh).qm) (fun h hh=>(D.pb h hh).qm) i (by omega) z z1 z2) (by omega) (D.pa _ hH) (D.pb _ hH) w1 w2 (by omega) D.hV D.hP hf fun W2 T I=>?_
    rw[show(false||false)=false from rfl,cf,Axs,ct]
    refine key _ _ T ?_ ?_
    ·rw[show 540*(l.length+1)+2=540*(i+1)+2+540 by omega];exact I
    ·rw[w3,hi];rfl
  ·rw[decide_eq_false (show ¬ ((j+l.length:Nat):Int)<=(last:Int) by omega),cf]
   exact k l hr (by omega) h7
end
end
end Gx.Uo
namespace Gx.Uo
open Go Go.Proofs
noncomputable section
variable{R:Type}{N:Nat}{X:O R}
def Alb{α:Type}{f:Nat->α}{j:Nat}{v:α}(h:f j=v):f=up f j v:=by
 funext i;unfold up
 cases e:beq i j with
|true=>have:=A26 e;subst this;exact h
|false=>rfl
section
variable{r0 r1 r2 r3 r4 r5:KR R}{u:UnitD}{hh hs:Int}{H:Nat}{E Q V:List RatD}{a b:Nat->Rat}{o o1 o2:Bool}{n:Nat->Nat}{c:Nat->LA}
def Arw(D:DOk u hh H E Q V a b)(I:fit 1000000 N){j last:Nat}(T:j<5)(Y:last<H){l:Rn}(L:n j=l.length)(hc:c j=rc l)(hr:RI u a b j l)(h7:l.length<=7)
  (k:∀ G,RI u a b j G->last<j+G.length->G.length<=7->A0j r0 r1 r2 r3 r4 r5 j (up n j G.length) (up c j (rc G))=X):Jk N (j:Int) (last:Int) (rB u hs E Q V o o1 o2 n c) r0 r1 r2 r3 r4 r5=X:=by
 have h6:=D.h6
 have hN:100001000<=N:=by have:=I.1;omega
 rw[V7]
 have key:Ai7 (C2 N r0 r1 r2 r3 r4 r5 (last:Int) (rB u hs E Q V o o1 o2 n c) N (j:Int) (wrap .i64 ((j:Int)+((n j:Nat):Int)))) n c=X:=by
  have:=nW (r0:=r0) (r1:=r1) (r2:=r2) (r3:=r3) (r4:=r4) (r5:=r5) (hs:=hs) (o:=o) (o1:=o1) (o2:=o2) (n0:=n) (c0:=c) D I T Y n c k 100 N l hr h7 (by omega) (by omega)
  rw[<-Alb L,<-Alb hc]at this
  rw[L,Bc _ (by omega)]
  rwa [Int.natCast_add]at this
 have:j=0\/j=1\/j=2\/j=3\/j=4:=by omega
 rcases this with rfl|rfl|rfl|rfl|rfl<;>exact key
def Alc{j i:Nat}(k:j+i<=1000):wrap .i64 (((j+i:Nat):Int) - (j:Int))=(i:Int):=by rw[Bc _ (by omega)];omega
def Avb{j i H:Nat}:decide (((j+i:Nat):Int)<(H:Int) - 1)=decide (j+i+1<H):=by rw[decide_eq_decide];omega
def Avc{K:Int->Bool->KN R}(D:DOk u hh H E Q V a b)(hf:fit 1000000 N){j i:Nat}(hj:j<5)(hl:j+i<H){l:Rn}(hn:n j=l.length)(hc:c j=rc l)(hr:RI u a b j l)(h7:l.length<=7)
  (k0:FH (un u) H j i<Hu (un u) j i->∀ k,RI u a b j k->i<k.length->k.length<=7->Ai7 (K 0 false) (up n j k.length) (up c j (rc k))=X)
  (Y:¬ FH (un u) H j i<Hu (un u) j i->∀ k,RI u a b j k->i<k.length->k.length<=7->Ai7 (K (So (un u) a b H j i) true) (up n j k.length) (up c j (rc k))=X):Ln N (j:Int) ((j+i:Nat):Int) (rB u (H:Int) E Q V o o1 o2 n c) K=X:=by
 have h6:=D.h6
 have hf2:fit (200*(540*(i+1)+2+2)+1000) N:=hf.le (show 200*(540*(i+1)+2+2)+1000<=1000000 by omega)
 have hN:100001000<=N:=by have:=hf.1;omega
 have ko:=BM D.hv
 have hm:=E6 D.hv
 rw[EP];unfold Sh
 refine Arw D hf hj hl hn hc hr h7 fun k I hlen h7'=>?_
 have hi:i<k.length:=by omega
 obtain⟨w1,w2,w3⟩:=I i hi
 have st:=Hm (a:=a) (b:=b) (fi:=j) ko i
 rw[<-w3]at st
 have l0:u.min<=Hu (un u) j i:=st.l0
 have l1:=st.l1
 have l2:S5 (un u) j i<=u.max:=st.l2
 have T:=st.up.cv.ne
 suffices h:cond (Ab (wrap .i64 (((j+i:Nat):Int) - (j:Int))) (up n j k.length j)) (cond (ble 2 (((up c j (rc k) j).drop (0+(((wrap .i64 (((j+i:Nat):Int) - (j:Int))).toNat)*2))).length)) (cond ((beq 0 0)&&((beq ((((up c j (rc k) j).drop (0+(((wrap .i64 (((j+i:Nat):Int) - (j:Int))).toNat)*2))).take 2).length) 2)&&(beq 2 2))) (Jl N K ((j+i:Nat):Int) (rB u (H:Int) E Q V o o1 o2 n c) (up n j k.length 0) (up n j k.length 1) (up n j k.length 2) (up n j k.length 3) (up n j k.length 4) (up n j k.length 5) (((up c j (rc k) j).drop (0+(((wrap .i64 (((j+i:Nat):Int) - (j:Int))).toNat)*2))).take 2) (up c j (rc k) 0) (up c j (rc k) 1) (up c j (rc k) 2) (up c j (rc k) 3) (up c j (rc k) 4) (up c j (rc k) 5)) none) none) none=X by
  have:j=0\/j=1\/j=2\/j=3\/j=4:=by omega
  rcases this with rfl|rfl|rfl|rfl|rfl<;>exact h
 rw[Alc (by omega),Vi,Vi,Aa hi,ct,A2u,A22,Af1 k _ hi,show ble 2 (List.length (S9 k[i].1 k[i].2 false++rc (k.drop (i+1))))=true from rfl,ct,show take 2 (S9 k[i].1 k[i].2 false++rc (k.drop (i+1)))=S9 k[i].1 k[i].2 false from rfl,Axs,ct]
 have k0:=fun e=>k0 e k I hi h7'
 have Y:=fun e=>Y e k I hi h7'
 unfold So at Y
 rw[<-w3]at Y
 generalize up n j k.length=n' at *
 generalize up c j (rc k)=c' at *
 generalize k[i].1=L at *
 generalize k[i].2=W at *
 unfold Jl Sg
 rw[Axt,ct,Axu,Arj T w2.n,st.up.lstP]
 rw[show(rB u (H:Int) E Q V o o1 o2 n c).hs=(H:Int)from rfl,show(rB u (H:Int) E Q V o o1 o2 n c).tr=u.stopRamp from rfl,Bc ((H:Int) - 1) (by omega),Dg,Avb]
 have q:∀ t:Int,Ob N K (rB u (H:Int) E Q V o o1 o2 n c) (n' 0) (n' 1) (n' 2) (n' 3) (n' 4) (n' 5) (S9 L W false) (c' 0) (c' 1) (c' 2) (c' 3) (c' 4) (c' 5) t=cond (decide (t<Hu (un u) j i)) (Ai7 (K 0 false) n' c') (Ai7 (K (Lt (E2 0 L) t) true) n' c'):=fun t=>by
  unfold Ob
  rw[Axt,ct,Axu,Ari T,st.up.fstP]
  cases decide (t<Hu (un u) j i)with
  |true=>rfl
  |false =>
   rw[cf,cf,ct]
   refine D0 (by omega) (by omega) fun z hz=>?_
   rw[Ai1 T hz (S:=2) (qi (by omega)) w1 w2 hf2 (by omega),Dg];rfl
 have fin:cond (decide (FH (un u) H j i<Hu (un u) j i)) (Ai7 (K 0 false) n' c') (Ai7 (K (Lt (E2 0 L) (FH (un u) H j i)) true) n' c')=X:=by
  by_cases h:FH (un u) H j i<Hu (un u) j i
  ·rw[decide_eq_true h,ct];exact k0 h
  ·rw[decide_eq_false h,cf];exact Y h
 by_cases G:j+i+1<H
 ·rw[decide_eq_true G,ct]
  unfold FH at fin;rw[if_pos G]at fin
  exact(q _).trans fin
 ·rw[decide_eq_false G,cf]
  unfold FH at fin;rw[if_neg G]at fin
  exact(q _).trans fin
def Abu{j i:Nat}(k:A4 u hh=true)(h:¬ FH (un u) H j i<Hu (un u) j i):Hu (un u) j i<=So (un u) a b H j i/\So (un u) a b H j i<=S5 (un u) j i/\(j+i+1<H->So (un u) a b H j i<=u.stopRamp):=by
 have st:=Hm (a:=a) (b:=b) (fi:=j) (BM k) i
 have pk:=(st.up.pk 0).2.1
 have key:∀ p lo hi t tr:Int,lo<=p->p<=hi->(t=if j+i+1<H then Lt hi tr else hi)->¬ t<lo->lo<=Lt p t/\Lt p t<=hi/\(j+i+1<H->Lt p t<=tr):=fun p lo hi t tr I L D T=>by
  split at D
  ·unfold Lt at *;grind
  ·rename_i G
   exact⟨by unfold Lt;split<;>omega,by unfold Lt;split<;>omega,fun h=>absurd h G⟩
 exact key _ _ _ _ _ pk.1 pk.2 rfl h
def An8{K:LA->Bool->Bool->KN R}(D:DOk u hh H E Q V a b)(T:fit 1000000 N){j i:Nat}(hj:j<5)(hl:j+i<H){l:Rn}(hn:n j=l.length)(hc:c j=rc l)(hr:RI u a b j l)(h7:l.length<=7)
  (k0:FH (un u) H j i<Hu (un u) j i->∀ k,RI u a b j k->i<k.length->k.length<=7->Ai7 (K [.bool false,.nsl,.nsl] false false) (up n j k.length) (up c j (rc k))=X)
  (Y:¬ FH (un u) H j i<Hu (un u) j i->∀ k,RI u a b j k->i<k.length->k.length<=7->∀(d:RatD)(f:Bool),d.can ((runF (un u) a b j i).1 (So (un u) a b H j i))->Ai7 (K d.av f true) (up n j k.length) (up c j (rc k))=X):Ma N (j:Int) ((j+i:Nat):Int) (rB u (H:Int) E Q V o o1 o2 n c) K=X:=by
 have h6:=D.h6
 have hf2:fit (100*(540*(i+1)+2)+1000) N:=T.le (show 100*(540*(i+1)+2)+1000<=1000000 by omega)
 have hN:100001000<=N:=by have:=T.1;omega
 have hNN:40000000<=N:=by omega
 have ko:=BM D.hv
 rw[Tb];unfold P9
 refine Avc D T hj hl hn hc hr h7 (fun e k G L I=>k0 e k G L I) (fun e k G hi I=>?_)
 have Y:=Y e k G hi I
 obtain⟨w1,w2,w3⟩:=G i hi
 have st:=Hm (a:=a) (b:=b) (fi:=j) ko i
 have hx:=Abu (a:=a) (b:=b) D.hv e
 rw[<-w3]at st
 suffices h:cond (Ab (wrap .i64 (((j+i:Nat):Int) - (j:Int))) (up n j k.length j)) (cond (ble 2 (((up c j (rc k) j).drop (0+(((wrap .i64 (((j+i:Nat):Int) - (j:Int))).toNat)*2))).length)) (Is N (((up c j (rc k) j).drop (0+(((wrap .i64 (((j+i:Nat):Int) - (j:Int))).toNat)*2))).take 2) false (So (un u) a b H j i) fun t ab=>cond ((beq 0 0)&&((beq t.length 3)&&(beq 3 3))) (cond (ble 3 t.length) (Ai7 (K (t.take 3) ab true) (up n j k.length) (up c j (rc k))) none) none) none) none=X by
  have:j=0\/j=1\/j=2\/j=3\/j=4:=by omega
  rcases this with rfl|rfl|rfl|rfl|rfl<;>exact h
 rw[Alc (by omega),Vi,Vi,Aa hi,ct,A2u,A22,Af1 k _ hi,show ble 2 (List.length (S9 k[i].1 k[i].2 false++rc (k.drop (i+1))))=true from rfl,ct,show take 2 (S9 k[i].1 k[i].2 false++rc (k.drop (i+1)))=S9 k[i].1 k[i].2 false from rfl]
 refine Ai0 w1 w2 st.up.cv (by rw[st.up.fst];exact hx.1) (by rw[st.up.lst];exact hx.2.1) hf2 hNN fun d f hd=>?_
 rw[c3,ct,b3,ct,Y9]
 exact Y d f hd
end
end
end Gx.Uo
namespace Gx.Uo
open Go Go.Proofs
noncomputable section
variable{R:Type}{N:Nat}{X:O R}
def kV{α β:Type}(g:α->β){f:Nat->α}{j:Nat}{v:α}:up (fun i=>g (f i)) j (g v)=fun i=>g (up f j v i):=by funext i;unfold up;cases beq i j<;>rfl
def DR(u:UnitD)(a b:Nat->Rat)(L:Nat->Rn):Prop:=∀ j,RI u a b j (L j)/\(L j).length<=7
def DR.up{u:UnitD}{a b:Nat->Rat}{L:Nat->Rn}(h:DR u a b L){j:Nat}{l:Rn}(k:RI u a b j l)(D:l.length<=7):DR u a b (up L j l):=fun i=>by
 unfold Uo.up
 cases e:beq i j with
|false=>exact h i
|true=>have:=A26 e;subst this;exact⟨k,D⟩
def Abv{Y:Type}(r0:N6 (L6 (L6 Y)))(L:Nat->Rn)(W:Nat->List (Option MkD)):Y:=IG (IG (IG r0 fun j=>(L j).length) fun j=>A2 (W j)) fun j=>rc (L j)
variable{u:UnitD}
def At2{s:StD}(h:C4 u s)(hs:Bg u=true)(D:s.k=2):∃ t,Jj (Bl u s) 2=some t/\C4 u t/\t.k=2:=by
 have e:Jj (Bl u s) 2=some ⟨2,Cn (s.h+1) (H4 u)⟩:=by
  unfold Bl Jj;rw[D]
  cases decide (s.h>=u.upTime)<;>rfl
 exact⟨_,e,BK hs h _ (VK e).1,rfl⟩
def Azk{Y:Type}(q:N6 (L6 (LA->LA->LA->L6 Y)))(L:Nat->Rn)(W:Nat->List (Option MkD))(x y z:LA):Y:=IG (IG (IG q fun j=>(L j).length) (fun j=>A2 (W j)) x y z) fun j=>rc (L j)
variable{hh:Int}{E Q V:List RatD}{o o1 o2:Bool}{a b:Nat->Rat}{H:Nat}{fx:List Int}
def An9(D:DOk u hh H E Q V a b)(hfx:fx.length=H)(hl:u.away.l.length<=1000)(hf:fit 1000000 N){f:Nat}{mk:Mk}{md:MkD}{s0:StD}{r0:N6 (L6 (L6 (O R)))}(m1:md.d.can mk.profit)(m2:qm mk.profit<=1000*f+20)(m3:md.h=mk.hour)(m4:md.r=mk.run)(m5:C4 u s0)(m6:mk.pos=ds s0)(m7:md.p=ix u s0)
  {n:Nat->Nat} (hn:∀ j≤H,n j=(Be u).length) {n0:Nat->Nat} {c0:Nat->LA} {x0 x1 x2 x3 x4 x5:LA} {e g:Bool}:∀(k i G:Nat)(s aa:StD)(T:FG)(W:Nat->List (Option MkD))(L:Nat->Rn)(d':RatD),f+i+k=H->k<G->C4 u s->s.k=2->C4 u aa->((i=0/\aa=s)\/(0<i/\Jj (Bl u aa) 2=some s))->L9 u H T W->DR u a b L ->
   (∀ W' L',L9 u H (GM (Bw u fx H a b) f mk k i (ds s) T) W'->DR u a b L'->Abv r0 L' W'=X) ->
   Azk (A9 N r0 (f:Int) (Am fx) fx.length e g (n 0) (n 1) (n 2) (n 3) (n 4) (n 5) (rB u (H:Int) E Q V o o1 o2 n0 c0) x0 x1 x2 x3 x4 x5 G ((f+i:Nat):Int)) L W aa.av (FY (some ⟨d',md.h,md.p,md.r⟩)) md.d.av=X:=by
 intro k
 induction k with
|zero =>
  intro i fuel0 s aa T W L d' hi hfu h1 h2 h3 h4 tk dr hk
  obtain⟨G,rfl⟩:∃ f',fuel0=f'+1:=⟨fuel0 - 1,by omega⟩
  unfold Azk IG
  try dsimp only
  rw[A9];unfold Ft
  rw[show(rB u (H:Int) E Q V o o1 o2 n0 c0).hs=(H:Int)from rfl,Rc (by omega),show(false==true)=false from rfl,cf]
  exact hk W L tk dr
| succ k ih =>
  intro i fuel0 s aa T W L d' hi hfu h1 h2 h3 h4 tk dr hk
  obtain⟨G,rfl⟩:∃ f',fuel0=f'+1:=⟨fuel0 - 1,by omega⟩
  have h6:=D.h6
  have Y:=(Bf D.hv).1
  have hN:100001000<=N:=by have:=hf.1;omega
  have hrb:∀ L:Nat->Rn,Agz (rB u (H:Int) E Q V o o1 o2 n0 c0) (L 0).length (L 1).length (L 2).length (L 3).length (L 4).length (L 5).length (rc (L 0)) (rc (L 1)) (rc (L 2)) (rc (L 3)) (rc (L 4)) (rc (L 5))=rB u (H:Int) E Q V o o1 o2 (fun j=>(L j).length) (fun j=>rc (L j)):=fun _=>rfl
  unfold Azk IG
  try dsimp only
  rw[A9];unfold Ft
  rw[show(rB u (H:Int) E Q V o o1 o2 n0 c0).hs=(H:Int)from rfl,Ox (by omega),show(true==true)=true from rfl,ct,hrb,Arv (H:=H) (a:=a) (b:=b) hl (by omega) (.inr (.inr rfl)) (by omega)]
  cases hm:(Bw u fx H a b).may (f+i) 2 with
  |false =>
   rw[show(cond true false false)=false from rfl,cf]
   exact hk W L (by rw[GM,if_neg (by rw[hm];simp)];exact tk) dr
  | true =>
   rw[show(cond true true false)=true from rfl,ct]
   obtain⟨s',g1,g2,g3⟩:=At2 h1 Y h2
   have er:GM (Bw u fx H a b) f mk (k+1) i (ds s) T=GM (Bw u fx H a b) f mk k (i+1) (ds s') (G4 (Bw u fx H a b) f i (ds s) mk T):=by
    rw[GM,if_pos hm,Abr h1,g1];rfl
   rw[er]at hk
   have go:∀ W' L' d'',L9 u H (G4 (Bw u fx H a b) f i (ds s) mk T) W'->DR u a b L'->Azk (A9 N r0 (f:Int) (Am fx) fx.length e g (n 0) (n 1) (n 2) (n 3) (n 4) (n 5) (rB u (H:Int) E Q V o o1 o2 n0 c0) x0 x1 x2 x3 x4 x5 G (wrap .i64 (((f+i:Nat):Int)+1))) L' W' s.av (FY (some ⟨d'',md.h,md.p,md.r⟩)) md.d.av=X:=fun W' L' d'' t' l'=>by
    rw[wS (by omega),show f+i+1=f+(i+1) by omega]
    exact ih (i+1) G s' s _ W' L' d'' (by omega) (by omega) g2 g3 h1 (.inr ⟨by omega,g1⟩) t' l' hk
   have q3:∀(h':Nat)(en:StD),Of (Bw u fx H a b) (f+i) (ds s)=some (h',ds en)->C4 u en->h'<=H->f+i<h'->IG (IG (IG (Gi N (A9 N r0 (f:Int) (Am fx) fx.length e g (n 0) (n 1) (n 2) (n 3) (n 4) (n 5) (rB u (H:Int) E Q V o o1 o2 n0 c0) x0 x1 x2 x3 x4 x5 G) r0 (f:Int) ((f+i:Nat):Int) (Am fx) fx.length e g (n 0) (n 1) (n 2) (n 3) (n 4) (n 5) (rB u (H:Int) E Q V o o1 o2 n0 c0) s.av md.d.av x0 x1 x2 x3 x4 x5 (h':Int)) fun j=>(L j).length) (fun j=>A2 (W j)) (FY (some ⟨d',md.h,md.p,md.r⟩)) en.av) (fun j=>rc (L j))=X:=fun h' en he ho hH I=>by
    unfold IG Gi
    try dsimp only
    rw[hrb]
    refine An8 (n:=fun j=>(L j).length) (c:=fun j=>rc (L j)) (l:=L f) D hf (by omega) (by omega) rfl rfl (dr f).1 (dr f).2 (fun hb l' k1 k2 k3=>?_) (fun hb l' k1 k2 k3 v fl hv=>?_)
    ·rw[kV List.length,kV rc]
     unfold Ai7
     try dsimp only
     rw[show((beq 0 0)&&((beq (List.length [AV.bool false,.nsl,.nsl]) 3)&&(beq 3 3)))=true from rfl,ct,show(!false)=true from rfl,ct]
     exact go W (up L f l') d' (by
      unfold G4;rw[he,show(Bw u fx H a b).rev f i=none by show oG (un u) a b H f i=none;unfold oG;rw[if_pos hb]];exact tk) (dr.up k1 k3)
    ·rw[kV List.length,kV rc]
     unfold Ai7
     try dsimp only
     have qv:=Abs (a:=a) (b:=b) (j:=f) (H:=H) D.hv (fun h hh=>(D.pa h hh).qm) (fun h hh=>(D.pb h hh).qm) i (by omega) _ (Abu (a:=a) (b:=b) D.hv hb).1 (Abu (a:=a) (b:=b) D.hv hb).2.1
     have hrev:(Bw u fx H a b).rev f i=some ((runF (un u) a b f i).1 (So (un u) a b H f i)):=by show oG (un u) a b H f i=_;unfold oG;rw[if_neg hb]
     rw[Gx.c3,ct,show(!true)=false from rfl,cf,Gx.b3,ct,Gx.b3,ct,Y9,Y9]
     refine ST m1 hv (hf.le (by omega)) fun d hd=>?_
     rw[show((beq (List.length d.av) 3)&&((ble 4 (List.length (FY (some ⟨d',md.h,md.p,md.r⟩))))&&(!false)))=true from rfl,ct,IJ,ct,gR,show setCells (FY (some ⟨d',md.h,md.p,md.r⟩)) 1 d.av=FY (some ⟨d,md.h,md.p,md.r⟩)from rfl,Ava,ct,Au9,hrb]
     have qs:=Fz mk.profit ((runF (un u) a b f i).1 (So (un u) a b H f i))
     refine Ala D.hv (by omega) hH tk ho (m:=⟨d,md.h,md.p,md.r⟩) (t:={mk with profit:=mk.profit+(runF (un u) a b f i).1 (So (un u) a b H f i)}) ⟨hd,?_,m3,m4,fun _=>⟨s0,m5,m6,m7⟩⟩ (by omega) hf (hn h' hH) fun W' t'=>?_
     ·show qm (mk.profit+_)<=1000*h'+10
      omega
     ·exact go W' (up L f l') d (by unfold G4;rw[he,hrev];exact t') (dr.up k1 k3)
   have step:IG (IG (IG (Gj N (A9 N r0 (f:Int) (Am fx) fx.length e g (n 0) (n 1) (n 2) (n 3) (n 4) (n 5) (rB u (H:Int) E Q V o o1 o2 n0 c0) x0 x1 x2 x3 x4 x5 G) r0 (f:Int) (Am fx) fx.length e g (n 0) (n 1) (n 2) (n 3) (n 4) (n 5) (rB u (H:Int) E Q V o o1 o2 n0 c0) md.d.av x0 x1 x2 x3 x4 x5 ((f+i:Nat):Int)) fun j=>(L j).length) (fun j=>A2 (W j)) s.av (FY (some ⟨d',md.h,md.p,md.r⟩))) (fun j=>rc (L j))=X:=by
    unfold IG Gj Jn
    try dsimp only
    rw[IJ,ct,gR,YH,ct,show(rB u (H:Int) E Q V o o1 o2 n0 c0).hs=(H:Int)from rfl,Bc ((H:Int) - 1) (by omega),Avb]
    by_cases I:f+i+1<H
    ·rw[decide_eq_true I,ct,ct,show Amc (rB u (H:Int) E Q V o o1 o2 n0 c0)=(uN u o).av from rfl]
     have stay:(∀ q,Of (Bw u fx H a b) (f+i) (ds s)≠some q)->L9 u H (G4 (Bw u fx H a b) f i (ds s) mk T) W:=fun hno=>by
      unfold G4
      cases hq:Of (Bw u fx H a b) (f+i) (ds s)with
      |none=>exact tk
      |some q=>exact absurd hq (hno q)
     refine nV (u:=uN u o) (by omega) Y h1 (fun hno=>?_) (fun t ht=>?_)
     ·rw[show((beq (List.length [AV.int .i64 0,Bbr]) 2)&&((ble 2 (List.length (zS s.av)))&&(!false)))=true from rfl,ct]
      refine go W L d' (stay fun q hq=>?_) dr
      unfold Of at hq
      rw[if_pos (show f+i+1<(Bw u fx H a b).H from I),Abr h1,show Jj (Bl u s) 0=none from hno]at hq
      cases hq
     ·have ht:Jj (Bl u s) 0=some t:=ht
      have to:=BK Y h1 _ (VK ht).1
      have th:=aZ Y to
      have es:(Bw u fx H a b).succ (ds s) 0=some (ds t):=by rw[Abr h1,ht];rfl
      rw[show((beq (List.length t.av) 2)&&((ble 2 (List.length (zS s.av)))&&(!false)))=true from rfl,ct,show setCells (zS s.av) 0 t.av=t.av from rfl,Sc,show((t.h==0)==false)=true by simp;omega,ct,wS (by omega),hrb,Arv (H:=H) (a:=a) (b:=b) hl (by omega) (.inl rfl) (by omega)]
      cases hm2:(Bw u fx H a b).may (f+i+1) 0 with
      |false =>
       rw[show(cond false true (!false))=true from rfl,ct,<-wS (by omega)]
       refine go W L d' (stay fun q hq=>?_) dr
       unfold Of at hq
       rw[if_pos (show f+i+1<(Bw u fx H a b).H from I),es,A34,if_neg (by rw[hm2];simp)]at hq
       cases hq
      |true =>
       rw[show(cond false true (!true))=false from rfl,cf,i64 (a:=((f+i:Nat):Int)+2) (by omega),show((f+i:Nat):Int)+2=((f+i+2:Nat):Int) by omega]
       refine q3 (f+i+2) t ?_ to (by omega) (by omega)
       unfold Of
       rw[if_pos (show f+i+1<(Bw u fx H a b).H from I),es,A34,if_pos hm2]
    ·rw[decide_eq_false I,cf,wS (by omega),show zS s.av=s.av from rfl]
     refine q3 (f+i+1) s ?_ h1 (by omega) (by omega)
     unfold Of
     rw[if_neg (show ¬ f+i+1<(Bw u fx H a b).H from I)]
   unfold Gk Jo
   dsimp only
   rcases h4 with⟨h4,rfl⟩|⟨h4,h5⟩
   ·rw[decide_eq_false (show ¬ ((f+i:Nat):Int)>(f:Int) by omega),cf]
    exact step
   ·rw[decide_eq_true (show((f+i:Nat):Int)>(f:Int) by omega),ct,IJ,ct,gR,show Amc (rB u (H:Int) E Q V o o1 o2 n0 c0)=(uN u o).av from rfl]
    refine nV (u:=uN u o) (by omega) Y h3 (fun hno=>?_) (fun t ht=>?_)
    ·rw[show Jj (Bl u aa) 2=none from hno]at h5;cases h5
    ·have ht:Jj (Bl u aa) 2=some t:=ht
     rw[h5]at ht;cases ht
     rw[show((beq (List.length s.av) 2)&&(true&&(!false)))=true from rfl,ct,Ak0]
     exact step
def Awq(D:DOk u hh H E Q V a b)(G:fx.length=H)(hl:u.away.l.length<=1000)(I:fit 1000000 N){f:Nat}{mk:Mk}{md:MkD}{s0 s:StD}{r0:N6 (L6 (L6 (O R)))}(m1:md.d.can mk.profit)(m2:qm mk.profit<=1000*f+20)(m3:md.h=mk.hour)(m4:md.r=mk.run)(m5:C4 u s0)(m6:mk.pos=ds s0)(m7:md.p=ix u s0)
  {n:Nat->Nat} (hn:∀ j≤H,n j=(Be u).length) (hfH:f<=H) (Y:C4 u s) (h2:s.k=2) {T:FG} {W:Nat->List (Option MkD)} {L:Nat->Rn} (tk:L9 u H T W) (dr:DR u a b L) {e g:Bool}
  (hk:∀ W' L',L9 u H (GM (Bw u fx H a b) f mk (H - f) 0 (ds s) T) W'->DR u a b L'->Abv r0 L' W'=X) :
  F9 N (f:Int) s.av (FY (some md)) (Am fx) fx.length e g (n 0) (n 1) (n 2) (n 3) (n 4) (n 5) (A2 (W 0)) (A2 (W 1)) (A2 (W 2)) (A2 (W 3)) (A2 (W 4)) (A2 (W 5)) (rB u (H:Int) E Q V o o1 o2 (fun j=>(L j).length) fun j=>rc (L j)) r0=X:=by
 have hN:100001000<=N:=by have:=I.1;omega
 have h6:=D.h6
 rw[Qv];unfold H5
 rw[show(FY (some md)).drop 1=md.d.av++[.int .i64 (md.h:Int),.int .i64 (md.p:Int),.bool md.r]from rfl,OR,ct,Wy,Gx.c3,ct]
 exact An9 D G hl I m1 m2 m3 m4 m5 m6 m7 hn (H - f) 0 N s s T W L md.d (by omega) (by omega) Y h2 Y (.inl ⟨rfl,rfl⟩) tk dr hk
end
end Gx.Uo
namespace Gx
open Go Go.Proofs
section
variable{R:Type}
def Ab3(u:UnitD):Int->StD->Bool->Rat->List Int->List RatD->List RatD->Int×Int
|h,s,was,v,k::ks,e::es,r::rs=>match Og u h s k with
  |none=>(h,16)
  |some t=>cond (P8 u (k==2) e.q r.q) (cond (EK u was (k==2) v e.q r.q) (Ab3 u (h+1) t (k==2) e.q ks es rs) (h,64)) (h,3)
|h,_,_,_,_,_,_=>(h,0)
section
variable{N n:Nat}{K:Int->Int->O R}{u:UnitD}{p:PlanD}{f e:Bool}
def Af5{K:Bool->O R}{h:Nat}(k:fit 2000 N)(hN:4000<=N)(T:uR u)(L:h<p.st.l.length)(G:h<p.en.l.length)(I:h<p.re.l.length)(oe:okR p.en.l)(or:okR p.re.l):LP N u.av f p.av e (h:Int) K=K (P8 u (p.st.l[h]==2) p.en.l[h].q p.re.l[h].q):=by
 unfold uR at T
 have e1:=oe.at G
 have r1:=or.at I
 have Y:=Fz p.en.l[h].q p.re.l[h].q
 have:=e1.qm;have:=r1.qm
 rw[SO];unfold SN
 simp only[p0,p1,p2,Aa L,Aa G,Aa I,Bh L,P6 G,P6 I,OR,Wy,b3,Y9,c3,ct,u2,u3,Av0]
 unfold P8
 by_cases D:p.st.l[h]=2
 ·rw[show(p.st.l[h] != 2)=false by simp[D],cf,show(p.st.l[h]==2)=true by simpa using D]
  rw[AS (by omega) hN,Afa e1 (Atq (by omega)) (k.le (by omega)),Aiu,Afc r1 (by omega) (by omega) (k.le (by omega)) hN,Afb e1 r1 (k.le (by omega)),AS (by omega) hN,Afa (It (m:=12) (by omega)) (Atq (by omega)) (k.le (by omega)),kG]
  cases decide ((u.min:Rat)<=p.en.l[h].q)<;>cases Axq p.re.l[h].q 0 u.reserve<;>rfl
 ·rw[show(p.st.l[h] != 2)=true by simp[D],ct,show(p.st.l[h]==2)=false by simpa using D]
  rw[Ayq e1 (k.le (by omega)),Ayq r1 (k.le (by omega)),yV,yV]
  cases decide (p.en.l[h].q=0)<;>rfl
def gB(u:UnitD)(ks:List Int):Nat->Bool
|0=>u.state==2
|h+1=>(ks[h]?.getD 0)==2
def MN(u:UnitD)(es:List RatD):Nat->Rat
|0=>(u.output:Rat)
|h+1=>((es[h]?).map RatD.q).getD 0
def Aoa{X:O R}{K:Bool->LA->Bool->O R}{h:Nat}(hN:4000<=N)(G:uR u)(I:h<p.st.l.length)(L:h<p.en.l.length)(T:h<=1000)(oe:okR p.en.l)
  (hX:∀(x:RatD)(g:Bool),x.is (MN u p.en.l h) 4->K (gB u p.st.l h) x.av g=X):LQ N u.av f p.av e (h:Int) K=X:=by
 unfold uR at G
 rw[SQ];unfold SP
 rcases h with _|h
 ·rw[show(((0:Nat):Int)==0)=true from rfl,ct,Am5,Av1,AS (by omega) hN,c3,ct,b3,ct,Y9]
  exact hX _ _ (It (by have:=qi (v:=u.output) (by omega);show qm (u.output:Rat)<=4;omega))
 ·have D:h<p.st.l.length:=by omega
  have k:h<p.en.l.length:=by omega
  rw[show(((h+1:Nat):Int)==0)=false by simp;omega,cf,p0,wP (by omega),Aa D,ct,Bh D,p1,Aa k,ct,P6 k,OR,ct,Wy,c3,ct,b3,ct,Y9]
  have:=hX p.en.l[h] e (by simp only[MN,A2r k,A71,A8t];exact oe.at k)
  simpa[gB,D]using this
def Af6{K:Bool->O R}{h:Nat}(k:fit 2000 N)(hN:4000<=N)(Y:uR u)(I:h<p.st.l.length)(G:h<p.en.l.length)(L:h<p.re.l.length)(hn:h<=1000)(oe:okR p.en.l)(or:okR p.re.l):AR N u.av f p.av e (h:Int) K=K (EK u (gB u p.st.l h) (p.st.l[h]==2) (MN u p.en.l h) p.en.l[h].q p.re.l[h].q):=by
 have T:=Y
 unfold uR at Y
 have e1:=oe.at G
 have r1:=or.at L
 rw[SR];unfold DW
 rw[Ef,ct,Azh,ct,Cj,Azi]
 refine Aoa hN T I G hn oe fun x g D=>?_
 generalize gB u p.st.l h=was
 generalize MN u p.en.l h=v at D
 have hqa:=Fz p.en.l[h].q p.re.l[h].q
 have hqs:=Om (p.en.l[h].q+p.re.l[h].q) v
 have hqt:=Om v p.en.l[h].q
 have:=e1.qm;have:=r1.qm;have:=D.qm
 have hd:(bO (p.en.l[h].q+p.re.l[h].q)).is (p.en.l[h].q+p.re.l[h].q) 12:=It (by omega)
 simp only[p0,p1,p2,Aa I,Aa G,Aa L,Bh I,P6 G,P6 L,OR,Wy,b3,Y9,c3,ct]
 rw[Afb e1 r1 (k.le (by omega)),c3,ct]
 unfold Vd EK
 simp only[b3,Y9,ct,u6,u7,u8,u9]
 rw[Aqy hd D (k.le (by omega)),Aqy D e1 (k.le (by omega)),AS (by omega) hN,AS (by omega) hN,AS (by omega) hN,AS (by omega) hN]
 rw[Afa (It (m:=20) (by omega)) (Atq (by omega)) (k.le (by omega)),Afa (It (m:=20) (by omega)) (Atq (by omega)) (k.le (by omega)),Afa hd (Atq (by omega)) (k.le (by omega)),Afa D (Atq (by omega)) (k.le (by omega)),kG,kG,kG,kG]
 cases (p.st.l[h]==2)<;>cases was<;>(try rfl)
 cases decide (p.en.l[h].q+p.re.l[h].q - v<=(u.rampUp:Rat))<;>rfl
def uX(hN:4000<=N)(hf:fit 2000 N)(hs:Bg u=true)(hu:uR u)(ha:u.away.l.length<=1000)(hk:p.st.l.length=n)(he:p.en.l.length=n)(hr:p.re.l.length=n)(hn:n<=1000)(oe:okR p.en.l)(or:okR p.re.l):∀(m h D:Nat)(s:StD),h+m=n->m<D->C4 u s ->
  N4 N K (n:Int) f u.av e p.av D (h:Int) s.av=K (Ab3 u h s (gB u p.st.l h) (MN u p.en.l h) (p.st.l.drop h) (p.en.l.drop h) (p.re.l.drop h)).1 (Ab3 u h s (gB u p.st.l h) (MN u p.en.l h) (p.st.l.drop h) (p.en.l.drop h) (p.re.l.drop h)).2:=by
 intro m
 induction m with
|zero =>
  intro h D s hh Y _
  obtain⟨D,rfl⟩:∃ k,D=k+1:=⟨D - 1,by omega⟩
  rw[N4];unfold Ve
  rw[Rc (by omega),cf,Jx (l:=p.st.l) (by omega),Ab3,show n=h by omega]
  ·intro k ks e es r rs G;cases G
| succ m ih =>
  intro h D s hh Y L
  obtain⟨D,rfl⟩:∃ k,D=k+1:=⟨D - 1,by omega⟩
  rw[N4];unfold Ve
  have G:h<p.st.l.length:=by omega
  have T:h<p.en.l.length:=by omega
  have h3:h<p.re.l.length:=by omega
  rw[Ox (by omega),ct,Ef,ct,IJ,ct,p0,Aa G,ct,Bh G,Cj,gR]
  rw[Fg G,Fg T,Fg h3,Ab3]
  refine Ak2 hs L ha (by omega) (fun I=>?_) (fun t ht=>?_)
  ·rw[I,Au2,ct];rfl
  ·rw[ht,YH,ct,show(!true)=false from rfl,cf,ct,Azh,ct,Azi,Af5 hf hN hu G T h3 oe or,Af6 hf hN hu G T h3 (by omega) oe or]
   dsimp only
   cases P8 u (p.st.l[h]==2) p.en.l[h].q p.re.l[h].q with
   |false=>rfl
   | true =>
    rw[show(!true)=false from rfl,cf]
    cases EK u (gB u p.st.l h) (p.st.l[h]==2) (MN u p.en.l h) p.en.l[h].q p.re.l[h].q with
    |false=>rfl
    |true =>
     rw[show(!true)=false from rfl,cf,Asx,IJ,gR,show ∀ t:StD,((beq (List.length t.av) 2)&&(true&&(!false)))=true from fun _=>rfl,Ak0,wS (by omega),ct,ct,ct,ct]
     rw[ih (h+1) D t (by omega) (by omega) (BL hs L ht).1]
     have w1:gB u p.st.l (h+1)=(p.st.l[h]==2):=by simp[gB,G]
     have w2:MN u p.en.l (h+1)=p.en.l[h].q:=by simp[MN,T]
     rw[w1,w2];rfl
end
end
end Gx
namespace Gx
open Go Go.Proofs
section
variable{R:Type}
def uY(p:PlanD)(c:Int):Bool:=decide ((p.st.l.length:Int)=c)&&(decide ((p.en.l.length:Int)=c)&&decide ((p.re.l.length:Int)=c))
def gT(u:UnitD)(c:Int)(p:PlanD):Int×Int:=cond (A4 u c) (cond (uY p c) (Ab3 u 0 (Ar u) (u.state==2) (u.output:Rat) p.st.l p.en.l p.re.l) (0,4)) (0,1)
def kW(a b:Int):(a != b)=!decide (a=b):=by by_cases h:a=b<;>simp[h]
def gD{u:UnitD}:∀{ks:List Int}{es rs:List RatD}{h:Int}{s:StD}{was:Bool}{v:Rat},es.length=ks.length->rs.length=ks.length->(Ab3 u h s was v ks es rs).2=0->(Cb u h s ks).2=true
|[],_,_,_,_,_,_,_,_,_=>rfl
| k::ks,e::es,r::rs,h,s,was,v,I,L,D=>by
  rw[Ab3]at D
  rw[Cb]
  cases G:Og u h s k with
  |none=>rw[G]at D;simp at D
  | some t =>
   rw[G]at D
   dsimp only at D ⊢
   cases hr:P8 u (k==2) e.q r.q with
   |false=>rw[hr]at D;simp at D
   | true =>
    cases hq:EK u was (k==2) v e.q r.q with
    |false=>rw[hr,hq]at D;simp at D
    |true =>
     rw[hr,hq]at D
     exact gD (by simpa using I) (by simpa using L) D
|k::ks,[],_,_,_,_,_,I,_,_=>by simp at I
|k::ks,e::es,[],_,_,_,_,_,L,_=>by simp at L
def Ald{u:UnitD}:∀{ks:List Int}{es rs:List RatD}{h:Int}{s:StD}{was:Bool}{v:Rat},es.length=ks.length->rs.length=ks.length->(Ab3 u h s was v ks es rs).2=0->∀ i (I:i<ks.length) (L:i<es.length),ks[i]=2->(u.min:Rat)<=es[i].q
|[],_,_,_,_,_,_,_,_,_,i,h,_,_=>by simp at h
| k::ks,e::es,r::rs,h,s,was,v,I,L,D,i,hi,T,Y=>by
  rw[Ab3]at D
  cases G:Og u h s k with
  |none=>rw[G]at D;simp at D
  | some t =>
   rw[G]at D
   dsimp only at D
   cases hr:P8 u (k==2) e.q r.q with
   |false=>rw[hr]at D;simp at D
   | true =>
    cases hq:EK u was (k==2) v e.q r.q with
    |false=>rw[hr,hq]at D;simp at D
    | true =>
     rw[hr,hq]at D
     rcases i with _|i
     ·simp only[A6b]at Y ⊢
      unfold P8 at hr
      rw[show(k==2)=true by simpa using Y]at hr
      simp only[cond_true,A2y,decide_eq_true_eq]at hr
      exact hr.1
     ·exact Ald (by simpa using I) (by simpa using L) D i (by simpa using hi) (by simpa using T) (by simpa using Y)
|k::ks,[],_,_,_,_,_,I,_,_,_,_,_,_=>by simp at I
|k::ks,e::es,[],_,_,_,_,_,L,_,_,_,_,_=>by simp at L
def Ai9(u:UnitD):StD->List StD->Prop
|_,[]=>True
|s,t::r=>t∈Bl u s/\Ai9 u t r
def uZ{u:UnitD}(hs:Bg u=true):∀{ks:List Int}{h:Int}{s:StD},C4 u s->Ai9 u s (Cb u h s ks).1
|[],_,_,_=>trivial
| k::ks,h,s,G=>by
  rw[Cb]
  cases D:Og u h s k with
  |none=>trivial
  |some t =>
   have:=BL hs G D
   exact⟨this.2.2.1,uZ hs this.1⟩
def gF{u:UnitD}:∀{ks:List Int}{h:Int}{s:StD},(Cb u h s ks).2=true->(Cb u h s ks).1.length=ks.length
|[],_,_,_=>rfl
| k::ks,h,s,G=>by
  rw[Cb]at G ⊢
  cases D:Og u h s k with
  |none=>rw[D]at G;cases G
  |some t =>
   rw[D]at G
   dsimp only at G ⊢
   rw[A3a,gF G,A3a]
section
variable{N:Nat}{u:UnitD}{p:PlanD}{f e:Bool}{c:Int}
def TN{K:Int->Int->O R}(hN:4000<=N)(I:fit 2000 N)(L:u.away.l.length<=1000)(oe:okR p.en.l)(or:okR p.re.l):Y8 N u.av f c p.av e K=K (gT u c p).1 (gT u c p).2:=by
 rw[YA];unfold LR gT
 rw[Ef,ct,Cj,Ja (by omega) (by omega) (by omega)]
 cases T:A4 u c with
|false=>rfl
| true =>
  obtain⟨hs,Y,hc⟩:=Bf T
  rw[show(!true)=false from rfl,cf,p0,p1,p2,kW,kW,kW]
  unfold uY
  by_cases k:(p.st.l.length:Int)=c
  ·by_cases D:(p.en.l.length:Int)=c
   ·by_cases G:(p.re.l.length:Int)=c
    ·simp only[k,D,G,decide_true,A5b,beq_self_eq_true,Axj,cf,Bool.and_self,cond_true]
     unfold Ym FU
     rw[Ef,ct,Cj,Uh hs,YH,ct,Asx]
     have:=uX (R:=R) (N:=N) (n:=p.st.l.length) (K:=K) (f:=f) (e:=e) hN I hs Y L rfl (by omega) (by omega) (by omega) oe or p.st.l.length 0 N (Ar u) (by omega) (by omega) (Oa hs)
     rw[k]at this
     exact this
    ·simp[k,D,G]
   ·simp[k,D]
  ·simp[k]
end
end
end Gx
namespace Gx
open Go Go.Proofs
set_option maxRecDepth 100000
section
variable{R:Type}
def At3(u:UnitD)(e r:Rat):Rat:=(u.noLoad:Rat)+Dy (e - (u.min:Rat)) u.segs.l+(u.reservePrice:Rat)*r
def K5(u:UnitD):StD->List StD->List Int->List RatD->List RatD->Rat
|s,t::ts,k::ks,e::es,r::rs=>((L8 u s t:Int):Rat)+cond (k==2) (At3 u e.q r.q) 0+K5 u t ts ks es rs
|_,_,_,_,_=>0
def Qa(u:UnitD):StD->List StD->Int
|_,[]=>0
|s,t::ts=>L8 u s t+Qa u t ts
def Af7(u:UnitD):List Int->List RatD->List RatD->Rat
|k::ks,e::es,r::rs=>cond (k==2) (At3 u e.q r.q) 0+Af7 u ks es rs
|_,_,_=>0
def Af8{u:UnitD}:∀{ts:List StD}{s:StD}{ks:List Int}{es rs:List RatD},ks.length=ts.length->es.length=ts.length->rs.length=ts.length->K5 u s ts ks es rs=((Qa u s ts:Int):Rat)+Af7 u ks es rs
|[],x,[],[],[],_,_,_=>by
  have D:K5 u x [] [] [] []=0:=by rw[K5];intros;simp_all
  have G:Af7 u [] [] []=0:=by rw[Af7];intros;simp_all
  rw[D,G,Qa,A6e];rfl
|t::ts,s,k::ks,e::es,r::rs,D,G,I=>by
  rw[K5,Qa,Af7,Af8 (by simpa using D) (by simpa using G) (by simpa using I),A3y]
  grind
def pj{u:UnitD}(D:uR u)(s t:StD):0<=L8 u s t/\L8 u s t<=1048576:=by
 unfold uR at D;unfold L8
 cases (s.k==0&&!(t.k==0))<;>cases decide (s.h<=u.hotHours)<;>simp<;>omega
def Ale{u:UnitD}{c:Int}{e:Rat}(k:A4 u c=true)(G:qm e<=5):qm (Dy (e - (u.min:Rat)) u.segs.l)<=600:=by
 have I:=E6 k
 have D:=Hf k
 have hq:qm (e - (u.min:Rat))<=8:=by have:=Om e (u.min:Rat);have:=qi (v:=u.min) (by omega);omega
 have:=uD (A:=8) u.segs.l _ (VI k) (by omega) hq
 have L:u.segs.l.length*(8+3*u.segs.l.length+31)<=8*(8+24+31):=A46 D.1 (by omega)
 omega
def Awr(s:StD):((beq (List.length s.av) 2)&&(true&&(!false)))=true:=rfl
section
variable{N n:Nat}{u:UnitD}{p:PlanD}{f e:Bool}{c:Int}
def Arx{K:Int->O R}{ts:List StD}(hN:1100<=N)(hs:Bg u=true)(hu:uR u)(ht:ts.length<=1000):∀(m h D:Nat)(s:StD)(g:Int),h+m=ts.length->m<D->C4 u s->Ai9 u s (ts.drop h)->(0<=g/\g<=1048576*(h:Int)) ->
  Er N K ts.length f u.av (ts.flatMap StD.av) D g (h:Int) s.av=K (g+Qa u s (ts.drop h)):=by
 intro m
 induction m with
|zero =>
  intro h D s g hh Y _ _ _
  obtain⟨D,rfl⟩:∃ k,D=k+1:=⟨D - 1,by omega⟩
  rw[Er];unfold Kd
  rw[Rc (by omega),cf,Jx (l:=ts) (by omega),Qa,Int.add_zero]
|succ m ih =>
  intro h D s g hh Y I G hg
  obtain⟨D,rfl⟩:∃ k,D=k+1:=⟨D - 1,by omega⟩
  rw[Er];unfold Kd
  have L:h<ts.length:=by omega
  have hsr:=pj hu s ts[h]
  rw[Fg L]at G
  have T:C4 u ts[h]:=BK hs I _ G.1
  rw[Ox L,ct,Ef,ct,IJ,ct,Aa L,ct,kQ L,MD,ct,Cj,gR,ME,pG hN hs I G.1]
  simp only[ct,Awr,Ak0]
  rw[i64 (by omega),wS (by omega),ih (h+1) D ts[h] _ (by omega) (by omega) T G.2 (by omega),Fg L,Qa,A9l]
def pH{K:Int->O R}{ks:List Int}{i j:Bool}(hN:1100<=N)(hs:Bg u=true)(D:uR u)(G:u.away.l.length<=1000)(I:ks.length<=1000)(k:(Cb u 0 (Ar u) ks).2=true):Mx N u.av f (Am ks) ks.length i j K=K (Qa u (Ar u) (Cb u 0 (Ar u) ks).1):=by
 rw[AW];unfold Pm
 rw[Ef,ct,Cj]
 refine EJ hN hs G I rfl (fun _=>?_) (fun h=>by rw[k]at h;cases h)
 rw[ct,Uh hs,YH,ct,Asx]
 have L:=gF k
 have:=Arx (R:=R) (N:=N) (K:=K) (f:=f) (ts:=(Cb u 0 (Ar u) ks).1) hN hs D (by omega) (Cb u 0 (Ar u) ks).1.length 0 N (Ar u) 0 (by omega) (by omega) (Oa hs) (by rw[A3m];exact uZ hs (Oa hs)) (by omega)
 rw[A3m,Int.zero_add,L]at this
 exact this
def w9{K:LA->Int->O R}(hN:4000<=N)(T:fit 1000000 N)(Y:A4 u c=true)(hc:c=n)(hk:p.st.l.length=n)(he:p.en.l.length=n)(hr:p.re.l.length=n)(oe:okR p.en.l)(or:okR p.re.l)(hmin:∀ i (G:i<p.st.l.length) (L:i<p.en.l.length),p.st.l[i]=2->(u.min:Rat)<=p.en.l[i].q):∀(m h D:Nat)(q:Rat),h+m=n->m<D->qm q<=2+h*700 ->
  My N K c f u.av e p.av D (h:Int) (bO q).av=K (bO (q+Af7 u (p.st.l.drop h) (p.en.l.drop h) (p.re.l.drop h))).av 0:=by
 obtain⟨hs,hu,hc24⟩:=Bf Y
 intro m
 induction m with
|zero =>
  intro h D q hh hfu _
  obtain⟨D,rfl⟩:∃ k,D=k+1:=⟨D - 1,by omega⟩
  rw[My];unfold Yp
  rw[show decide ((h:Int)<c)=false by simp;omega,cf,Jx (l:=p.st.l) (by omega),Af7,A6e]
  ·rfl
  ·intro k ks e es r rs G;cases G
| succ m ih =>
  intro h D q hh hfu hq
  obtain⟨D,rfl⟩:∃ k,D=k+1:=⟨D - 1,by omega⟩
  rw[My];unfold Yp
  have G:h<p.st.l.length:=by omega
  have L:h<p.en.l.length:=by omega
  have h3:h<p.re.l.length:=by omega
  have e1:=oe.at L
  have r1:=or.at h3
  have hu':=hu
  unfold uR at hu'
  have hhn:h*700<=24*700:=A2x _ (by omega)
  rw[show decide ((h:Int)<c)=true by simp;omega,ct,p0,Aa G,ct,Bh G,wS (by omega)]
  rw[Fg G,Fg L,Fg h3,Af7]
  by_cases I:p.st.l[h]=2
  ·rw[show(p.st.l[h]==2)=true by simpa using I,ct,cond_true]
   simp only[b3,Y9,ct,Ef,Cj,u5,Ax6,p1,p2,Aa L,Aa h3,P6 L,P6 h3,OR,Wy]
   have hqn:=qi (v:=u.noLoad) (by omega)
   have hqp:=qi (v:=u.reservePrice) (by omega)
   have hq1:=Fz q (u.noLoad:Rat)
   rw[AS (by omega) hN,Afb (It hq) (It hqn) (T.le (by omega)),Abd e1 (VI Y) (Hf Y).1 (by omega) (T.le (by omega)) hN,AS (by omega) hN]
   have hp:0<=p.en.l[h].q - (u.min:Rat):=(A7k _ _).1 (hmin h G L I)
   rw[Aff (fun s hs=>by have:=p_ (Hf Y).2.1 s hs;omega) hp]
   have hqs:=Ale (e:=p.en.l[h].q) Y (by have:=e1.qm;omega)
   have hqm:=Kb ((u.reservePrice:Int):Rat) p.re.l[h].q
   have hqr:=r1.qm
   rw[Awa (It hqp) r1 (T.le (by omega))]
   have hq2:=Fz (Dy (p.en.l[h].q - (u.min:Rat)) u.segs.l) ((u.reservePrice:Rat)*p.re.l[h].q)
   rw[Afb (It hqs) (It (m:=7) (by omega)) (T.le (by omega))]
   rw[Afb (It (m:=2+h*700+3) (by omega)) (It (m:=608) (by omega)) (T.le (by omega))]
   have hq3:=Fz (q+(u.noLoad:Rat)) (Dy (p.en.l[h].q - (u.min:Rat)) u.segs.l+(u.reservePrice:Rat)*p.re.l[h].q)
   simp only[Axp,ct,Ant]
   rw[ih (h+1) D _ (by omega) (by omega) (by rw[A23];omega)]
   congr 2
   unfold At3
   grind
  ·rw[show(p.st.l[h]==2)=false by simpa using I,cf,cond_false,A79,ih (h+1) D q (by omega) (by omega) (by rw[A23];omega)]
def Af9(h:(gT u c p).2=0):A4 u c=true/\uY p c=true/\(Ab3 u 0 (Ar u) (u.state==2) (u.output:Rat) p.st.l p.en.l p.re.l).2=0:=by
 unfold gT at h
 cases k:A4 u c with
|false=>rw[k]at h;simp at h
|true =>
  cases D:uY p c with
  |false=>rw[k,D]at h;simp at h
  |true=>rw[k,D]at h;exact⟨rfl,rfl,h⟩
def Abw(h:uY p c=true):(p.st.l.length:Int)=c/\(p.en.l.length:Int)=c/\(p.re.l.length:Int)=c:=by simpa[uY]using h
def Aga(u:UnitD)(c:Int)(p:PlanD):Rat:=cond ((gT u c p).2==0) (K5 u (Ar u) (Cb u 0 (Ar u) p.st.l).1 p.st.l p.en.l p.re.l) 0
def Agb{X:O R}{K:LA->Int->O R}(hN:4000<=N)(I:fit 1000000 N)(L:u.away.l.length<=1000)(oe:okR p.en.l)(or:okR p.re.l)(h:∀ d:RatD,d.is (Aga u c p) (qm (Aga u c p))->K d.av (gT u c p).2=X):SZ N u.av f c p.av e K=X:=by
 rw[fO];unfold VH
 rw[Ef,ct,Azh,ct,Cj,Azi,TN hN (I.le (by omega)) L oe or]
 by_cases k:(gT u c p).2=0
 ·obtain⟨T,hl,D⟩:=Af9 k
  obtain⟨hs,Y,hc⟩:=Bf T
  obtain⟨l1,l2,l3⟩:=Abw hl
  have hw:=gD (by omega) (by omega) D
  have hwl:=gF hw
  rw[show((gT u c p).2 != 0)=false by simp[k],cf,ct,p0,pH (by omega) hs Y L (by omega) hw]
  have G:∀(ts:List StD)(s:StD),ts.length<=24->-9223372036854775808<=Qa u s ts/\Qa u s ts<=9223372036854775807:=by
   have key:∀(ts:List StD)(s:StD),0<=Qa u s ts/\Qa u s ts<=1048576*(ts.length:Int):=by
    intro ts
    induction ts with
    |nil=>intro s;simp[Qa]
    |cons t ts ih=>intro s;have:=ih t;have:=pj Y s t;simp only[Qa,A3a];omega
   intro ts s ht
   have:=key ts s;omega
  have hb:=G (Cb u 0 (Ar u) p.st.l).1 (Ar u) (by omega)
  rw[AS hb hN,c3,ct]
  have:=w9 (R:=R) (N:=N) (n:=p.st.l.length) (K:=K) (f:=f) (e:=e) hN I T (by omega) rfl (by omega) (by omega) oe or (Ald (by omega) (by omega) D) p.st.l.length 0 N ((Qa u (Ar u) (Cb u 0 (Ar u) p.st.l).1:Int):Rat) (by omega) (by omega) (by have:=qi hb;omega)
  simp only[A3m]at this
  refine Eq.trans this ?_
  rw[<-Af8 (by omega) (by omega) (by omega)]
  have e:Aga u c p=K5 u (Ar u) (Cb u 0 (Ar u) p.st.l).1 p.st.l p.en.l p.re.l:=by unfold Aga;rw[k];rfl
  have:=h (bO (Aga u c p)) (It (A2s _))
  rw[k,e]at this;exact this
 ·rw[show((gT u c p).2 != 0)=true by simp[k],ct]
  have e:Aga u c p=0:=by unfold Aga;rw[show((gT u c p).2==0)=false by simpa using k];rfl
  exact h Ae9 (by rw[e];exact p9)
end
end
end Gx
namespace Gx
open Go Go.Proofs
set_option maxRecDepth 100000
noncomputable section
variable{R:Type}(N:Nat)
def H6(r0:N6 (L6 (L6 (O R))))(r a:Int)(q:LA)(ab:Nat)(i:LA)(j:Nat)(l m:Bool)(b c d f g h:Nat)(s:RB)(o aa:LA)(k1:Int->Int->N6 (L6 (L6 (O R))))(ba z:Int)(ae af ag ah ai aj:Nat)(au av aw ax ay az ak al am ap aq ar:LA):O R:=(cond (decide (z<ba)) (cond (Ab z ab) (cond (ble 2 ((q.drop (z.toNat*2)).length)) (cond ((beq (((q.drop (z.toNat*2)).take 2).length) 2)&&((ble 2 2)&&(!false))) (cond (ble 3 aa.length) (cond (ble 2 o.length) (cond (ble 2 ((zS ((q.drop (z.toNat*2)).take 2)).length)) (Yq N (Amc s) (s.so||(s.ao||false)) (o.take 2) false ((zS ((q.drop (z.toNat*2)).take 2)).take 2) false fun bh=>A7 N bh fun bi=>Wn N (aa.take 3) false bi false fun bb=>Wg bb fun bc=>Dd 1 (bb.drop 1) fun bd be=>Dd 1 (bb.drop 2) fun bf bg=>cond ((beq bb.length 3)&&(true&&(beq 3 3&&ble 4 7))) (Aj .i64 (zS ((q.drop (z.toNat*2)).take 2)) fun bj=>Jg N r bj i j l m b c d f g h au av aw ax ay az (Agz s ae af ag ah ai aj ak al am ap aq ar) fun bk=>cond (!bk) (k1 ba (wrap .i64 (z+1)) ae af ag ah ai aj au av aw ax ay az ak al am ap aq ar) (Aj .i64 (zS ((q.drop (z.toNat*2)).take 2)) fun bl=>cond (bl==2) (cond (ble 2 ((zS ((q.drop (z.toNat*2)).take 2)).length)) (F9 N r ((zS ((q.drop (z.toNat*2)).take 2)).take 2) [.bool true,.bool bc,.imm bd be 1 false false,.imm bf bg 1 false false,.int .i64 r,.int .i64 a,.bool true] i j l m b c d f g h au av aw ax ay az (Agz s ae af ag ah ai aj ak al am ap aq ar) fun bm bn bo bp bq br bs bt bv bw bx bz ca cb cd ce cf cg=>k1 ba (wrap .i64 (z+1)) bm bn bo bp bq br bs bt bv bw bx bz ca cb cd ce cf cg) none) (Aj .i64 o fun ch=>cond ((ch==2)==true) (cond (cond true (decide (s.uo>s.tr)) false) (k1 ba (wrap .i64 (z+1)) ae af ag ah ai aj au av aw ax ay az ak al am ap aq ar) (cond (ble 2 ((zS ((q.drop (z.toNat*2)).take 2)).length)) (Fa N (wrap .i64 (r+1)) ((zS ((q.drop (z.toNat*2)).take 2)).take 2) [.bool true,.bool bc,.imm bd be 1 false false,.imm bf bg 1 false false,.int .i64 r,.int .i64 a,.bool false] i j l m b c d f g h au av aw ax ay az (Agz s ae af ag ah ai aj ak al am ap aq ar) fun ci cj ck cl cm cn=>k1 ba (wrap .i64 (z+1)) ae af ag ah ai aj ci cj ck cl cm cn ak al am ap aq ar) none)) (cond (ble 2 ((zS ((q.drop (z.toNat*2)).take 2)).length)) (Fa N (wrap .i64 (r+1)) ((zS ((q.drop (z.toNat*2)).take 2)).take 2) [.bool true,.bool bc,.imm bd be 1 false false,.imm bf bg 1 false false,.int .i64 r,.int .i64 a,.bool false] i j l m b c d f g h au av aw ax ay az (Agz s ae af ag ah ai aj ak al am ap aq ar) fun co cp cq cr cs ct=>k1 ba (wrap .i64 (z+1)) ae af ag ah ai aj co cp cq cr cs ct ak al am ap aq ar) none)))) none) none) none) none) none) none) none) (r0 ae af ag ah ai aj au av aw ax ay az ak al am ap aq ar))
def C3(r0:N6 (L6 (L6 (O R))))(r a:Int)(q:LA)(ab:Nat)(i:LA)(j:Nat)(l m:Bool)(b c d f g h:Nat)(s:RB)(o aa:LA):Nat->Int->Int->N6 (L6 (L6 (O R)))
|0=>fun _ _ _ _ _ _ _ _ _ _ _ _ _ _ _ _ _ _ _ _=>none
|n+1=>H6 N r0 r a q ab i j l m b c d f g h s o aa (C3 r0 r a q ab i j l m b c d f g h s o aa n)
def M8(r0:N6 (L6 (L6 (O R))))(a:Int)(i:LA)(j:Nat)(l m:Bool)(b c d f g h:Nat)(s:RB)(t u v w x y o:LA)(q1:Int->LA->Nat->LA->Int->Int->N6 (L6 (L6 (O R))))(r:Int)(aa:LA):O R:=(cond (ble 2 o.length) (LW N (Amc s) (s.so||(s.ao||false)) (o.take 2) false fun q ab=>q1 r q ab aa (ab:Int) 0 s.na s.nb s.nc s.nd s.ne s.nf t u v w x y s.ka s.kb s.kc s.kd s.ke s.kf) none)
def I3(r0:N6 (L6 (L6 (O R))))(a:Int)(i:LA)(j:Nat)(l m:Bool)(b c d f g h:Nat)(s:RB)(t u v w x y o:LA)(r:Int)(aa:LA):O R:=M8 N r0 a i j l m b c d f g h s t u v w x y o (fun r q ab aa=>C3 N r0 r a q ab i j l m b c d f g h s o aa N) r aa
def Mb(N:Nat)(r0:N6 (L6 (L6 (O R))))(q0:Int->LA->O R)(ad a:Int)(o i:LA)(j:Nat)(l m:Bool)(b c d f g h:Nat)(t u v w x y:LA)(s:RB):O R:=(Aht ad fun i0=>cond (Ab a (v6 i0 b c d f g h)) (cond (ble 3 (((v6 i0 t u v w x y).drop ((0+(a.toNat*7))+1)).length)) (cond ((beq 0 0)&&((beq ((((v6 i0 t u v w x y).drop ((0+(a.toNat*7))+1)).take 3).length) 3)&&(beq 3 3))) (q0 (iI i0) (((v6 i0 t u v w x y).drop ((0+(a.toNat*7))+1)).take 3)) none) none) none)
def Jp:=(shut fun N ad a o i j l m b c d f g h t u v w x y s r0=>Mb (R:=R) N r0 (I3 N r0 a i j l m b c d f g h s t u v w x y o) ad a o i j l m b c d f g h t u v w x y s).1
def V9(ad a o i j l m b c d f g h t u v w x y s r0):(@Jp R N ad a o i j l m b c d f g h t u v w x y s r0)=(Mb N r0 (I3 N r0 a i j l m b c d f g h s t u v w x y o) ad a o i j l m b c d f g h t u v w x y s):=by rw[Jp,(shut _).2]
def Xq:Hints:={H:=hK 1 (hJ [0,1,2,7,8] hL (hK 1 (hS (hP [0,1,2,7,8,30,31,32] hL) hL))),free:=[100008,100009,100010,100011,100012,100013],cob:=[6000013]}
def BQ:Oe:=[kK N,uH N,Cp N,G_ N,HY N,PJ N,BP N]
def Xr(F:KF R):=Iv Tryz.f54 Xq (BQ N) [100000,100001,100002,100003,100004,100005,100006,100007,100008,100009,100010,100011,100012,100013] N F
def WE(r a:Int)(q:LA)(ab:Nat)(i:LA)(j:Nat)(l m:Bool)(b c d f g h:Nat)(s:RB)(o aa:LA)(K:St->O R):=fun ba z ae af ag ah ai aj au av aw ax ay az ak al am ap aq ar=>K ⟨[(0,.optr 100000 0),(1,iv r),(2,iv a),(7,op 0),(8,op 1),(30,.imm q ab 2 false false),(31,iv ba),(32,iv z)],[(100000,bN 0 [.optr 100001 0,.imm i j 1 l m,.own 100002 0 b,.own 100003 0 c,.own 100004 0 d,.own 100005 0 f,.own 100006 0 g,.own 100007 0 h,.nsl,.nsl,.nsl,.nsl,.nsl,.nsl,.nsl,.nsl,.nsl,.nsl,.nsl,.nsl,.nsl,.nsl,.nsl,.nsl,.nsl,.nsl,.nsl]),(100001,bN 0 (Zt 300001 {s with na:=ae,nb:=af,nc:=ag,nd:=ah,ne:=ai,nf:=aj})),(100002,bQ 7 au),(100003,bQ 7 av),(100004,bQ 7 aw),(100005,bQ 7 ax),(100006,bQ 7 ay),(100007,bQ 7 az),(300000,bQ 0 o),(300001,bQ 0 aa),(300002,bQ 2 ak),(300003,bQ 2 al),(300004,bQ 2 am),(300005,bQ 2 ap),(300006,bQ 2 aq),(300007,bQ 2 ar)]⟩
def WF(a:Int)(i:LA)(j:Nat)(l m:Bool)(b c d f g h:Nat)(s:RB)(t u v w x y o:LA)(K:St->O R):=fun r aa=>K ⟨[(0,.optr 100000 0),(1,iv r),(2,iv a),(7,op 0),(8,op 1)],[(100000,bN 0 [.optr 100001 0,.imm i j 1 l m,.own 100002 0 b,.own 100003 0 c,.own 100004 0 d,.own 100005 0 f,.own 100006 0 g,.own 100007 0 h,.nsl,.nsl,.nsl,.nsl,.nsl,.nsl,.nsl,.nsl,.nsl,.nsl,.nsl,.nsl,.nsl,.nsl,.nsl,.nsl,.nsl,.nsl,.nsl]),(100001,bN 0 (Zt 300001 s)),(100002,bQ 7 t),(100003,bQ 7 u),(100004,bQ 7 v),(100005,bQ 7 w),(100006,bQ 7 x),(100007,bQ 7 y),(300000,bQ 0 o),(300001,bQ 0 aa),(300002,bQ 2 s.ka),(300003,bQ 2 s.kb),(300004,bQ 2 s.kc),(300005,bQ 2 s.kd),(300006,bQ 2 s.ke),(300007,bQ 2 s.kf)]⟩
def MO(F:KF R)(r a q ab i j l m b c d f g h s o aa):∀ n,WE r a q ab i j l m b c d f g h s o aa (Ao (Xr N F (pz 340) []) n)=(C3 N (Zu i j l m b c d f g h s F) r a q ab i j l m b c d f g h s o aa n):=Gu fun n e=>(B6 (H6 N (Zu i j l m b c d f g h s F) r a q ab i j l m b c d f g h s o aa) e:_)
def MP(F:KF R)(a i j l m b c d f g h s t u v w x y o):WF a i j l m b c d f g h s t u v w x y o (A1 (Xr N F (pz 21) []))=(I3 N (Zu i j l m b c d f g h s F) a i j l m b c d f g h s t u v w x y o):=(B6 (M8 N (Zu i j l m b c d f g h s F) a i j l m b c d f g h s t u v w x y o) (Aoq fun r q ab aa=>(lW ..).trans (MO ..)):_)
def bB:=Cc N 54 (BQ N) Xq (Asr Es fun
|[.optr 100000 0,.int .i64 ad,.int .i64 a,.pagg o false],p=>some fun _ k=>Jp N ad a o p.2.1 p.2.2.1 p.2.2.2.1 p.2.2.2.2.1 p.2.2.2.2.2.1 p.2.2.2.2.2.2.1 p.2.2.2.2.2.2.2.1 p.2.2.2.2.2.2.2.2.1 p.2.2.2.2.2.2.2.2.2.1 p.2.2.2.2.2.2.2.2.2.2.1 p.2.2.2.2.2.2.2.2.2.2.2.1 p.2.2.2.2.2.2.2.2.2.2.2.2.1 p.2.2.2.2.2.2.2.2.2.2.2.2.2.1 p.2.2.2.2.2.2.2.2.2.2.2.2.2.2.1 p.2.2.2.2.2.2.2.2.2.2.2.2.2.2.2.1 p.2.2.2.2.2.2.2.2.2.2.2.2.2.2.2.2 p.1 (Zu p.2.1 p.2.2.1 p.2.2.2.1 p.2.2.2.2.1 p.2.2.2.2.2.1 p.2.2.2.2.2.2.1 p.2.2.2.2.2.2.2.1 p.2.2.2.2.2.2.2.2.1 p.2.2.2.2.2.2.2.2.2.1 p.2.2.2.2.2.2.2.2.2.2.1 p.1 k)
| _,_=>none) (Axi E7 fun _ p=>by obtain⟨s,i,j,l,m,b,c,d,f,g,h,t,u,v,w,x,y⟩:=p;split;rename_i ad a o;intro R F;exact(B6 (Mb N (Zu i j l m b c d f g h s F) · ad a o i j l m b c d f g h t u v w x y s) ((jW ..).trans (MP ..)):_).trans (V9 ..).symm;trivial)
def EQ(r0:Nat->Nat->Nat->LA->LA->LA->O R)(a:Int)(k0:Int->Nat->Nat->Nat->LA->LA->LA->O R)(f:Int)(b c d:Nat)(g h i:LA):O R:=(cond (decide (f<a)) (cond ((ble (b+1) 140737488355328)&&(ble ((b+1)*8) 140737488355328)) (A7 N 0 fun j=>cond ((beq j.length 3)&&(ble 3 3)) (cond ((ble (c+1) 140737488355328)&&(ble ((c+1)*56) 140737488355328)) (A7 N 0 fun l=>cond ((beq l.length 3)&&(ble 3 3)) (cond ((ble (d+1) 140737488355328)&&(ble ((d+1)*56) 140737488355328)) (k0 (wrap .i64 (f+1)) (b+1) (c+1) (d+1) ((g.take (b*1))++[Bbr]) ((h.take (c*3))++((setCells [.bool false,.nsl,.nsl] 0 j).take 3)) ((i.take (d*3))++((setCells [.bool false,.nsl,.nsl] 0 l).take 3))) none) none) none) none) none) (r0 b c d g h i))
def Qb(r0:Nat->Nat->Nat->LA->LA->LA->O R)(a:Int):Nat->Int->Nat->Nat->Nat->LA->LA->LA->O R
|0=>fun _ _ _ _ _ _ _=>none
|n+1=>EQ N r0 a (Qb r0 a n)
def gG(N:Nat)(r0:Nat->Nat->Nat->LA->LA->LA->O R)(q0:Int->Nat->Nat->Nat->LA->LA->LA->O R)(a:Int):O R:=(q0 0 0 0 0 [] [] [])
def gH:=(shut fun N a r0=>gG (R:=R) N r0 (Qb N r0 a N) a).1
def nX(a r0):(@gH R N a r0)=(gG N r0 (Qb N r0 a N) a):=by rw[gH,(shut _).2]
def u_:Hints:={H:=hK 2 (hS (hK 1 (hS (hP [2,3,4,5] hL) hL)) hL),modes:=[(0,0)],cob:=[1000002,1000003]}
def y8:Oe:=[Cp N]
def Aja(F:KF R):=Iv Tryz.f86 u_ (y8 N) [] N F
def MQ(F:KF R):Nat->Nat->Nat->LA->LA->LA->O R:=fun m o p q r s=>F (.agg [Bbq 0 m,Bbq 1 o,Bbq 2 p]) (hq [bQ 1 q,bQ 3 r,bQ 3 s])
def Ajb(a:Int)(K:St->O R):=fun f b c d g h i=>K ⟨[(2,op 0),(3,op 1),(4,iv a),(5,iv f)],hq [bN 0 [Bbq 2 0,Bbq 3 0,Bbq 4 0],bN 0 [Bbq 5 b,Bbq 6 c,Bbq 7 d],bQ 1 [],bQ 3 [],bQ 3 [],bQ 1 g,bQ 3 h,bQ 3 i]⟩
def w_(F:KF R)a:∀ n,Ajb a (Ao (Aja N F (pz 1348) []) n)=(Qb N (MQ F) a n):=Gu fun n e=>(B6 (EQ N (MQ F) a) e:_)
def Aob:=Cc N 86 (y8 N) u_ (fun
|[.int .i64 a],[]=>some fun _ k=>gH N a (MQ k)
| _,_=>none) fun _ _=>by split;intro R F;exact(B6 (gG N (MQ F) · _) ((lW ..).trans (w_ ..)):_).trans (nX ..).symm;trivial
def H7(k0:Int->Int->Int->LA->LA->LA->O R)(r0:N6 (L6 (LA->LA->LA->O R)))(s:RB)(a b c d g i u v w:Nat)(j l m o r t y z aa:LA)(am an ad ao ap:Int)(aj ak al:LA):O R:=(cond (Ab ad u) (cond ((beq 1 1)&&((ble ((0+(ad.toNat*1))+1) aj.length)&&(!false))) (A7 N an fun aq=>A7 N ap fun ar=>cond (Ab ad v) (cond ((beq aq.length 3)&&((ble ((0+(ad.toNat*3))+3) ak.length)&&(!false))) (cond (Ab ad w) (cond ((beq ar.length 3)&&((ble ((0+(ad.toNat*3))+3) al.length)&&(!false))) (k0 am ao (wrap .i64 (ad - 1)) (aj.set (0+(ad.toNat*1)) (.int .i64 2)) (setCells ak (0+(ad.toNat*3)) aq) (setCells al (0+(ad.toNat*3)) ar)) none) none) none) none) none) none)
def BR(r0:N6 (L6 (LA->LA->LA->O R)))(s:RB)(a b c d g i u v w:Nat)(j l m o r t y z aa:LA)(k0:Int->Int->Int->LA->LA->LA->O R)(q1:Int->Int->Int->Int->Int->LA->LA->LA->O R)(ac ab x:Int)(ae af ag:LA):O R:=(cond (decide (x>=ac)) (cond (decide (x>ac)) (Aht ac fun i0=>cond (Ab (wrap .i64 ((wrap .i64 (x - (iI i0))) - 1)) (v6 i0 a b c d g i)) (cond (ble 2 (((v6 i0 j l m o r t).drop (0+(((wrap .i64 ((wrap .i64 (x - (iI i0))) - 1)).toNat)*2))).length)) (Fi N (Amb s (j.take (a*2)) a (l.take (b*2)) b (m.take (c*2)) c (o.take (d*2)) d (r.take (g*2)) g (t.take (i*2)) i) true x (((v6 i0 j l m o r t).drop (0+(((wrap .i64 ((wrap .i64 (x - (iI i0))) - 1)).toNat)*2))).take 2) false fun au av=>cond (av||false) none (Ea N (Amb s (j.take (a*2)) a (l.take (b*2)) b (m.take (c*2)) c (o.take (d*2)) d (r.take (g*2)) g (t.take (i*2)) i) true au false ab fun aw ax=>q1 (iI i0) ab x aw ax ae af ag)) none) none) (Do N (Amb s (j.take (a*2)) a (l.take (b*2)) b (m.take (c*2)) c (o.take (d*2)) d (r.take (g*2)) g (t.take (i*2)) i) true ac fun bs=>cond bs (E9 N (Amb s (j.take (a*2)) a (l.take (b*2)) b (m.take (c*2)) c (o.take (d*2)) d (r.take (g*2)) g (t.take (i*2)) i) true fun bt=>Fi N (Amb s (j.take (a*2)) a (l.take (b*2)) b (m.take (c*2)) c (o.take (d*2)) d (r.take (g*2)) g (t.take (i*2)) i) true x bt false fun bu bv=>cond (bv||false) none (Ea N (Amb s (j.take (a*2)) a (l.take (b*2)) b (m.take (c*2)) c (o.take (d*2)) d (r.take (g*2)) g (t.take (i*2)) i) true bu false ab fun bw bx=>q1 ac ab x bw bx ae af ag)) (F3 N (Amb s (j.take (a*2)) a (l.take (b*2)) b (m.take (c*2)) c (o.take (d*2)) d (r.take (g*2)) g (t.take (i*2)) i) true x fun bz=>Rf N bz false fun ca=>cond (decide (ca>0)) (q1 ac ab x 0 (Cn s.rs (wrap .i64 (s.sr - ab))) ae af ag) (q1 ac ab x 0 0 ae af ag)))) (r0 a b c d g i ae af ag j l m o r t))
def C5(r0:N6 (L6 (LA->LA->LA->O R)))(s:RB)(a b c d g i u v w:Nat)(j l m o r t y z aa:LA):Nat->Int->Int->Int->LA->LA->LA->O R
|0=>fun _ _ _ _ _ _=>none
|n+1=>BR N r0 s a b c d g i u v w j l m o r t y z aa (C5 r0 s a b c d g i u v w j l m o r t y z aa n) (H7 N (C5 r0 s a b c d g i u v w j l m o r t y z aa n) r0 s a b c d g i u v w j l m o r t y z aa)
def Po(r0:N6 (L6 (LA->LA->LA->O R)))(q0:N6 (L6 (Int->Int->Int->LA->LA->LA->O R)))(ah ai:Int)(u v w:Nat)(y z aa:LA)(s:RB):O R:=(Ln N ah ai s fun cb cc a b c d g i j l m o r t=>cond (!cc) (r0 a b c d g i y z aa j l m o r t) (q0 a b c d g i j l m o r t ah cb ai y z aa))
def M9:=(shut fun N ah ai u v w y z aa s r0=>Po (R:=R) N r0 (fun a b c d g i j l m o r t=>C5 N r0 s a b c d g i u v w j l m o r t y z aa N) ah ai u v w y z aa s).1
def BS(ah ai u v w y z aa s r0):(@M9 R N ah ai u v w y z aa s r0)=(Po N r0 (fun a b c d g i j l m o r t=>C5 N r0 s a b c d g i u v w j l m o r t y z aa N) ah ai u v w y z aa s):=by rw[M9,(shut _).2]
def ER:Hints:={H:=hK 3 (hS (hP [0,1,2,8,10] (hK 1 (hS (hS (hK 1 (hJ [0,1,2,8,10,11,12] hL hL)) hL) hL))) hL),cob:=[6000037]}
def IH:Oe:=[OT N,IA N,BB N,Ta N,BI N,R5 N,GX N,Cp N]
def ES(F:KF R):=Iv Tryz.f87 ER (IH N) [100000,100001,100002,100003,100004,100005,100006,100007,100008,100009,100010] N F
def H8(u v w:Nat)(s:RB)(F:KF R):N6 (L6 (LA->LA->LA->O R)):=fun cd ce cf cg ch ci cj ck cl cm cn co cp cq cr=>F (.tup []) [(100000,bN 0 (Zt 299999 {s with na:=cd,nb:=ce,nc:=cf,nd:=cg,ne:=ch,nf:=ci})),(100001,bN 0 [.own 100008 0 u,.own 100009 0 v,.own 100010 0 w]),(100008,bQ 1 cj),(100009,bQ 3 ck),(100010,bQ 3 cl),(300000,bQ 2 cm),(300001,bQ 2 cn),(300002,bQ 2 co),(300003,bQ 2 cp),(300004,bQ 2 cq),(300005,bQ 2 cr)]
def gI(s:RB)(a b c d g i u v w:Nat)(j l m o r t y z aa:LA)(K:St->O R):=fun am an ad ao ap aj ak al=>K ⟨[(0,.optr 100000 0),(1,.optr 100001 0),(2,iv am),(8,iv an),(10,iv ad),(11,iv ao),(12,iv ap)],[(100000,bN 0 (Zt 299999 {s with na:=a,nb:=b,nc:=c,nd:=d,ne:=g,nf:=i})),(100001,bN 0 [.own 100008 0 u,.own 100009 0 v,.own 100010 0 w]),(100008,bQ 1 aj),(100009,bQ 3 ak),(100010,bQ 3 al),(300000,bQ 2 j),(300001,bQ 2 l),(300002,bQ 2 m),(300003,bQ 2 o),(300004,bQ 2 r),(300005,bQ 2 t)]⟩
def ET(s:RB)(a b c d g i u v w:Nat)(j l m o r t y z aa:LA)(K:St->O R):=fun ac ab x ae af ag=>K ⟨[(0,.optr 100000 0),(1,.optr 100001 0),(2,iv ac),(8,iv ab),(10,iv x)],[(100000,bN 0 (Zt 299999 {s with na:=a,nb:=b,nc:=c,nd:=d,ne:=g,nf:=i})),(100001,bN 0 [.own 100008 0 u,.own 100009 0 v,.own 100010 0 w]),(100008,bQ 1 ae),(100009,bQ 3 af),(100010,bQ 3 ag),(300000,bQ 2 j),(300001,bQ 2 l),(300002,bQ 2 m),(300003,bQ 2 o),(300004,bQ 2 r),(300005,bQ 2 t)]⟩
def TO Q0 (F:KF R) (s a b c d g i u v w j l m o r t y z aa):gI s a b c d g i u v w j l m o r t y z aa (A1 (ES N F (pz 1392901) [Q0]))=(H7 N (ET s a b c d g i u v w j l m o r t y z aa Q0) (H8 u v w s F) s a b c d g i u v w j l m o r t y z aa):=by kernel_rfl
def TP(F:KF R)(s a b c d g i u v w j l m o r t y z aa):∀ n,ET s a b c d g i u v w j l m o r t y z aa (Ao (ES N F (pz 340) []) n)=(C5 N (H8 u v w s F) s a b c d g i u v w j l m o r t y z aa n):=Gu fun n e=>(QH (BR N (H8 u v w s F) s a b c d g i u v w j l m o r t y z aa) e ((jW ..).trans ((TO ..).trans (xP (H7 _ · _ _ _ _ _ _ _ _ _ _ _ _ _ _ _ _ _ _ _ _) e))):_)
def bC:RB×Nat×Nat×Nat×LA×LA×LA->Ap
|(s,u,v,w,y,z,aa)=>[(100000,Azf (Zt 100001 s)),(100001,⟨false,false,false,false,0,[.own 100008 0 u,.own 100009 0 v,.own 100010 0 w],false,none⟩),(100002,zW 2 s.ka),(100003,zW 2 s.kb),(100004,zW 2 s.kc),(100005,zW 2 s.kd),(100006,zW 2 s.ke),(100007,zW 2 s.kf),(100008,⟨false,false,true,false,1,y,false,none⟩),(100009,⟨false,false,true,false,3,z,false,none⟩),(100010,⟨false,false,true,false,3,aa,false,none⟩)]
def Sm:Ap->Option (RB×Nat×Nat×Nat×LA×LA×LA)
|cs::(100001,⟨false,false,false,false,0,[.own 100008 0 u,.own 100009 0 v,.own 100010 0 w],false,none⟩)::ct::cu::cv::cw::cx::cy::(100008,⟨false,false,true,false,1,y,false,none⟩)::(100009,⟨false,false,true,false,3,z,false,none⟩)::(100010,⟨false,false,true,false,3,aa,false,none⟩)::[]=>(Ax3 100000 100001 cs).bind fun s=>(xR 100002 2 ct).bind fun cz=>(xR 100003 2 cu).bind fun da=>(xR 100004 2 cv).bind fun db=>(xR 100005 2 cw).bind fun dc=>(xR 100006 2 cx).bind fun dd=>(xR 100007 2 cy).bind fun de=>some ({s with ka:=cz,kb:=da,kc:=db,kd:=dc,ke:=dd,kf:=de},u,v,w,y,z,aa)
|_=>none
def bD{h:Ap}{p:RB×Nat×Nat×Nat×LA×LA×LA}(e:Sm h=some p):h=bC p:=by
 unfold Sm at e
 split at e
 ·obtain⟨s,q,f⟩:=ub e
  cases Ahs q
  obtain⟨_,q,e0⟩:=ub f
  cases Lq q
  obtain⟨_,q,e1⟩:=ub e0
  cases Lq q
  obtain⟨_,q,e2⟩:=ub e1
  cases Lq q
  obtain⟨_,q,e3⟩:=ub e2
  cases Lq q
  obtain⟨_,q,e4⟩:=ub e3
  cases Lq q
  obtain⟨_,q,e5⟩:=ub e4
  cases Lq q
  cases e5;rfl
 ·cases e
def kX:=Cc N 87 (IH N) ER (Asr Sm fun
|[.optr 100000 0,.optr 100001 0,.int .i64 ah,.int .i64 ai],p=>some fun _ k=>M9 N ah ai p.2.1 p.2.2.1 p.2.2.2.1 p.2.2.2.2.1 p.2.2.2.2.2.1 p.2.2.2.2.2.2 p.1 (H8 p.2.1 p.2.2.1 p.2.2.2.1 p.1 k)
| _,_=>none) (Axi bD fun _ p=>by obtain⟨s,u,v,w,y,z,aa⟩:=p;split;rename_i ah ai;intro R F;exact(B6 (Po N (H8 u v w s F) · ah ai u v w y z aa s) (Api fun a b c d g i=>Api fun j l m o r t=>(lW ..).trans (TP ..)):_).trans (BS ..).symm;trivial)
def Hg(k3:Int->Int->N6 (L6 (LA->LA->LA->O R)))(r0:LA->N6 (L6 (O R)))(y:LA)(z:Nat)(ab ac:Bool)(u:LA)(v:Nat)(w x:Bool)(l m o q r t:Nat)(s:RB)(c d f h i j:LA)(aa ad ae:Nat)(aj:LA)(b:Int)(af ag ah:LA)(cj:Int)(bt bu bv bw bx bz:Nat)(ca cb cc cd ce cf cg ch ci:LA):O R:=(Wg (aj.drop 6) fun ck=>cond ck (Aj .i64 (aj.drop 4) fun cl=>M9 N cl cj aa ad ae ca cb cc (Agz s bt bu bv bw bx bz cd ce cf cg ch ci) fun cm cn co cp cq cr cs ct cu cv cw cx cy cz da=>Aj .i64 (aj.drop 4) fun db=>Aj .i64 (aj.drop 5) fun dc=>k3 dc db cm cn co cp cq cr cs ct cu cv cw cx cy cz da) (Aj .i64 (aj.drop 4) fun dd=>Aj .i64 (aj.drop 5) fun de=>k3 de dd bt bu bv bw bx bz ca cb cc cd ce cf cg ch ci))
def Ou(N:Nat)(k3:Int->Int->N6 (L6 (LA->LA->LA->O R)))(r0:LA->N6 (L6 (O R)))(y:LA)(z:Nat)(ab ac:Bool)(u:LA)(v:Nat)(w x:Bool)(l m o q r t:Nat)(s:RB)(c d f h i j:LA)(aa ad ae:Nat)(b:Int)(af ag ah:LA)(q2:LA->Int->N6 (L6 (LA->LA->LA->O R)))(bd ak:Int)(bf bg bh bi bj bk:Nat)(aj be bl bm bn bo bp bq br bs:LA):O R:=(cond (Ab bd z) (Aj .i64 (y.drop (bd.toNat*2)) fun df=>cond (df != 2) (cond (Ab bd z) (Aj .i64 (y.drop (bd.toNat*2)) fun dg=>cond (Ab (wrap .i64 (ak - 1)) aa) (cond ((beq 1 1)&&((ble ((0+(((wrap .i64 (ak - 1)).toNat)*1))+1) be.length)&&(!false))) (q2 aj (wrap .i64 ((wrap .i64 (ak - 1)) - 1)) bf bg bh bi bj bk (be.set (0+(((wrap .i64 (ak - 1)).toNat)*1)) (.int .i64 dg)) bl bm bn bo bp bq br bs) none) none) none) (q2 aj (wrap .i64 (ak - 1)) bf bg bh bi bj bk be bl bm bn bo bp bq br bs)) none)
def Fb(k3:Int->Int->N6 (L6 (LA->LA->LA->O R)))(r0:LA->N6 (L6 (O R)))(y:LA)(z:Nat)(ab ac:Bool)(u:LA)(v:Nat)(w x:Bool)(l m o q r t:Nat)(s:RB)(c d f h i j:LA)(aa ad ae:Nat)(b:Int)(af ag ah:LA)(bd ak:Int)(bf bg bh bi bj bk:Nat)(aj be bl bm bn bo bp bq br bs:LA):O R:=Ou N k3 r0 y z ab ac u v w x l m o q r t s c d f h i j aa ad ae b af ag ah (fun aj=>Hg N k3 r0 y z ab ac u v w x l m o q r t s c d f h i j aa ad ae aj b af ag ah) bd ak bf bg bh bi bj bk aj be bl bm bn bo bp bq br bs
def I4(N:Nat)(r0:LA->N6 (L6 (O R)))(y:LA)(z:Nat)(ab ac:Bool)(u:LA)(v:Nat)(w x:Bool)(l m o q r t:Nat)(s:RB)(c d f h i j:LA)(aa ad ae:Nat)(b:Int)(af ag ah:LA)(k3:Int->Int->N6 (L6 (LA->LA->LA->O R)))(q1:Int->Int->N6 (L6 (LA->LA->LA->LA->O R)))(ai al:Int)(am an ao ap aq ar:Nat)(au av aw ax ay az ba bb bc:LA):O R:=(cond (decide (al>0)) (Aht al fun i0=>cond (Ab ai (v6 i0 l m o q r t)) (cond (ble 7 (((v6 i0 c d f h i j).drop (0+(ai.toNat*7))).length)) (cond ((beq 0 0)&&((beq ((((v6 i0 c d f h i j).drop (0+(ai.toNat*7))).take 7).length) 7)&&(beq 7 7))) (q1 ai (iI i0) am an ao ap aq ar (((v6 i0 c d f h i j).drop (0+(ai.toNat*7))).take 7) au av aw ax ay az ba bb bc) none) none) none) (r0 [.imm (au.take (aa*1)) aa 1 false false,.imm (av.take (ad*3)) ad 3 false false,.imm (aw.take (ae*3)) ae 3 false false] am an ao ap aq ar ax ay az ba bb bc))
def B9(r0:LA->N6 (L6 (O R)))(y:LA)(z:Nat)(ab ac:Bool)(u:LA)(v:Nat)(w x:Bool)(l m o q r t:Nat)(s:RB)(c d f h i j:LA)(aa ad ae:Nat)(b:Int)(af ag ah:LA):Nat->Int->Int->N6 (L6 (LA->LA->LA->O R))
|0=>fun _ _ _ _ _ _ _ _ _ _ _ _ _ _ _ _ _=>none
|n+1=>I4 N r0 y z ab ac u v w x l m o q r t s c d f h i j aa ad ae b af ag ah (B9 r0 y z ab ac u v w x l m o q r t s c d f h i j aa ad ae b af ag ah n) (Fb N (B9 r0 y z ab ac u v w x l m o q r t s c d f h i j aa ad ae b af ag ah n) r0 y z ab ac u v w x l m o q r t s c d f h i j aa ad ae b af ag ah)
def Xs(N:Nat)(r0:LA->N6 (L6 (O R)))(y:LA)(z:Nat)(ab ac:Bool)(b:Int)(s:RB)(u:LA)(v:Nat)(w x:Bool)(l m o q r t:Nat)(c d f h i j:LA)(aa ad ae:Nat)(af ag ah:LA)(k0:O R)(k3:Int->Int->N6 (L6 (LA->LA->LA->O R)))(q1:Int->Int->N6 (L6 (LA->LA->LA->LA->O R))):O R:=(cond (decide (s.hs>0)) (Aht s.hs fun i0=>cond (Ab b (v6 i0 l m o q r t)) (cond (ble 7 (((v6 i0 c d f h i j).drop (0+(b.toNat*7))).length)) (cond ((beq 0 0)&&((beq ((((v6 i0 c d f h i j).drop (0+(b.toNat*7))).take 7).length) 7)&&(beq 7 7))) (q1 b (iI i0) s.na s.nb s.nc s.nd s.ne s.nf (((v6 i0 c d f h i j).drop (0+(b.toNat*7))).take 7) af ag ah s.ka s.kb s.kc s.kd s.ke s.kf) none) none) none) (r0 [.imm (af.take (aa*1)) aa 1 false false,.imm (ag.take (ad*3)) ad 3 false false,.imm (ah.take (ae*3)) ae 3 false false] s.na s.nb s.nc s.nd s.ne s.nf s.ka s.kb s.kc s.kd s.ke s.kf))
def Kh(r0:LA->N6 (L6 (O R)))(y:LA)(z:Nat)(ab ac:Bool)(b:Int)(s:RB)(u:LA)(v:Nat)(w x:Bool)(l m o q r t:Nat)(c d f h i j:LA)(aa ad ae:Nat)(af ag ah:LA):Nat->O R
|0=>none
|n+1=>Xs N r0 y z ab ac b s u v w x l m o q r t c d f h i j aa ad ae af ag ah (Kh r0 y z ab ac b s u v w x l m o q r t c d f h i j aa ad ae af ag ah n) (B9 N r0 y z ab ac u v w x l m o q r t s c d f h i j aa ad ae b af ag ah n) (Fb N (B9 N r0 y z ab ac u v w x l m o q r t s c d f h i j aa ad ae b af ag ah n) r0 y z ab ac u v w x l m o q r t s c d f h i j aa ad ae b af ag ah)
def Oc(r0:LA->N6 (L6 (O R)))(q0:Nat->Nat->Nat->LA->LA->LA->O R)(y:LA)(z:Nat)(ab ac:Bool)(b:Int)(u:LA)(v:Nat)(w x:Bool)(l m o q r t:Nat)(c d f h i j:LA)(s:RB):O R:=(gH N s.hs fun aa ad ae af ag ah=>q0 aa ad ae af ag ah)
def K6:=(shut fun N y z ab ac b u v w x l m o q r t c d f h i j s r0=>Oc (R:=R) N r0 (fun aa ad ae af ag ah=>Kh N r0 y z ab ac b s u v w x l m o q r t c d f h i j aa ad ae af ag ah N) y z ab ac b u v w x l m o q r t c d f h i j s).1
def Xt(y z ab ac b u v w x l m o q r t c d f h i j s r0):(@K6 R N y z ab ac b u v w x l m o q r t c d f h i j s r0)=(Oc N r0 (fun aa ad ae af ag ah=>Kh N r0 y z ab ac b s u v w x l m o q r t c d f h i j aa ad ae af ag ah N) y z ab ac b u v w x l m o q r t c d f h i j s):=by rw[K6,(shut _).2]
def BT:Hints:={H:=hK 2 (hS (hK 1 (hS (hP [0,1,2,6,7,8] (hK 1 (hS (hJ [0,1,2,6,7,8,9] hL (hK 1 (hJ [0,1,6,7,9,10] hL hL))) hL))) hL)) hL),modes:=[(3,0)],free:=[100008,100009,100010,100011,100012,100013],cob:=[6000029]}
def EU:Oe:=[Aob N,kX N]
def Ki(F:KF R):=Iv Tryz.f56 BT (EU N) [100000,100001,100002,100003,100004,100005,100006,100007,100008,100009,100010,100011,100012,100013] N F
def Cq(u:LA)(v:Nat)(w x:Bool)(l m o q r t:Nat)(c d f h i j:LA)(s:RB)(F:KF R):LA->N6 (L6 (O R)):=fun dh di dj dk dl dm dn dp dq dr ds dt du=>F (.pagg dh false) [(100000,bN 0 [.optr 100001 0,.imm u v 1 w x,.own 100002 0 l,.own 100003 0 m,.own 100004 0 o,.own 100005 0 q,.own 100006 0 r,.own 100007 0 t,.nsl,.nsl,.nsl,.nsl,.nsl,.nsl,.nsl,.nsl,.nsl,.nsl,.nsl,.nsl,.nsl,.nsl,.nsl,.nsl,.nsl,.nsl,.nsl]),(100001,bN 0 (Zt 299999 {s with na:=di,nb:=dj,nc:=dk,nd:=dl,ne:=dm,nf:=dn})),(100002,bQ 7 c),(100003,bQ 7 d),(100004,bQ 7 f),(100005,bQ 7 h),(100006,bQ 7 i),(100007,bQ 7 j),(300000,bQ 2 dp),(300001,bQ 2 dq),(300002,bQ 2 dr),(300003,bQ 2 ds),(300004,bQ 2 dt),(300005,bQ 2 du)]
def bE(y:LA)(z:Nat)(ab ac:Bool)(u:LA)(v:Nat)(w x:Bool)(l m o q r t:Nat)(s:RB)(c d f h i j:LA)(aa ad ae:Nat)(aj:LA)(b:Int)(af ag ah:LA)(K:St->O R):=fun cj bt bu bv bw bx bz ca cb cc cd ce cf cg ch ci=>K ⟨[(0,.optr 100000 0),(1,.imm y z 2 ab ac),(6,op 0),(7,op 1),(9,op 2),(10,iv cj)],[(100000,bN 0 [.optr 100001 0,.imm u v 1 w x,.own 100002 0 l,.own 100003 0 m,.own 100004 0 o,.own 100005 0 q,.own 100006 0 r,.own 100007 0 t,.nsl,.nsl,.nsl,.nsl,.nsl,.nsl,.nsl,.nsl,.nsl,.nsl,.nsl,.nsl,.nsl,.nsl,.nsl,.nsl,.nsl,.nsl,.nsl]),(100001,bN 0 (Zt 300005 {s with na:=bt,nb:=bu,nc:=bv,nd:=bw,ne:=bx,nf:=bz})),(100002,bQ 7 c),(100003,bQ 7 d),(100004,bQ 7 f),(100005,bQ 7 h),(100006,bQ 7 i),(100007,bQ 7 j),(300000,bN 0 [.nsl,.nsl,.nsl]),(300001,bN 0 [Bbq 3 aa,Bbq 4 ad,Bbq 5 ae]),(300002,bQ 0 aj),(300003,bQ 1 ca),(300004,bQ 3 cb),(300005,bQ 3 cc),(300006,bQ 2 cd),(300007,bQ 2 ce),(300008,bQ 2 cf),(300009,bQ 2 cg),(300010,bQ 2 ch),(300011,bQ 2 ci)]⟩
def bF(y:LA)(z:Nat)(ab ac:Bool)(u:LA)(v:Nat)(w x:Bool)(l m o q r t:Nat)(s:RB)(c d f h i j:LA)(aa ad ae:Nat)(b:Int)(af ag ah:LA)(K:St->O R):=fun bd ak bf bg bh bi bj bk aj be bl bm bn bo bp bq br bs=>K ⟨[(0,.optr 100000 0),(1,.imm y z 2 ab ac),(2,iv bd),(6,op 0),(7,op 1),(8,iv ak),(9,op 2)],[(100000,bN 0 [.optr 100001 0,.imm u v 1 w x,.own 100002 0 l,.own 100003 0 m,.own 100004 0 o,.own 100005 0 q,.own 100006 0 r,.own 100007 0 t,.nsl,.nsl,.nsl,.nsl,.nsl,.nsl,.nsl,.nsl,.nsl,.nsl,.nsl,.nsl,.nsl,.nsl,.nsl,.nsl,.nsl,.nsl,.nsl]),(100001,bN 0 (Zt 300005 {s with na:=bf,nb:=bg,nc:=bh,nd:=bi,ne:=bj,nf:=bk})),(100002,bQ 7 c),(100003,bQ 7 d),(100004,bQ 7 f),(100005,bQ 7 h),(100006,bQ 7 i),(100007,bQ 7 j),(300000,bN 0 [.nsl,.nsl,.nsl]),(300001,bN 0 [Bbq 3 aa,Bbq 4 ad,Bbq 5 ae]),(300002,bQ 0 aj),(300003,bQ 1 be),(300004,bQ 3 bl),(300005,bQ 3 bm),(300006,bQ 2 bn),(300007,bQ 2 bo),(300008,bQ 2 bp),(300009,bQ 2 bq),(300010,bQ 2 br),(300011,bQ 2 bs)]⟩
def Kj(y:LA)(z:Nat)(ab ac:Bool)(u:LA)(v:Nat)(w x:Bool)(l m o q r t:Nat)(s:RB)(c d f h i j:LA)(aa ad ae:Nat)(b:Int)(af ag ah:LA)(K:St->O R):=fun ai al am an ao ap aq ar au av aw ax ay az ba bb bc=>K ⟨[(0,.optr 100000 0),(1,.imm y z 2 ab ac),(2,iv ai),(6,op 0),(7,op 1),(8,iv al)],[(100000,bN 0 [.optr 100001 0,.imm u v 1 w x,.own 100002 0 l,.own 100003 0 m,.own 100004 0 o,.own 100005 0 q,.own 100006 0 r,.own 100007 0 t,.nsl,.nsl,.nsl,.nsl,.nsl,.nsl,.nsl,.nsl,.nsl,.nsl,.nsl,.nsl,.nsl,.nsl,.nsl,.nsl,.nsl,.nsl,.nsl]),(100001,bN 0 (Zt 300004 {s with na:=am,nb:=an,nc:=ao,nd:=ap,ne:=aq,nf:=ar})),(100002,bQ 7 c),(100003,bQ 7 d),(100004,bQ 7 f),(100005,bQ 7 h),(100006,bQ 7 i),(100007,bQ 7 j),(300000,bN 0 [.nsl,.nsl,.nsl]),(300001,bN 0 [Bbq 2 aa,Bbq 3 ad,Bbq 4 ae]),(300002,bQ 1 au),(300003,bQ 3 av),(300004,bQ 3 aw),(300005,bQ 2 ax),(300006,bQ 2 ay),(300007,bQ 2 az),(300008,bQ 2 ba),(300009,bQ 2 bb),(300010,bQ 2 bc)]⟩
def bG(y:LA)(z:Nat)(ab ac:Bool)(b:Int)(s:RB)(u:LA)(v:Nat)(w x:Bool)(l m o q r t:Nat)(c d f h i j:LA)(aa ad ae:Nat)(af ag ah:LA)(K:St->O R):=K ⟨[(0,.optr 100000 0),(1,.imm y z 2 ab ac),(2,iv b),(6,op 0),(7,op 1),(8,iv s.hs)],[(100000,bN 0 [.optr 100001 0,.imm u v 1 w x,.own 100002 0 l,.own 100003 0 m,.own 100004 0 o,.own 100005 0 q,.own 100006 0 r,.own 100007 0 t,.nsl,.nsl,.nsl,.nsl,.nsl,.nsl,.nsl,.nsl,.nsl,.nsl,.nsl,.nsl,.nsl,.nsl,.nsl,.nsl,.nsl,.nsl,.nsl]),(100001,bN 0 (Zt 300001 s)),(100002,bQ 7 c),(100003,bQ 7 d),(100004,bQ 7 f),(100005,bQ 7 h),(100006,bQ 7 i),(100007,bQ 7 j),(300000,bN 0 [.nsl,.nsl,.nsl]),(300001,bN 0 [Bbq 8 aa,Bbq 9 ad,.own 300010 0 ae]),(300002,bQ 2 s.ka),(300003,bQ 2 s.kb),(300004,bQ 2 s.kc),(300005,bQ 2 s.kd),(300006,bQ 2 s.ke),(300007,bQ 2 s.kf),(300008,bQ 1 af),(300009,bQ 3 ag),(300010,bQ 3 ah)]⟩
def PK Q0 (F:KF R) (y z ab ac u v w x l m o q r t s c d f h i j aa ad ae aj b af ag ah):bE y z ab ac u v w x l m o q r t s c d f h i j aa ad ae aj b af ag ah (A1 (Ki N F (pz 5521685) [Q0]))=(Hg N (Kj y z ab ac u v w x l m o q r t s c d f h i j aa ad ae b af ag ah Q0) (Cq u v w x l m o q r t c d f h i j s F) y z ab ac u v w x l m o q r t s c d f h i j aa ad ae aj b af ag ah):=by kernel_rfl
def Td Q0 (F:KF R) (y z ab ac u v w x l m o q r t s c d f h i j aa ad ae b af ag ah):bF y z ab ac u v w x l m o q r t s c d f h i j aa ad ae b af ag ah (A1 (Ki N F (pz 345105) [Q0]))=(Fb N (Kj y z ab ac u v w x l m o q r t s c d f h i j aa ad ae b af ag ah Q0) (Cq u v w x l m o q r t c d f h i j s F) y z ab ac u v w x l m o q r t s c d f h i j aa ad ae b af ag ah):=(B6 (Ou N (Kj y z ab ac u v w x l m o q r t s c d f h i j aa ad ae b af ag ah Q0) (Cq u v w x l m o q r t c d f h i j s F) y z ab ac u v w x l m o q r t s c d f h i j aa ad ae b af ag ah) (vQ fun aj=>(jW ..).trans (PK ..)):_)
def Te(F:KF R)(y z ab ac u v w x l m o q r t s c d f h i j aa ad ae b af ag ah):∀ n,Kj y z ab ac u v w x l m o q r t s c d f h i j aa ad ae b af ag ah (Ao (Ki N F (pz 1348) []) n)=(B9 N (Cq u v w x l m o q r t c d f h i j s F) y z ab ac u v w x l m o q r t s c d f h i j aa ad ae b af ag ah n):=Gu fun n e=>(QH (I4 N (Cq u v w x l m o q r t c d f h i j s F) y z ab ac u v w x l m o q r t s c d f h i j aa ad ae b af ag ah) e ((jW ..).trans ((Td ..).trans (xP (Fb _ · _ _ _ _ _ _ _ _ _ _ _ _ _ _ _ _ _ _ _ _ _ _ _ _ _ _ _ _ _) e))):_)
def PL(F:KF R)(y z ab ac b s u v w x l m o q r t c d f h i j aa ad ae af ag ah):∀ n,bG y z ab ac b s u v w x l m o q r t c d f h i j aa ad ae af ag ah (Ao (Ki N F (pz 1348) []) n)=(Kh N (Cq u v w x l m o q r t c d f h i j s F) y z ab ac b s u v w x l m o q r t c d f h i j aa ad ae af ag ah n):=Gu fun n e=>(Azy (Xs N (Cq u v w x l m o q r t c d f h i j s F) y z ab ac b s u v w x l m o q r t c d f h i j aa ad ae af ag ah) e (Te ..) ((jW ..).trans ((Td ..).trans (xP (Fb _ · _ _ _ _ _ _ _ _ _ _ _ _ _ _ _ _ _ _ _ _ _ _ _ _ _ _ _ _ _) (Te ..)))):_)
def bH:=Cc N 56 (EU N) BT (Asr Es fun
|[.optr 100000 0,.imm y z 2 ab ac,.int .i64 b],p=>some fun _ k=>K6 N y z ab ac b p.2.1 p.2.2.1 p.2.2.2.1 p.2.2.2.2.1 p.2.2.2.2.2.1 p.2.2.2.2.2.2.1 p.2.2.2.2.2.2.2.1 p.2.2.2.2.2.2.2.2.1 p.2.2.2.2.2.2.2.2.2.1 p.2.2.2.2.2.2.2.2.2.2.1 p.2.2.2.2.2.2.2.2.2.2.2.1 p.2.2.2.2.2.2.2.2.2.2.2.2.1 p.2.2.2.2.2.2.2.2.2.2.2.2.2.1 p.2.2.2.2.2.2.2.2.2.2.2.2.2.2.1 p.2.2.2.2.2.2.2.2.2.2.2.2.2.2.2.1 p.2.2.2.2.2.2.2.2.2.2.2.2.2.2.2.2 p.1 (Cq p.2.1 p.2.2.1 p.2.2.2.1 p.2.2.2.2.1 p.2.2.2.2.2.1 p.2.2.2.2.2.2.1 p.2.2.2.2.2.2.2.1 p.2.2.2.2.2.2.2.2.1 p.2.2.2.2.2.2.2.2.2.1 p.2.2.2.2.2.2.2.2.2.2.1 p.2.2.2.2.2.2.2.2.2.2.2.1 p.2.2.2.2.2.2.2.2.2.2.2.2.1 p.2.2.2.2.2.2.2.2.2.2.2.2.2.1 p.2.2.2.2.2.2.2.2.2.2.2.2.2.2.1 p.2.2.2.2.2.2.2.2.2.2.2.2.2.2.2.1 p.2.2.2.2.2.2.2.2.2.2.2.2.2.2.2.2 p.1 k)
| _,_=>none) (Axi E7 fun _ p=>by obtain⟨s,u,v,w,x,l,m,o,q,r,t,c,d,f,h,i,j⟩:=p;split;rename_i y z ab ac b;intro R F;exact(B6 (Oc N (Cq u v w x l m o q r t c d f h i j s F) · y z ab ac b u v w x l m o q r t c d f h i j s) (Api fun aa ad ae af ag ah=>(lW ..).trans (PL ..)):_).trans (Xt ..).symm;trivial)
def gJ:=Ax2 (bH N) [100000,100002,100003,100004,100005,100006,100007] (A1v E7 fun a p g e=>by obtain⟨s,u,v,w,x,l,m,o,q,r,t,c,d,f,h,i,j⟩:=p;(try dsimp only at e);split at e;cases e;exact⟨rfl,fun R k=>rfl⟩;cases e)
end
end Gx
namespace Gx.Uo
open Go Go.Proofs
noncomputable section
variable{R:Type}{N:Nat}{X:O R}
variable{u:UnitD}{hh:Int}{E Q V:List RatD}{o o1 o2:Bool}{a b:Nat->Rat}{H:Nat}{fx:List Int}
def A0k(d:RatD):RatD:=⟨d.neg,.of d.ns.l false false,.of d.ds.l false false⟩
def Alf{d:RatD}{q:Rat}(h:d.can q):(A0k d).can q:=⟨h.1,h.2.1,h.2.2⟩
def Ajc(D:DOk u hh H E Q V a b)(hfx:fx.length=H)(hl:u.away.l.length<=1000)(hf:fit 1000000 N){h:Nat}(hhH:h<H){s:StD}(hs:C4 u s){pr:Rat}{pd:RatD}(p1:pd.can pr)(p2:qm pr<=1000*h+10){r0:N6 (L6 (L6 (O R)))}
  {n:Nat->Nat} (hn:∀ j≤H,n j=(Be u).length) {n0:Nat->Nat} {c0:Nat->LA} {e g:Bool}:∀(m j G:Nat)(T:FG)(W:Nat->List (Option MkD))(L:Nat->Rn),j+m=(Bl u s).length->m<G->L9 u H T W->DR u a b L ->
   (∀ W' L',L9 u H ((((Bl u s).drop j).map ds).foldl (Oh (Bw u fx H a b) h (ds s) pr) T) W'->DR u a b L'->Abv r0 L' W'=X) ->
   Abv (C3 N r0 (h:Int) ((ix u s:Nat):Int) ((Bl u s).flatMap StD.av) (Bl u s).length (Am fx) fx.length e g (n 0) (n 1) (n 2) (n 3) (n 4) (n 5) (rB u (H:Int) E Q V o o1 o2 n0 c0) s.av pd.av G ((Bl u s).length:Int) (j:Int)) L W=X:=by
 intro m
 induction m with
|zero =>
  intro j fuel0 T W L hj hfu tk dr hk
  obtain⟨G,rfl⟩:∃ f',fuel0=f'+1:=⟨fuel0 - 1,by omega⟩
  unfold Abv IG
  try dsimp only
  rw[C3];unfold H6
  rw[Rc (by omega),cf]
  exact hk W L (by rw[Jx (by omega)];exact tk) dr
| succ m ih =>
  intro j fuel0 T W L hj hfu tk dr hk
  obtain⟨G,rfl⟩:∃ f',fuel0=f'+1:=⟨fuel0 - 1,by omega⟩
  have h6:=D.h6
  obtain⟨Y,hu,_⟩:=Bf D.hv
  have hN:100001000<=N:=by have:=hf.1;omega
  have hln:=Zb (u:=u) (s:=s)
  have I:j<(Bl u s).length:=by omega
  rw[Fg I,A3o,A5q]at hk
  have tm:(Bl u s)[j]∈Bl u s:=A24 I
  have hst:∀ L:Nat->Rn,Agz (rB u (H:Int) E Q V o o1 o2 n0 c0) (L 0).length (L 1).length (L 2).length (L 3).length (L 4).length (L 5).length (rc (L 0)) (rc (L 1)) (rc (L 2)) (rc (L 3)) (rc (L 4)) (rc (L 5))=rB u (H:Int) E Q V o o1 o2 (fun j=>(L j).length) (fun j=>rc (L j)):=fun _=>rfl
  have step:∀ W' L',L9 u H (Oh (Bw u fx H a b) h (ds s) pr T (ds (Bl u s)[j])) W'->DR u a b L'->Abv (C3 N r0 (h:Int) ((ix u s:Nat):Int) ((Bl u s).flatMap StD.av) (Bl u s).length (Am fx) fx.length e g (n 0) (n 1) (n 2) (n 3) (n 4) (n 5) (rB u (H:Int) E Q V o o1 o2 n0 c0) s.av pd.av G ((Bl u s).length:Int) (wrap .i64 ((j:Int)+1))) L' W'=X:=fun W' L' t' l'=>by
   rw[wS (by omega)]
   exact ih (j+1) G _ W' L' (by omega) (by omega) t' l' hk
  unfold Abv IG
  try dsimp only
  rw[C3];unfold H6
  rw[Ox I,ct,Aa I,ct,Afo I,MD,ct,ME,YH,ct]
  generalize (Bl u s)[j]=t at tm step
  have to:=BK Y hs t tm
  have tk3':=Abo Y hs tm
  rw[show zS t.av=t.av from rfl,IJ,ct,IJ,ct,gR,gR,show ble 3 (List.length pd.av)=true from rfl,ct,show Amc (rB u (H:Int) E Q V o o1 o2 n0 c0)=(uN u o).av from rfl,uU (u:=uN u o) (by omega) Y hs tm,show L8 (uN u o) s t=L8 u s t from rfl]
  have hc:=pj hu s t
  refine D0 (by omega) (by omega) fun cd hcd=>?_
  have qc:qm ((L8 u s t:Int):Rat)<=2:=qi (by omega)
  rw[Y9]
  refine kF p1 hcd (hf.le (by omega)) fun d hd=>?_
  have qd:=Om pr ((L8 u s t:Int):Rat)
  rw[show ∀ F:Bool->O R,Wg d.av F=F d.neg from fun _=>rfl,Aim,kB,show((beq (List.length d.av) 3)&&(true&&(beq 3 3&&ble 4 7)))=true from rfl,ct,V0,hst,Arv (H:=H) (a:=a) (b:=b) hl (by omega) tk3' (by omega)]
  have hcost:(Bw u fx H a b).cost (ds s) (ds t)=L8 u s t:=rfl
  cases hm:(Bw u fx H a b).may h t.k with
  |false =>
   rw[show(!false)=true from rfl,ct]
   exact step W L (by unfold Oh;rw[if_neg (by show ¬ (Bw u fx H a b).may h t.k=true;rw[hm];simp)];exact tk) dr
  | true =>
   rw[show(!true)=false from rfl,cf,V0]
   by_cases h2:t.k=2
   ·rw[show(t.k==2)=true by simpa using h2,ct]
    refine Awq (md:=⟨A0k d,h,ix u s,true⟩) (mk:=⟨pr - (Bw u fx H a b).cost (ds s) (ds t),h,ds s,true⟩) (s0:=s) D hfx hl hf (Alf hd) ?_ rfl rfl hs rfl rfl hn (by omega) to h2 tk dr fun W' L' t' l'=>?_
    ·show qm (pr - ((L8 u s t:Int):Rat))<=_;omega
    ·refine step W' L' ?_ l'
     unfold Oh;rw[if_pos (show(Bw u fx H a b).may h (ds t).1=true from hm),if_pos (show(ds t).1=2 from h2)];exact t'
   ·rw[show(t.k==2)=false by simpa using h2,cf,V0]
    have off:¬ (s.k=2/\(Bw u fx H a b).shut=true)->Fa N (wrap .i64 ((h:Int)+1)) t.av (FY (some ⟨A0k d,h,ix u s,false⟩)) (Am fx) fx.length e g (n 0) (n 1) (n 2) (n 3) (n 4) (n 5) (A2 (W 0)) (A2 (W 1)) (A2 (W 2)) (A2 (W 3)) (A2 (W 4)) (A2 (W 5)) (rB u (H:Int) E Q V o o1 o2 (fun j=>(L j).length) fun j=>rc (L j)) (fun w0 w1 w2 w3 w4 w5=>C3 N r0 (h:Int) ((ix u s:Nat):Int) ((Bl u s).flatMap StD.av) (Bl u s).length (Am fx) fx.length e g (n 0) (n 1) (n 2) (n 3) (n 4) (n 5) (rB u (H:Int) E Q V o o1 o2 n0 c0) s.av pd.av G ((Bl u s).length:Int) (wrap .i64 ((j:Int)+1)) (L 0).length (L 1).length (L 2).length (L 3).length (L 4).length (L 5).length w0 w1 w2 w3 w4 w5 (rc (L 0)) (rc (L 1)) (rc (L 2)) (rc (L 3)) (rc (L 4)) (rc (L 5)))=X:=fun hno=>by
     rw[wS (by omega)]
     refine Ala D.hv (by omega) (show h+1<=H by omega) tk to (t:=⟨pr - (Bw u fx H a b).cost (ds s) (ds t),h,ds s,false⟩) ⟨Alf hd,?_,rfl,rfl,fun _=>⟨s,hs,rfl,rfl⟩⟩ (by omega) hf (hn _ (by omega)) fun W' t'=>?_
     ·show qm (pr - ((L8 u s t:Int):Rat))<=_;omega
     ·refine step W' L ?_ dr
      unfold Oh;rw[if_pos (show(Bw u fx H a b).may h (ds t).1=true from hm),if_neg (show ¬ (ds t).1=2 from h2),if_neg (show ¬ ((ds s).1=2/\(Bw u fx H a b).shut=true)from hno)];exact t'
    by_cases h3:s.k=2
    ·rw[show((s.k==2)==true)=true by simp[h3],ct,show(rB u (H:Int) E Q V o o1 o2 n0 c0).uo=u.output from rfl,show(rB u (H:Int) E Q V o o1 o2 n0 c0).tr=u.stopRamp from rfl]
     by_cases h4:u.stopRamp<u.output
     ·rw[decide_eq_true (show u.output>u.stopRamp from h4),show(cond true true false)=true from rfl,ct]
      refine step W L ?_ dr
      unfold Oh;rw[if_pos (show(Bw u fx H a b).may h (ds t).1=true from hm),if_neg (show ¬ (ds t).1=2 from h2),if_pos (show(ds s).1=2/\(Bw u fx H a b).shut=true from⟨h3,decide_eq_true h4⟩)];exact tk
     ·rw[decide_eq_false (show ¬ u.output>u.stopRamp from h4),show(cond true false false)=false from rfl,cf,ct]
      exact off fun c=>h4 (by have:=c.2;exact of_decide_eq_true this)
    ·rw[show((s.k==2)==true)=false by simp[h3],cf,ct]
     exact off fun c=>h3 c.1
def At4(D:DOk u hh H E Q V a b)(I:fx.length=H)(hl:u.away.l.length<=1000)(hf:fit 1000000 N){h:Nat}(hhH:h<H){s:StD}(hs:C4 u s){r0:N6 (L6 (L6 (O R)))}{n:Nat->Nat}(hn:∀ j≤H,n j=(Be u).length){e g:Bool}{T:FG}{W:Nat->List (Option MkD)}{L:Nat->Rn}(tk:L9 u H T W)(dr:DR u a b L){m0:Mk}(hT:T h (ds s)=some m0)
  (hk:∀ W' L',L9 u H (Oi (Bw u fx H a b) h T (ds s)) W'->DR u a b L'->Abv r0 L' W'=X) :
  Jp N (h:Int) ((ix u s:Nat):Int) s.av (Am fx) fx.length e g (n 0) (n 1) (n 2) (n 3) (n 4) (n 5) (A2 (W 0)) (A2 (W 1)) (A2 (W 2)) (A2 (W 3)) (A2 (W 4)) (A2 (W 5)) (rB u (H:Int) E Q V o o1 o2 (fun j=>(L j).length) fun j=>rc (L j)) r0=X:=by
 have h6:=D.h6
 have hN:100001000<=N:=by have:=hf.1;omega
 have k:=(Bf D.hv).1
 have hln:=Zb (u:=u) (s:=s)
 obtain⟨wn,we⟩:=tk h (by omega)
 obtain⟨md,g1,Y⟩:=we s hs
 have lt:=EM k hs
 have G:ix u s<(W h).length:=by omega
 rw[A2r G,A3k]at g1
 rw[hT]at Y
 cases md with
|none=>exact Y.elim
|some md =>
  obtain⟨d0,q0,_⟩:=Y
  rw[V9];unfold Mb
  have ev:v6 h (A2 (W 0)) (A2 (W 1)) (A2 (W 2)) (A2 (W 3)) (A2 (W 4)) (A2 (W 5))=A2 (W h):=w8 (by omega) fun j=>A2 (W j)
  rw[yZ (by omega),w8 (by omega) n,ev,hn h (by omega),Aa lt,ct,A2u,Abt G,g1,Ak9,OR,ct,Wy,Gx.c3,ct]
  unfold I3 M8
  rw[IJ,ct,gR,show Amc (rB u (H:Int) E Q V o o1 o2 (fun j=>(L j).length) fun j=>rc (L j))=(uN u o).av from rfl,MC (u:=uN u o) (by omega) k hs,show Bl (uN u o) s=Bl u s from rfl]
  refine Ajc D I hl hf hhH hs d0 q0 hn (Bl u s).length 0 N T W L (by omega) (by omega) tk dr fun W' L' t' l'=>hk W' L' ?_ l'
  unfold Oi;rw[hT]
  dsimp only
  rw[Awl hs];exact t'
end
end Gx.Uo
namespace Gx.Uo
open Go Go.Proofs
noncomputable section
variable{R:Type}{N:Nat}{X:O R}
def Avd{V:List RatD}{n:Nat}{d:RatD}(h:n<V.length):setCells (V.flatMap RatD.av) (n*3) d.av=(V.set n d).flatMap RatD.av:=by
 show D2 (V.flatMap RatD.av) (n*3) d.av=_
 unfold D2
 rw[Aq5 (by omega)]
 have e:(V.flatMap RatD.av).drop (n*3+d.av.length)=(V.drop (n+1)).flatMap RatD.av:=by
  have:=P6 h
  rw[A2u]at this
  rw[show n*3+d.av.length=n*3+3 from rfl,<-A69,this];rfl
 rw[e,List.set_eq_take_append_cons_drop,if_pos h,A5r,A3r,A38]
def y9{K:Nat->Nat->Nat->LA->LA->LA->O R}{H:Nat}(hH:H<=1000)(hN:1000<=N)(k:∀ En Re:List RatD,En.length=H->Re.length=H->(∀ d∈En,d.can 0)->(∀ d∈Re,d.can 0)->K H H H (Am (replicate H 0)) (En.flatMap RatD.av) (Re.flatMap RatD.av)=X):∀(m t D:Nat)(En Re:List RatD),t+m=H->m<D->En.length=t->Re.length=t->(∀ d∈En,d.can 0)->(∀ d∈Re,d.can 0) ->
  Qb N K (H:Int) D (t:Int) t t t (Am (replicate t 0)) (En.flatMap RatD.av) (Re.flatMap RatD.av)=X
|0,t,D+1,En,Re,T,_,e1,G,c1,I=>by
  rw[Qb];unfold EQ
  have:t=H:=by omega
  subst this
  rw[Rc (by omega),cf]
  exact k En Re e1 G c1 I
| m+1,t,D+1,En,Re,T,Y,e1,G,c1,I=>by
  rw[Qb];unfold EQ
  have g1:(ble (t+1) 140737488355328&&ble ((t+1)*8) 140737488355328)=true:=by
   rw[show ble (t+1) 140737488355328=true by rw[A3p];omega,show ble ((t+1)*8) 140737488355328=true by rw[A3p];omega];rfl
  have g2:(ble (t+1) 140737488355328&&ble ((t+1)*56) 140737488355328)=true:=by
   rw[show ble (t+1) 140737488355328=true by rw[A3p];omega,show ble ((t+1)*56) 140737488355328=true by rw[A3p];omega];rfl
  rw[Ox (by omega),ct,g1,ct]
  refine D0 (by omega) (by omega) fun x hx=>?_
  rw[show((beq (List.length x.av) 3)&&(ble 3 3))=true from rfl,ct,g2,ct]
  refine D0 (by omega) (by omega) fun y hy=>?_
  rw[show((beq (List.length y.av) 3)&&(ble 3 3))=true from rfl,ct,ct,wS (by omega)]
  have s1:(Am (replicate t 0)).take (t*1)++[Bbr]=Am (replicate (t+1) 0):=by
   rw[A2t (by rw[K2];simp),A7w];unfold Am;simp
  have s2:(En.flatMap RatD.av).take (t*3)++take 3 (setCells [.bool false,.nsl,.nsl] 0 x.av)=(En++[x]).flatMap RatD.av:=by
   rw[A2t (by rw[nQ,e1];omega),A5r];simp;rfl
  have s3:(Re.flatMap RatD.av).take (t*3)++take 3 (setCells [.bool false,.nsl,.nsl] 0 y.av)=(Re++[y]).flatMap RatD.av:=by
   rw[A2t (by rw[nQ,G];omega),A5r];simp;rfl
  rw[s1,s2,s3]
  refine y9 hH hN k m (t+1) D (En++[x]) (Re++[y]) (by omega) (by omega) (by simp[e1]) (by simp[G]) (fun d L=>?_) (fun d L=>?_)
  ·rcases A27.1 L with h|h
   ·exact c1 d h
   ·simp at h;subst h;exact hx
  ·rcases A27.1 L with h|h
   ·exact I d h
   ·simp at h;subst h;exact hy
def Aws{K:Nat->Nat->Nat->LA->LA->LA->O R}{H:Nat}(hH:H<=1000)(hN:2000<=N)(k:∀ En Re:List RatD,En.length=H->Re.length=H->(∀ d∈En,d.can 0)->(∀ d∈Re,d.can 0)->K H H H (Am (replicate H 0)) (En.flatMap RatD.av) (Re.flatMap RatD.av)=X):gH N (H:Int) K=X:=by
 rw[nX];unfold gG
 exact y9 hH (by omega) k H 0 N [] [] (by omega) (by omega) rfl rfl (by simp) (by simp)
abbrev Ay1(R:Type):=Nat->Nat->Nat->Nat->Nat->Nat->LA->LA->LA->LA->LA->LA->LA->LA->LA->Option R
def Azl(k:Ay1 R)(n:Nat->Nat)(c:Nat->LA)(A B C:LA):O R:=k (n 0) (n 1) (n 2) (n 3) (n 4) (n 5) A B C (c 0) (c 1) (c 2) (c 3) (c 4) (c 5)
section
variable{r0:Ay1 R}{s:RB}{px py pz:Nat}{aa ab ad:LA}
def Awt(N:Nat)(r0:Ay1 R)(s:RB)(px py pz:Nat)(aa ab ad:LA)(fuel:Nat)(n:Nat->Nat)(c:Nat->LA)(j x w y z:Int)(A B C:LA):O R:=H7 N (C5 N r0 s (n 0) (n 1) (n 2) (n 3) (n 4) (n 5) px py pz (c 0) (c 1) (c 2) (c 3) (c 4) (c 5) aa ab ad fuel) r0 s (n 0) (n 1) (n 2) (n 3) (n 4) (n 5) px py pz (c 0) (c 1) (c 2) (c 3) (c 4) (c 5) aa ab ad j x w y z A B C
def Ary{j k:Nat}(D:j<5){x w:Int}{n:Nat->Nat}{c:Nat->LA}{A B C:LA}:C5 N r0 s (n 0) (n 1) (n 2) (n 3) (n 4) (n 5) px py pz (c 0) (c 1) (c 2) (c 3) (c 4) (c 5) aa ab ad (k+1) (j:Int) x w A B C =
  cond (decide (w>=(j:Int))) (cond (decide (w>(j:Int))) (cond (Ab (wrap .i64 ((wrap .i64 (w - (j:Int))) - 1)) (n j)) (cond (ble 2 (((c j).drop (0+(((wrap .i64 ((wrap .i64 (w - (j:Int))) - 1)).toNat)*2))).length)) (Fi N (fz s n c) true w (((c j).drop (0+(((wrap .i64 ((wrap .i64 (w - (j:Int))) - 1)).toNat)*2))).take 2) false fun ba bb=>cond (bb||false) none (Ea N (fz s n c) true ba false x fun bc bd=>Awt N r0 s px py pz aa ab ad k n c (j:Int) x w bc bd A B C)) none) none)
   (Do N (fz s n c) true (j:Int) fun cf=>cond cf (E9 N (fz s n c) true fun cg=>Fi N (fz s n c) true w cg false fun ch ci=>cond (ci||false) none (Ea N (fz s n c) true ch false x fun cj ck=>Awt N r0 s px py pz aa ab ad k n c (j:Int) x w cj ck A B C)) (F3 N (fz s n c) true w fun cl=>Rf N cl false fun cm=>cond (decide (cm>0)) (Awt N r0 s px py pz aa ab ad k n c (j:Int) x w 0 (Cn s.rs (wrap .i64 (s.sr - x))) A B C) (Awt N r0 s px py pz aa ab ad k n c (j:Int) x w 0 0 A B C))))
   (Azl r0 n c A B C):=by
 have:j=0\/j=1\/j=2\/j=3\/j=4:=by omega
 rcases this with rfl|rfl|rfl|rfl|rfl<;>rfl
structure At(St:List Int)(En Re:List RatD)(h:Nat)(k:Int)(p r:Rat):Prop where
 st:St[h]?=some k
 en:∃ d,En[h]?=some d/\d.can p
 re:∃ d,Re[h]?=some d/\d.can r
def Same(j i:Nat)(St St':List Int)(En En' Re Re':List RatD):Prop:=∀ h,¬ (j<=h/\h<=j+i)->St'[h]?=St[h]?/\En'[h]?=En[h]?/\Re'[h]?=Re[h]?
def Ay2{j h H D:Nat}{x y z:Int}{n:Nat->Nat}{c:Nat->LA}{St:List Int}{En Re:List RatD}(L:-10000000<=x/\x<=10000000)(T:-10000000<=z/\z<=10000000)(hN:4<=N)(Y:St.length=H)(h2:En.length=H)(h3:Re.length=H)(hh:h<H)(hH:H<=1000)
  (k:∀ d e:RatD,d.can (x:Rat)->e.can (z:Rat)->C5 N r0 s (n 0) (n 1) (n 2) (n 3) (n 4) (n 5) H H H (c 0) (c 1) (c 2) (c 3) (c 4) (c 5) aa ab ad D (j:Int) y ((h:Int) - 1) (Am (St.set h 2)) ((En.set h d).flatMap RatD.av) ((Re.set h e).flatMap RatD.av)=X):Awt N r0 s H H H aa ab ad D n c (j:Int) x (h:Int) y z (Am St) (En.flatMap RatD.av) (Re.flatMap RatD.av)=X:=by
 unfold Awt H7
 rw[Aa hh,ct,A2u,A22,A3g,K2,show((beq 1 1)&&((ble (h+1) St.length)&&(!false)))=true by rw[show ble (h+1) St.length=true by rw[A3p];omega];rfl,ct]
 refine D0 (by omega) hN fun d G=>?_
 refine D0 (by omega) hN fun e I=>?_
 rw[ct,nQ,nQ,A22,show((beq (List.length d.av) 3)&&((ble (h*3+3) (En.length*3))&&(!false)))=true by rw[show ble (h*3+3) (En.length*3)=true by rw[A3p];omega];rfl,ct,ct,show((beq (List.length e.av) 3)&&((ble (h*3+3) (Re.length*3))&&(!false)))=true by rw[show ble (h*3+3) (Re.length*3)=true by rw[A3p];omega];rfl,ct,Avd (by omega),Avd (by omega),Bc _ (by omega),show(Am St).set h (.int .i64 2)=Am (St.set h 2) by unfold Am;rw[A8x]]
 exact k d e G I
end
end
end Gx.Uo
namespace Gx.Uo
open Go Go.Proofs
noncomputable section
variable{R:Type}{N:Nat}{X:O R}
section
variable{r0:Ay1 R}{aa ab ad:LA}{u:UnitD}{hh:Int}{H:Nat}{E Q V:List RatD}{a b:Nat->Rat}{o o1 o2:Bool}{n n0:Nat->Nat}{c c0:Nat->LA}
def Same.set{j i h:Nat}{St St':List Int}{En En' Re Re':List RatD}{v:Int}{d e:RatD}(s:Same j i (St.set h v) St' (En.set h d) En' (Re.set h e) Re')(hh:h=j+i+1):Same j (i+1) St St' En En' Re Re':=fun t k=>by
 have:=s t (by omega)
 have ne:h≠t:=by omega
 rw[A4k ne,A4k ne,A4k ne]at this
 exact this
def y_(D:DOk u hh H E Q V a b)(Y:fit 1000000 N){j:Nat}(hj:j<5){l:Rn}(hr:RI u a b j l)(hn:n j=l.length)(hc:c j=rc l):∀ i,i<l.length->j+i<H->∀(x:Int)(St:List Int)(En Re:List RatD)(G:Nat),Hu (un u) j i<=x->x<=S5 (un u) j i->St.length=H->En.length=H->Re.length=H->i+1<G ->
  (∀(St':List Int)(En' Re':List RatD),St'.length=H->En'.length=H->Re'.length=H->Same j i St St' En En' Re Re'->(∀ t,t<=i->At St' En' Re' (j+t) 2 (fP (un u) a b j i x t) (fR (un u) a b j i x t))->Azl r0 n c (Am St') (En'.flatMap RatD.av) (Re'.flatMap RatD.av)=X) ->
  C5 N r0 (rB u (H:Int) E Q V o o1 o2 n0 c0) (n 0) (n 1) (n 2) (n 3) (n 4) (n 5) H H H (c 0) (c 1) (c 2) (c 3) (c 4) (c 5) aa ab ad G (j:Int) x ((j+i:Nat):Int) (Am St) (En.flatMap RatD.av) (Re.flatMap RatD.av)=X
| 0,hi,hH,x,St,En,Re,G+1,x1,x2,e1,e2,e3,hfu,k=>by
  have h6:=D.h6
  have ko:=BM D.hv
  have hv:A4 (uN u o) hh=true:=D.hv
  have hR:=(Bf hv).2.1
  have hN:100001000<=N:=by have:=Y.1;omega
  have hm:=E6 D.hv
  obtain⟨r,er⟩:=Art (u:=u) (hs:=(H:Int)) (E:=E) (Q:=Q) (V:=V) (o:=o) (o1:=o1) (o2:=o2) (n:=n0) (n':=n) (c:=c0) (c':=c)
  obtain⟨f2,rfl⟩:∃ f2,G=f2+1:=⟨G - 1,by omega⟩
  have fin:∀(y z:Int),-10000000<=z/\z<=10000000->z=fR (un u) a b j 0 x 0->Awt N r0 (rB u (H:Int) E Q V o o1 o2 n0 c0) H H H aa ab ad (f2+1) n c (j:Int) x (j:Int) y z (Am St) (En.flatMap RatD.av) (Re.flatMap RatD.av)=X:=fun y z zb ze=>by
   have st:=Hm (a:=a) (b:=b) (fi:=j) ko 0
   have l0:u.min<=Hu (un u) j 0:=st.l0
   have l2:S5 (un u) j 0<=u.max:=st.l2
   refine Ay2 (by omega) zb (by omega) e1 e2 e3 (by omega) (by omega) fun d e hd he=>?_
   rw[Ary hj,decide_eq_false (show ¬ ((j:Int) - 1>=(j:Int)) by omega),cf]
   refine k _ _ _ (by simp[e1]) (by simp[e2]) (by simp[e3]) (fun h hh=>?_) fun t ht=>?_
   ·have ne:j≠h:=by omega
    rw[A4k ne,A4k ne,A4k ne]
    exact⟨rfl,rfl,rfl⟩
   ·have:t=0:=by omega
    subst this
    rw[A30]
    refine⟨A35 (by omega),⟨d,A35 (by omega),hd⟩,⟨e,A35 (by omega),?_⟩⟩
    rw[<-ze];exact he
  rw[Ary hj,A30,decide_eq_true (show(j:Int)>=(j:Int) by omega),ct,decide_eq_false (show ¬ (j:Int)>(j:Int) by omega),cf,er,Arg,show un (uN u o)=un u from rfl]
  unfold Hu at x1;unfold S5 at x2
  cases I:X1 (un u) j with
  |true =>
   rw[I]at x1 x2
   rw[ct]
   refine Af0 (by omega) hR fun W w1 w2=>?_
   refine Ai3 hR (D.pb j (by omega)) (by show 0<1;omega) w1 w2 (by omega) Y fun w T=>?_
   rw[show((false||false)||false)=false from rfl,cf]
   obtain⟨_,xr,_,cr⟩:=kS D.hv (a:=a j) (b:=b j) (D.pa j (by omega)).qm (D.pb j (by omega)).qm (UJ ko (xV I)) (B:=2) (fun z _ _=>qi (v:=0) (by omega)) x1 x2
   rw[show un (uN u o)=un u from rfl]at T ⊢
   have hq:=V1 (Bf D.hv).2.1 (D.pb j (by omega)).qm
   have w2':PB 2 (oL (un u)):=w2
   rw[uV (L:=oL (un u)) hR T hq (by show 0<1;omega) w2' (by omega) (Y.le (by omega))]
   exact fin _ _ cr (by show bM (un u) (oL (un u)) (Av (un u) (b j)) x=if X1 (un u) j=true then bM (un u) (oL (un u)) (Av (un u) (b j)) x else _;rw[if_pos I])
  | false =>
   rw[I]at x1 x2
   rw[cf]
   refine Abp hR (D.pb j (by omega)) (Y.le (by omega)) fun w T=>?_
   rw[show un (uN u o)=un u from rfl]at T
   have hq:=V1 (Bf D.hv).2.1 (D.pb j (by omega)).qm
   rw[Io T.ok (Y.le (by rw[T.m];omega)),T.q,Akz]
   have sr:=ko.sr0
   have sr:u.min<=u.startRamp/\u.startRamp<=u.max:=sr
   have x1:u.min<=x:=x1
   have x2:x<=u.startRamp:=x2
   have hrs:=(Bf D.hv).2.1.2.2.2.2.1
   have eR:Adh (un u) (Av (un u) (b j)) x=fR (un u) a b j 0 x 0:=by
    show _=if X1 (un u) j=true then _ else Adh (un u) (Av (un u) (b j)) x
    rw[if_neg (by rw[I];simp)]
   by_cases hp:0<Av (un u) (b j)
   ·rw[decide_eq_true hp,ct,show(rB u (H:Int) E Q V o o1 o2 n0 c0).rs=u.reserve from rfl,show(rB u (H:Int) E Q V o o1 o2 n0 c0).sr=u.startRamp from rfl,Bc _ (by omega),Dg]
    refine fin _ _ (by unfold Lt;split<;>omega) ?_
    rw[<-eR];unfold Adh;rw[if_pos hp];rfl
   ·rw[decide_eq_false hp,cf]
    refine fin _ _ (by omega) ?_
    rw[<-eR];unfold Adh;rw[if_neg hp]
| i+1,hi,hH,x,St,En,Re,G+1,x1,x2,e1,e2,e3,hfu,k=>by
  have h6:=D.h6
  have ko:=BM D.hv
  have hv:A4 (uN u o) hh=true:=D.hv
  have hR:=(Bf hv).2.1
  have hN:100001000<=N:=by have:=Y.1;omega
  have hm:=E6 D.hv
  obtain⟨r,er⟩:=Art (u:=u) (hs:=(H:Int)) (E:=E) (Q:=Q) (V:=V) (o:=o) (o1:=o1) (o2:=o2) (n:=n0) (n':=n) (c:=c0) (c':=c)
  have hil:i<l.length:=by omega
  obtain⟨w1,w2,w3⟩:=hr i hil
  have st:=Hm (a:=a) (b:=b) (fi:=j) ko i
  rw[<-w3]at st
  have q:=kS D.hv (a:=a (j+i+1)) (b:=b (j+i+1)) (D.pa _ (by omega)).qm (D.pb _ (by omega)).qm st (B:=540*(i+1)+2) (fun z z1 z2=>Abs D.hv (H:=H) (fun h hh=>(D.pa h hh).qm) (fun h hh=>(D.pb h hh).qm) i (by omega) z z1 z2) x1 x2
  obtain⟨_,xr,_,cr⟩:=q
  have bk:=GL ko (a:=a (j+i+1)) (b:=b (j+i+1)) st x1 x2
  have ej:wrap .i64 ((wrap .i64 (((j+(i+1):Nat):Int) - (j:Int))) - 1)=(i:Int):=by
   rw[Bc (((j+(i+1):Nat):Int) - (j:Int)) (by omega),Bc _ (by omega)];omega
  rw[Ary hj,decide_eq_true (show((j+(i+1):Nat):Int)>=(j:Int) by omega),ct,decide_eq_true (show((j+(i+1):Nat):Int)>(j:Int) by omega),ct,ej,hn,hc,Aa hil,ct,A22,A2u,Af1 l i hil,er]
  rw[show ble 2 (List.length (S9 l[i].1 l[i].2 false++rc (l.drop (i+1))))=true from rfl,ct,show take 2 (S9 l[i].1 l[i].2 false++rc (l.drop (i+1)))=S9 l[i].1 l[i].2 false from rfl]
  refine Ai3 hR (D.pb (j+(i+1)) (by omega)) st.up.cv.ne w1 w2 (by omega) Y fun w T=>?_
  rw[show((false||false)||false)=false from rfl,cf]
  rw[show un (uN u o)=un u from rfl]at T ⊢
  have hq:=V1 (Bf D.hv).2.1 (D.pb (j+(i+1)) (by omega)).qm
  rw[uV hR T hq st.up.cv.ne w2 (by omega) (Y.le (by omega)),show un (uN u o)=un u from rfl]
  refine Ay2 (by omega) cr (by omega) e1 e2 e3 (by omega) (by omega) fun d e hd he=>?_
  rw[show((j+(i+1):Nat):Int) - 1=((j+i:Nat):Int) by omega]
  refine y_ D Y hj hr hn hc i hil (by omega) _ _ _ _ G bk.1.1 bk.1.2 (by simp[e1]) (by simp[e2]) (by simp[e3]) (by omega) fun St' En' Re' l1 l2 l3 hs hA=>?_
  refine k St' En' Re' l1 l2 l3 (hs.set (by omega)) fun t ht=>?_
  have eP:fP (un u) a b j (i+1) x t=if t=i+1 then x else fP (un u) a b j i (gQ (un u) l[i].1 (Av (un u) (b (j+(i+1)))) x) t:=by rw[w3];rfl
  have eR:fR (un u) a b j (i+1) x t=if t=i+1 then bM (un u) l[i].1 (Av (un u) (b (j+(i+1)))) x else fR (un u) a b j i (gQ (un u) l[i].1 (Av (un u) (b (j+(i+1)))) x) t:=by rw[w3];rfl
  rw[eP,eR]
  by_cases h:t=i+1
  ·rw[if_pos h,if_pos h]
   subst h
   have:=hs (j+(i+1)) (by omega)
   rw[A35 (by omega),A35 (by omega),A35 (by omega)]at this
   exact⟨this.1,⟨d,this.2.1,hd⟩,⟨e,this.2.2,he⟩⟩
  ·rw[if_neg h,if_neg h]
   exact hA t (by omega)
end
end
end Gx.Uo
namespace Gx
open Go Go.Proofs
set_option maxRecDepth 100000
noncomputable section
variable{R:Type}(N:Nat)
def EV(k2:Int->N6 (L6 (L6 (O R))))(r0:LA->LA->Int->O R)(r:Int)(a:Nat)(f:LA)(c:Nat)(g d:Bool)(i j l m o p:Nat)(h:LA)(b:RB)(k3:Int->Int->Int->Int->N6 (L6 (L6 (O R))))(dm bm bn t:Int)(bo bp bq br bs bt:Nat)(bg bh bi bj bk bl bu bv bw bx bz ca:LA):O R:=(cond (decide (t<bn)) (cond (Ab t a) (cond (ble 2 ((h.drop (0+(t.toNat*2))).length)) (cond ((beq (((h.drop (0+(t.toNat*2))).take 2).length) 2)&&((ble 2 2)&&(!false))) (Aht dm fun i0=>cond (Ab t (v6 i0 i j l m o p)) (Wg ((v6 i0 bg bh bi bj bk bl).drop (0+(t.toNat*7))) fun no=>cond no (cond (ble 2 ((zS ((h.drop (0+(t.toNat*2))).take 2)).length)) (Jp N (iI i0) t ((zS ((h.drop (0+(t.toNat*2))).take 2)).take 2) f c g d i j l m o p bg bh bi bj bk bl (Agz b bo bp bq br bs bt bu bv bw bx bz ca) fun np nq nr ns nt nu nv nw nx ny nz oa ob oc od oe og oh=>k3 (iI i0) bm bn (wrap .i64 (t+1)) np nq nr ns nt nu nv nw nx ny nz oa ob oc od oe og oh) none) (k3 (iI i0) bm bn (wrap .i64 (t+1)) bo bp bq br bs bt bg bh bi bj bk bl bu bv bw bx bz ca)) none) none) none) none) (k2 (wrap .i64 (bm+1)) bo bp bq br bs bt bg bh bi bj bk bl bu bv bw bx bz ca))
def Na(k2:Int->N6 (L6 (L6 (O R))))(r0:LA->LA->Int->O R)(r:Int)(a:Nat)(f:LA)(c:Nat)(g d:Bool)(i j l m o p:Nat)(h:LA)(b:RB):Nat->Int->Int->Int->Int->N6 (L6 (L6 (O R)))
|0=>fun _ _ _ _ _ _ _ _ _ _ _ _ _ _ _ _ _ _ _ _ _ _=>none
|n+1=>EV N k2 r0 r a f c g d i j l m o p h b (Na k2 r0 r a f c g d i j l m o p h b n)
def Db(r0:LA->LA->Int->O R)(a:Nat)(f:LA)(c:Nat)(g d:Bool)(i j l m o p:Nat)(h:LA)(b:RB)(q:LA)(dn u:Int)(mu mv mw mx my mz:Nat)(du dv dw dx dy ng nh ni nj nk nl:LA):O R:=(cond (decide (u<0)) (r0 [.imm [] 0 1 false false,.imm [] 0 3 false false,.imm [] 0 3 false false] [.bool false,.imm [] 0 1 false false,.imm [] 0 1 false false] 7) (K6 N (h.take (a*2)) a false true u f c g d i j l m o p q du dv dw dx dy (Agz b mu mv mw mx my mz ng nh ni nj nk nl) fun bd sx sy sz ta tb tc td te tf tg th ti=>cond ((d||false)||((b.so||(b.ao||(b.eo||(b.qo||(b.po||(b.vo||false))))))||false)) none (Aht dn fun i0=>cond (Ab u (v6 i0 i j l m o p)) (cond (ble 3 (((v6 i0 q du dv dw dx dy).drop ((0+(u.toNat*7))+1)).length)) (cond ((beq 0 0)&&((beq bd.length 3)&&(beq 3 3))) (cond ((beq 0 0)&&((beq ((((v6 i0 q du dv dw dx dy).drop ((0+(u.toNat*7))+1)).take 3).length) 3)&&(beq 3 3))) (cond (ble 3 bd.length) (cond (ble 3 ((((v6 i0 q du dv dw dx dy).drop ((0+(u.toNat*7))+1)).take 3).length)) (r0 (bd.take 3) ((((v6 i0 q du dv dw dx dy).drop ((0+(u.toNat*7))+1)).take 3).take 3) 0) none) none) none) none) none) none)))
def MR(N n:Nat)(w:LA)(t len b:Int)(k:Int->O R)(z:O R):O R:=(cond (decide (t<len)) (cond (Ab t n) (cond (ble 7 ((w.drop (0+(t.toNat*7))).length)) (cond ((beq 0 0)&&((beq (((w.drop (0+(t.toNat*7))).take 7).length) 7)&&(beq 7 7))) (Wg ((w.drop (0+(t.toNat*7))).take 7) fun v0=>cond (v0==true) (cond ((decide (b<0))==false) (cond (ble 3 ((((w.drop (0+(t.toNat*7))).take 7).drop 1).length)) (cond (Ab b n) (cond (ble 3 ((w.drop ((0+(b.toNat*7))+1)).length)) (Ih N ((((w.drop (0+(t.toNat*7))).take 7).drop 1).take 3) false ((w.drop ((0+(b.toNat*7))+1)).take 3) false fun v1=>cond (cond true (cond false true (decide (v1>0))) false) (k t) (k b)) none) none) none) (k t)) (k b)) none) none) none) z)
def gK(r0:LA->LA->Int->O R)(a i:Nat)(f:LA)(c:Nat)(g d:Bool)(j l m o p:Nat)(h q:LA)(b:RB)(k10:Int->Int->Int->N6 (L6 (LA->LA->LA->LA->LA->O R)))(q16:Int->Int->N6 (L6 (LA->LA->LA->LA->LA->O R)))(cn dz cb:Int)(ea eb ec ed ee ef:Nat)(eg eh ei ej ek el em en ep er es:LA):O R:=(MR N i q cb dz cn (fun b0=>k10 b0 dz (wrap .i64 (cb+1)) ea eb ec ed ee ef eg eh ei ej ek el em en ep er es) (q16 0 cn ea eb ec ed ee ef eg eh ei ej ek el em en ep er es))
def TQ(r0:LA->LA->Int->O R)(a i:Nat)(f:LA)(c:Nat)(g d:Bool)(j l m o p:Nat)(h q:LA)(b:RB):Nat->Int->Int->Int->N6 (L6 (LA->LA->LA->LA->LA->O R))
|0=>fun _ _ _ _ _ _ _ _ _ _ _ _ _ _ _ _ _ _ _ _=>none
|n+1=>gK N r0 a i f c g d j l m o p h q b (TQ r0 a i f c g d j l m o p h q b n) (Db N r0 a f c g d i j l m o p h b q)
def nY(N:Nat)(r0:LA->LA->Int->O R)(a i:Nat)(f:LA)(c:Nat)(g d:Bool)(j l m o p:Nat)(h q:LA)(b:RB)(q10:Int->Int->Int->N6 (L6 (LA->LA->LA->LA->LA->O R)))(id:Int)(ie ig ii ij ik il:Nat)(im io ip iq ir it iu iw ix iy iz:LA):O R:=(q10 (-1) id 0 ie ig ii ij ik il im io ip iq ir it iu iw ix iy iz)
def ua(r0:LA->LA->Int->O R)(a i:Nat)(f:LA)(c:Nat)(g d:Bool)(j l m o p:Nat)(h q:LA)(b:RB)(id:Int)(ie ig ii ij ik il:Nat)(im io ip iq ir it iu iw ix iy iz:LA):O R:=nY N r0 a i f c g d j l m o p h q b (TQ N r0 a i f c g d j l m o p h q b N) id ie ig ii ij ik il im io ip iq ir it iu iw ix iy iz
def MS(r0:LA->LA->Int->O R)(a j:Nat)(f:LA)(c:Nat)(g d:Bool)(i l m o p:Nat)(h:LA)(b:RB)(q:LA)(k11:Int->Int->Int->LA->N6 (L6 (LA->LA->LA->LA->O R)))(q16:Int->Int->N6 (L6 (LA->LA->LA->LA->LA->O R)))(co et cc:Int)(ci:LA)(eu ev ew ex ey ez:Nat)(fa fb fc fd fe ff fg fh fi fj:LA):O R:=(MR N j ci cc et co (fun b0=>k11 b0 et (wrap .i64 (cc+1)) ci eu ev ew ex ey ez fa fb fc fd fe ff fg fh fi fj) (q16 1 co eu ev ew ex ey ez ci fa fb fc fd fe ff fg fh fi fj))
def Wa(r0:LA->LA->Int->O R)(a j:Nat)(f:LA)(c:Nat)(g d:Bool)(i l m o p:Nat)(h:LA)(b:RB)(q:LA):Nat->Int->Int->Int->LA->N6 (L6 (LA->LA->LA->LA->O R))
|0=>fun _ _ _ _ _ _ _ _ _ _ _ _ _ _ _ _ _ _ _ _=>none
|n+1=>MS N r0 a j f c g d i l m o p h b q (Wa r0 a j f c g d i l m o p h b q n) (Db N r0 a f c g d i j l m o p h b q)
def nZ(N:Nat)(r0:LA->LA->Int->O R)(a j:Nat)(f:LA)(c:Nat)(g d:Bool)(i l m o p:Nat)(h:LA)(b:RB)(q:LA)(q11:Int->Int->Int->LA->N6 (L6 (LA->LA->LA->LA->O R)))(ja:Int)(jb:LA)(jc jd je jf jg jh:Nat)(ji jj jk jl jm jn jo jp jq jr:LA):O R:=(q11 (-1) ja 0 jb jc jd je jf jg jh ji jj jk jl jm jn jo jp jq jr)
def ud(r0:LA->LA->Int->O R)(a j:Nat)(f:LA)(c:Nat)(g d:Bool)(i l m o p:Nat)(h:LA)(b:RB)(q:LA)(ja:Int)(jb:LA)(jc jd je jf jg jh:Nat)(ji jj jk jl jm jn jo jp jq jr:LA):O R:=nZ N r0 a j f c g d i l m o p h b q (Wa N r0 a j f c g d i l m o p h b q N) ja jb jc jd je jf jg jh ji jj jk jl jm jn jo jp jq jr
def MT(r0:LA->LA->Int->O R)(a l:Nat)(f:LA)(c:Nat)(g d:Bool)(i j m o p:Nat)(h:LA)(b:RB)(q:LA)(k12:Int->Int->Int->LA->N6 (L6 (LA->LA->LA->LA->O R)))(q16:Int->Int->N6 (L6 (LA->LA->LA->LA->LA->O R)))(cp fk cd:Int)(cj:LA)(fl fm fn fo fp fq:Nat)(fr fs ft fu fv fw fx fy fz ga:LA):O R:=(MR N l cj cd fk cp (fun b0=>k12 b0 fk (wrap .i64 (cd+1)) cj fl fm fn fo fp fq fr fs ft fu fv fw fx fy fz ga) (q16 2 cp fl fm fn fo fp fq fr cj fs ft fu fv fw fx fy fz ga))
def Wb(r0:LA->LA->Int->O R)(a l:Nat)(f:LA)(c:Nat)(g d:Bool)(i j m o p:Nat)(h:LA)(b:RB)(q:LA):Nat->Int->Int->Int->LA->N6 (L6 (LA->LA->LA->LA->O R))
|0=>fun _ _ _ _ _ _ _ _ _ _ _ _ _ _ _ _ _ _ _ _=>none
|n+1=>MT N r0 a l f c g d i j m o p h b q (Wb r0 a l f c g d i j m o p h b q n) (Db N r0 a f c g d i j l m o p h b q)
def n6(N:Nat)(r0:LA->LA->Int->O R)(a l:Nat)(f:LA)(c:Nat)(g d:Bool)(i j m o p:Nat)(h:LA)(b:RB)(q:LA)(q12:Int->Int->Int->LA->N6 (L6 (LA->LA->LA->LA->O R)))(js:Int)(jt:LA)(ju jv jw jx jy jz:Nat)(kg kh ki kj kk kl km kn ko kp:LA):O R:=(q12 (-1) js 0 jt ju jv jw jx jy jz kg kh ki kj kk kl km kn ko kp)
def ue(r0:LA->LA->Int->O R)(a l:Nat)(f:LA)(c:Nat)(g d:Bool)(i j m o p:Nat)(h:LA)(b:RB)(q:LA)(js:Int)(jt:LA)(ju jv jw jx jy jz:Nat)(kg kh ki kj kk kl km kn ko kp:LA):O R:=n6 N r0 a l f c g d i j m o p h b q (Wb N r0 a l f c g d i j m o p h b q N) js jt ju jv jw jx jy jz kg kh ki kj kk kl km kn ko kp
def MU(r0:LA->LA->Int->O R)(a m:Nat)(f:LA)(c:Nat)(g d:Bool)(i j l o p:Nat)(h:LA)(b:RB)(q:LA)(k13:Int->Int->Int->LA->N6 (L6 (LA->LA->LA->LA->O R)))(q16:Int->Int->N6 (L6 (LA->LA->LA->LA->LA->O R)))(cq gb ce:Int)(ck:LA)(gc gd ge gf gg gh:Nat)(gi gj gk gl gm gn go gp gq gr:LA):O R:=(MR N m ck ce gb cq (fun b0=>k13 b0 gb (wrap .i64 (ce+1)) ck gc gd ge gf gg gh gi gj gk gl gm gn go gp gq gr) (q16 3 cq gc gd ge gf gg gh gi gj ck gk gl gm gn go gp gq gr))
def Wc(r0:LA->LA->Int->O R)(a m:Nat)(f:LA)(c:Nat)(g d:Bool)(i j l o p:Nat)(h:LA)(b:RB)(q:LA):Nat->Int->Int->Int->LA->N6 (L6 (LA->LA->LA->LA->O R))
|0=>fun _ _ _ _ _ _ _ _ _ _ _ _ _ _ _ _ _ _ _ _=>none
|n+1=>MU N r0 a m f c g d i j l o p h b q (Wc r0 a m f c g d i j l o p h b q n) (Db N r0 a f c g d i j l m o p h b q)
def n7(N:Nat)(r0:LA->LA->Int->O R)(a m:Nat)(f:LA)(c:Nat)(g d:Bool)(i j l o p:Nat)(h:LA)(b:RB)(q:LA)(q13:Int->Int->Int->LA->N6 (L6 (LA->LA->LA->LA->O R)))(kq:Int)(kr:LA)(kt ku kv kw kx ky:Nat)(kz la lb lc ld le lf lg lh li:LA):O R:=(q13 (-1) kq 0 kr kt ku kv kw kx ky kz la lb lc ld le lf lg lh li)
def uf(r0:LA->LA->Int->O R)(a m:Nat)(f:LA)(c:Nat)(g d:Bool)(i j l o p:Nat)(h:LA)(b:RB)(q:LA)(kq:Int)(kr:LA)(kt ku kv kw kx ky:Nat)(kz la lb lc ld le lf lg lh li:LA):O R:=n7 N r0 a m f c g d i j l o p h b q (Wc N r0 a m f c g d i j l o p h b q N) kq kr kt ku kv kw kx ky kz la lb lc ld le lf lg lh li
def MV(r0:LA->LA->Int->O R)(a o:Nat)(f:LA)(c:Nat)(g d:Bool)(i j l m p:Nat)(h:LA)(b:RB)(q:LA)(k14:Int->Int->Int->LA->N6 (L6 (LA->LA->LA->LA->O R)))(q16:Int->Int->N6 (L6 (LA->LA->LA->LA->LA->O R)))(cr gs cf:Int)(cl:LA)(gt gu gv gw gx gy:Nat)(gz ha hb hc hd he hf hg hi hj:LA):O R:=(MR N o cl cf gs cr (fun b0=>k14 b0 gs (wrap .i64 (cf+1)) cl gt gu gv gw gx gy gz ha hb hc hd he hf hg hi hj) (q16 4 cr gt gu gv gw gx gy gz ha hb cl hc hd he hf hg hi hj))
def Wd(r0:LA->LA->Int->O R)(a o:Nat)(f:LA)(c:Nat)(g d:Bool)(i j l m p:Nat)(h:LA)(b:RB)(q:LA):Nat->Int->Int->Int->LA->N6 (L6 (LA->LA->LA->LA->O R))
|0=>fun _ _ _ _ _ _ _ _ _ _ _ _ _ _ _ _ _ _ _ _=>none
|n+1=>MV N r0 a o f c g d i j l m p h b q (Wd r0 a o f c g d i j l m p h b q n) (Db N r0 a f c g d i j l m o p h b q)
def n8(N:Nat)(r0:LA->LA->Int->O R)(a o:Nat)(f:LA)(c:Nat)(g d:Bool)(i j l m p:Nat)(h:LA)(b:RB)(q:LA)(q14:Int->Int->Int->LA->N6 (L6 (LA->LA->LA->LA->O R)))(lj:Int)(lk:LA)(ll lm ln lo lp lq:Nat)(lr ls lt lu lv lw lx ly lz ma:LA):O R:=(q14 (-1) lj 0 lk ll lm ln lo lp lq lr ls lt lu lv lw lx ly lz ma)
def ug(r0:LA->LA->Int->O R)(a o:Nat)(f:LA)(c:Nat)(g d:Bool)(i j l m p:Nat)(h:LA)(b:RB)(q:LA)(lj:Int)(lk:LA)(ll lm ln lo lp lq:Nat)(lr ls lt lu lv lw lx ly lz ma:LA):O R:=n8 N r0 a o f c g d i j l m p h b q (Wd N r0 a o f c g d i j l m p h b q N) lj lk ll lm ln lo lp lq lr ls lt lu lv lw lx ly lz ma
def MW(r0:LA->LA->Int->O R)(a p:Nat)(f:LA)(c:Nat)(g d:Bool)(i j l m o:Nat)(h:LA)(b:RB)(q:LA)(k15:Int->Int->Int->LA->N6 (L6 (LA->LA->LA->LA->O R)))(q16:Int->Int->N6 (L6 (LA->LA->LA->LA->LA->O R)))(cs hk cg:Int)(cm:LA)(hl hm hn ho hp hr:Nat)(ht hu hv hw hx hy hz ia ib ic:LA):O R:=(MR N p cm cg hk cs (fun b0=>k15 b0 hk (wrap .i64 (cg+1)) cm hl hm hn ho hp hr ht hu hv hw hx hy hz ia ib ic) (q16 5 cs hl hm hn ho hp hr ht hu hv hw cm hx hy hz ia ib ic))
def We(r0:LA->LA->Int->O R)(a p:Nat)(f:LA)(c:Nat)(g d:Bool)(i j l m o:Nat)(h:LA)(b:RB)(q:LA):Nat->Int->Int->Int->LA->N6 (L6 (LA->LA->LA->LA->O R))
|0=>fun _ _ _ _ _ _ _ _ _ _ _ _ _ _ _ _ _ _ _ _=>none
|n+1=>MW N r0 a p f c g d i j l m o h b q (We r0 a p f c g d i j l m o h b q n) (Db N r0 a f c g d i j l m o p h b q)
def n9(N:Nat)(r0:LA->LA->Int->O R)(a p:Nat)(f:LA)(c:Nat)(g d:Bool)(i j l m o:Nat)(h:LA)(b:RB)(q:LA)(q15:Int->Int->Int->LA->N6 (L6 (LA->LA->LA->LA->O R)))(mb:Int)(mc:LA)(md me mf mg mh mi:Nat)(mj mk ml mm mn mo mp mq mr ms:LA):O R:=(q15 (-1) mb 0 mc md me mf mg mh mi mj mk ml mm mn mo mp mq mr ms)
def ui(r0:LA->LA->Int->O R)(a p:Nat)(f:LA)(c:Nat)(g d:Bool)(i j l m o:Nat)(h:LA)(b:RB)(q:LA)(mb:Int)(mc:LA)(md me mf mg mh mi:Nat)(mj mk ml mm mn mo mp mq mr ms:LA):O R:=n9 N r0 a p f c g d i j l m o h b q (We N r0 a p f c g d i j l m o h b q N) mb mc md me mf mg mh mi mj mk ml mm mn mo mp mq mr ms
def EW(N:Nat)(r0:LA->LA->Int->O R)(r:Int)(a:Nat)(f:LA)(c:Nat)(g d:Bool)(i j l m o p:Nat)(h:LA)(b:RB)(k2:Int->N6 (L6 (L6 (O R))))(q3:Int->Int->Int->Int->N6 (L6 (L6 (O R))))(q4:LA->Int->N6 (L6 (LA->LA->LA->LA->LA->O R)))(q5:LA->Int->LA->N6 (L6 (LA->LA->LA->LA->O R)))(q6:LA->Int->LA->N6 (L6 (LA->LA->LA->LA->O R)))(q7:LA->Int->LA->N6 (L6 (LA->LA->LA->LA->O R)))(q8:LA->Int->LA->N6 (L6 (LA->LA->LA->LA->O R)))(q9:LA->Int->LA->N6 (L6 (LA->LA->LA->LA->O R)))(mt:Int)(ct cu cv cw cx cy:Nat)(q cz da db dc dd de df dg dh di dj:LA):O R:=(cond (decide (mt<r)) (q3 mt mt (a:Int) 0 ct cu cv cw cx cy q cz da db dc dd de df dg dh di dj) (cond (r==0) (q4 q (i:Int) ct cu cv cw cx cy cz da db dc dd de df dg dh di dj) (cond (r==1) (q5 q (j:Int) cz ct cu cv cw cx cy da db dc dd de df dg dh di dj) (cond (r==2) (q6 q (l:Int) da ct cu cv cw cx cy cz db dc dd de df dg dh di dj) (cond (r==3) (q7 q (m:Int) db ct cu cv cw cx cy cz da dc dd de df dg dh di dj) (cond (r==4) (q8 q (o:Int) dc ct cu cv cw cx cy cz da db dd de df dg dh di dj) (cond (r==5) (q9 q (p:Int) dd ct cu cv cw cx cy cz da db dc de df dg dh di dj) none)))))))
def Kk(r0:LA->LA->Int->O R)(r:Int)(a:Nat)(f:LA)(c:Nat)(g d:Bool)(i j l m o p:Nat)(h:LA)(b:RB):Nat->Int->N6 (L6 (L6 (O R)))
|0=>fun _ _ _ _ _ _ _ _ _ _ _ _ _ _ _ _ _ _ _=>none
|n+1=>EW N r0 r a f c g d i j l m o p h b (Kk r0 r a f c g d i j l m o p h b n) (Na N (Kk r0 r a f c g d i j l m o p h b n) r0 r a f c g d i j l m o p h b N) (fun q=>ua N r0 a i f c g d j l m o p h q b) (fun q=>ud N r0 a j f c g d i l m o p h b q) (fun q=>ue N r0 a l f c g d i j m o p h b q) (fun q=>uf N r0 a m f c g d i j l o p h b q) (fun q=>ug N r0 a o f c g d i j l m p h b q) (fun q=>ui N r0 a p f c g d i j l m o h b q)
def EX(r0:LA->LA->Int->O R)(r:Int)(a:Nat)(v:Lu)(w x y:Int)(z:LA)(aa:Nat)(s:Bool)(ab ac ad ae af ag ah ai aj ak al am an:Int)(ap:LA)(aq:Nat)(ar au av:Int)(f:LA)(c:Nat)(g d:Bool)(h:LA)(b:RB)(k1:Int->Int->N6 (L6 (O R)))(q2:N6 (Int->N6 (L6 (L6 (O R)))))(dk ch:Int)(i j l m o p:Nat)(dl dp dq dr ds dt:LA):O R:=(cond (decide (ch<dk)) (Aht ch fun i0=>cond ((decide (0<=(a:Int)))&&((decide ((a:Int)<=(a:Int)))&&((decide ((a:Int)<=140737488355328))&&(decide (((a:Int)*((88:Nat):Int))<=140737488355328))))) (p6 i0 (List.flatten (replicate a ([.bool false,.bool false,.nsl,.nsl,Bbr,Bbr,.bool false]:LA))) dl dp dq dr ds dt (p6 i0 a i j l m o p (k1 dk (wrap .i64 (ch+1))))) none) (KJ N (Avw s v w x y z aa ab ac ad ae af ag ah ai aj ak al am an ap aq ar au av) (s||(s||false)) fun ss=>Hy N (Avw s v w x y z aa ab ac ad ae af ag ah ai aj ak al am an ap aq ar au av) (s||(s||false)) ss false fun nm=>A7 N 0 fun nn=>cond ((beq nn.length 3)&&(ble 4 7)) (cond (Ab nm i) (cond ((beq ((setCells [.bool true,.bool false,.nsl,.nsl,Bbr,Bbr,.bool false] 1 nn).length) 7)&&((ble ((0+(nm.toNat*7))+7) dl.length)&&(!false))) (q2 i j l m o p 0 b.na b.nb b.nc b.nd b.ne b.nf (setCells dl (0+(nm.toNat*7)) (setCells [.bool true,.bool false,.nsl,.nsl,Bbr,Bbr,.bool false] 1 nn)) dp dq dr ds dt b.ka b.kb b.kc b.kd b.ke b.kf) none) none) none))
def Ui(r0:LA->LA->Int->O R)(r:Int)(a:Nat)(v:Lu)(w x y:Int)(z:LA)(aa:Nat)(s:Bool)(ab ac ad ae af ag ah ai aj ak al am an:Int)(ap:LA)(aq:Nat)(ar au av:Int)(f:LA)(c:Nat)(g d:Bool)(h:LA)(b:RB):Nat->Int->Int->N6 (L6 (O R))
|0=>fun _ _ _ _ _ _ _ _ _ _ _ _ _ _=>none
|n+1=>EX N r0 r a v w x y z aa s ab ac ad ae af ag ah ai aj ak al am an ap aq ar au av f c g d h b (Ui r0 r a v w x y z aa s ab ac ad ae af ag ah ai aj ak al am an ap aq ar au av f c g d h b n) (fun i j l m o p=>Kk N r0 r a f c g d i j l m o p h b N)
def TR(r0:LA->LA->Int->O R)(r:Int)(az:LA)(ax:Nat)(be ba:Bool)(bb:LA)(ay:Nat)(bf bc:Bool)(f:LA)(c:Nat)(g d:Bool)(v:Lu)(w x y:Int)(z:LA)(aa:Nat)(s:Bool)(ab ac ad ae af ag ah ai aj ak al am an:Int)(ap:LA)(aq:Nat)(ar au av:Int)(q1:Nat->LA->RB->Int->Int->N6 (L6 (O R))):O R:=(X8 N (Avw s v w x y z aa ab ac ad ae af ag ah ai aj ak al am an ap aq ar au av) (s||(s||false)) r az ax false ba bb ay false bc fun b=>HJ N (Avw s v w x y z aa ab ac ad ae af ag ah ai aj ak al am an ap aq ar au av) (s||(s||false)) fun a h=>q1 a h b (wrap .i64 (r+1)) 0 0 0 0 0 0 0 [] [] [] [] [] [])
def MX(r0:LA->LA->Int->O R)(r:Int)(az:LA)(ax:Nat)(be ba:Bool)(bb:LA)(ay:Nat)(bf bc:Bool)(f:LA)(c:Nat)(g d:Bool)(v:Lu)(w x y:Int)(z:LA)(aa:Nat)(s:Bool)(ab ac ad ae af ag ah ai aj ak al am an:Int)(ap:LA)(aq:Nat)(ar au av:Int):O R:=TR N r0 r az ax be ba bb ay bf bc f c g d v w x y z aa s ab ac ad ae af ag ah ai aj ak al am an ap aq ar au av fun a h b=>Ui N r0 r a v w x y z aa s ab ac ad ae af ag ah ai aj ak al am an ap aq ar au av f c g d h b N
def gL(r0:LA->LA->Int->O R)(q0:Lu->Int->Int->Int->LA->Nat->Int->Int->Int->Int->Int->Int->Int->Int->Int->Int->Int->Int->Int->LA->Nat->Int->Int->Int->O R)(aw:LA)(s:Bool)(r:Int)(az:LA)(ax:Nat)(be ba:Bool)(bb:LA)(ay:Nat)(bf bc:Bool)(f:LA)(c:Nat)(g d:Bool):O R:=(Aze aw fun v=>Aj .i64 (aw.drop 1) fun w=>Aj .i64 (aw.drop 2) fun x=>Aj .i64 (aw.drop 3) fun y=>Dd 2 (aw.drop 4) fun z aa=>Aj .i64 (aw.drop 5) fun ab=>Aj .i64 (aw.drop 6) fun ac=>Aj .i64 (aw.drop 7) fun ad=>Aj .i64 (aw.drop 8) fun ae=>Aj .i64 (aw.drop 9) fun af=>Aj .i64 (aw.drop 10) fun ag=>Aj .i64 (aw.drop 11) fun ah=>Aj .i64 (aw.drop 12) fun ai=>Aj .i64 (aw.drop 13) fun aj=>Aj .i64 (aw.drop 14) fun ak=>Aj .i64 (aw.drop 15) fun al=>Aj .i64 (aw.drop 16) fun am=>Aj .i64 (aw.drop 17) fun an=>Dd 1 (aw.drop 18) fun ap aq=>Aj .i64 (aw.drop 19) fun ar=>Aj .i64 (aw.drop 20) fun au=>Aj .i64 (aw.drop 21) fun av=>cond (beq aw.length 22) (RL N (Avw s v w x y z aa ab ac ad ae af ag ah ai aj ak al am an ap aq ar au av) (s||(s||false)) r fun st=>cond (!st) (r0 [.imm [] 0 1 false false,.imm [] 0 3 false false,.imm [] 0 3 false false] [.bool false,.imm [] 0 1 false false,.imm [] 0 1 false false] 1) (cond (((ax:Int) != r)==false) (cond ((cond false true ((ay:Int) != r))==false) (cond (cond false true ((c:Int) != r)) (r0 [.imm [] 0 1 false false,.imm [] 0 3 false false,.imm [] 0 3 false false] [.bool false,.imm [] 0 1 false false,.imm [] 0 1 false false] 4) (q0 v w x y z aa ab ac ad ae af ag ah ai aj ak al am an ap aq ar au av)) (r0 [.imm [] 0 1 false false,.imm [] 0 3 false false,.imm [] 0 3 false false] [.bool false,.imm [] 0 1 false false,.imm [] 0 1 false false] 4)) (r0 [.imm [] 0 1 false false,.imm [] 0 3 false false,.imm [] 0 3 false false] [.bool false,.imm [] 0 1 false false,.imm [] 0 1 false false] 4))) none)
def gM:=(shut fun N aw s r az ax be ba bb ay bf bc f c g d r0=>gL (R:=R) N r0 (fun v w x y z aa ab ac ad ae af ag ah ai aj ak al am an ap aq ar au av=>MX N r0 r az ax be ba bb ay bf bc f c g d v w x y z aa s ab ac ad ae af ag ah ai aj ak al am an ap aq ar au av) aw s r az ax be ba bb ay bf bc f c g d).1
def n_(aw s r az ax be ba bb ay bf bc f c g d r0):(@gM R N aw s r az ax be ba bb ay bf bc f c g d r0)=(gL N r0 (fun v w x y z aa ab ac ad ae af ag ah ai aj ak al am an ap aq ar au av=>MX N r0 r az ax be ba bb ay bf bc f c g d v w x y z aa s ab ac ad ae af ag ah ai aj ak al am an ap aq ar au av) aw s r az ax be ba bb ay bf bc f c g d):=by rw[gM,(shut _).2]
def uj:Hints:={H:=hK 2 (hJ [1,2,3,4,5,10,11] hL (hK 2 (hS (hK 1 (hS (hP [1,5,10,11,13,14,57,58] hL) hL)) (hK 1 (hS (hK 1 (hS (hP [1,10,11,13,14,82,83] (hK 2 (hS (hS (hK 2 (hS (hP [1,10,11,13,14,16,82,83,86,87,88] hL) hL)) hL) hL))) hL)) (hK 1 (hJ [1,10,11,13,14,19] (hJ [1,10,11,13,14,19,115,116,117] hL (hS (hP [1,10,11,13,14,19,115,116,117] hL) hL)) hL))))))),modes:=[(3,0),(3,0),(0,0)],cob:=[5,26,27,44,45,52,53,148,149,6000062,6000094,6000111,6000131,6000155,8000153]}
def ya:Oe:=[Aib N,sJ N,Aeg N,Aan N,FL N,Cp N,bB N,Ri N,gJ N]
def Dc(F:KF R):=Iv Tryz.f23 uj (ya N) [] N F
def Az(F:KF R):LA->LA->Int->O R:=fun su sv sw=>F (.tup [.pagg su false,.pagg sv false,iv sw]) []
def Ajd(r:Int)(a:Nat)(f:LA)(c:Nat)(g d:Bool)(i j l m o p:Nat)(h:LA)(b:RB)(K:St->O R):=fun dm bm bn t bo bp bq br bs bt bg bh bi bj bk bl bu bv bw bx bz ca=>K ⟨[(1,iv r),(10,op 0),(11,op 1),(13,op 2),(14,Bbq 3 a),(16,iv dm),(82,iv r),(83,iv bm),(86,Bbq 3 a),(87,iv bn),(88,iv t)],hq [bN 0 [.nsl,.nsl,.nsl],bN 0 [.bool false,.nsl,.nsl],bN 0 [op 4,.imm f c 1 g d,Bbq 5 i,Bbq 6 j,Bbq 7 l,Bbq 8 m,Bbq 9 o,.own 300010 0 p,.nsl,.nsl,.nsl,.nsl,.nsl,.nsl,.nsl,.nsl,.nsl,.nsl,.nsl,.nsl,.nsl,.nsl,.nsl,.nsl,.nsl,.nsl,.nsl],bQ 2 h,bN 0 (Zt 300010 {b with na:=bo,nb:=bp,nc:=bq,nd:=br,ne:=bs,nf:=bt}),bQ 7 bg,bQ 7 bh,bQ 7 bi,bQ 7 bj,bQ 7 bk,bQ 7 bl,bQ 2 bu,bQ 2 bv,bQ 2 bw,bQ 2 bx,bQ 2 bz,bQ 2 ca]⟩
def Agc(a:Nat)(f:LA)(c:Nat)(g d:Bool)(i j l m o p:Nat)(h:LA)(b:RB)(q:LA)(K:St->O R):=fun dn u mu mv mw mx my mz du dv dw dx dy ng nh ni nj nk nl=>K ⟨[(1,iv dn),(10,op 0),(11,op 1),(13,op 2),(14,Bbq 3 a),(19,iv u)],hq [bN 0 [.nsl,.nsl,.nsl],bN 0 [.bool false,.nsl,.nsl],bN 0 [op 4,.imm f c 1 g d,Bbq 5 i,Bbq 6 j,Bbq 7 l,Bbq 8 m,Bbq 9 o,.own 300010 0 p,.nsl,.nsl,.nsl,.nsl,.nsl,.nsl,.nsl,.nsl,.nsl,.nsl,.nsl,.nsl,.nsl,.nsl,.nsl,.nsl,.nsl,.nsl,.nsl],bQ 2 h,bN 0 (Zt 300010 {b with na:=mu,nb:=mv,nc:=mw,nd:=mx,ne:=my,nf:=mz}),bQ 7 q,bQ 7 du,bQ 7 dv,bQ 7 dw,bQ 7 dx,bQ 7 dy,bQ 2 ng,bQ 2 nh,bQ 2 ni,bQ 2 nj,bQ 2 nk,bQ 2 nl]⟩
def Agd(a i:Nat)(f:LA)(c:Nat)(g d:Bool)(j l m o p:Nat)(h q:LA)(b:RB)(K:St->O R):=fun cn dz cb ea eb ec ed ee ef eg eh ei ej ek el em en ep er es=>K ⟨[(1,iv 0),(10,op 0),(11,op 1),(13,op 2),(14,Bbq 3 a),(19,iv cn),(115,Bbq 4 i),(116,iv dz),(117,iv cb)],hq [bN 0 [.nsl,.nsl,.nsl],bN 0 [.bool false,.nsl,.nsl],bN 0 [op 5,.imm f c 1 g d,Bbq 4 i,Bbq 6 j,Bbq 7 l,Bbq 8 m,Bbq 9 o,.own 300010 0 p,.nsl,.nsl,.nsl,.nsl,.nsl,.nsl,.nsl,.nsl,.nsl,.nsl,.nsl,.nsl,.nsl,.nsl,.nsl,.nsl,.nsl,.nsl,.nsl],bQ 2 h,bQ 7 q,bN 0 (Zt 300010 {b with na:=ea,nb:=eb,nc:=ec,nd:=ed,ne:=ee,nf:=ef}),bQ 7 eg,bQ 7 eh,bQ 7 ei,bQ 7 ej,bQ 7 ek,bQ 2 el,bQ 2 em,bQ 2 en,bQ 2 ep,bQ 2 er,bQ 2 es]⟩
def Aje(a i:Nat)(f:LA)(c:Nat)(g d:Bool)(j l m o p:Nat)(h q:LA)(b:RB)(K:St->O R):=fun id ie ig ii ij ik il im io ip iq ir it iu iw ix iy iz=>K ⟨[(1,iv 0),(10,op 0),(11,op 1),(13,op 2),(14,Bbq 3 a),(19,iv (-1)),(115,Bbq 4 i),(116,iv id),(117,iv 0)],hq [bN 0 [.nsl,.nsl,.nsl],bN 0 [.bool false,.nsl,.nsl],bN 0 [op 5,.imm f c 1 g d,Bbq 4 i,Bbq 6 j,Bbq 7 l,Bbq 8 m,Bbq 9 o,.own 300010 0 p,.nsl,.nsl,.nsl,.nsl,.nsl,.nsl,.nsl,.nsl,.nsl,.nsl,.nsl,.nsl,.nsl,.nsl,.nsl,.nsl,.nsl,.nsl,.nsl],bQ 2 h,bQ 7 q,bN 0 (Zt 300010 {b with na:=ie,nb:=ig,nc:=ii,nd:=ij,ne:=ik,nf:=il}),bQ 7 im,bQ 7 io,bQ 7 ip,bQ 7 iq,bQ 7 ir,bQ 2 it,bQ 2 iu,bQ 2 iw,bQ 2 ix,bQ 2 iy,bQ 2 iz]⟩
def Age(a j:Nat)(f:LA)(c:Nat)(g d:Bool)(i l m o p:Nat)(h:LA)(b:RB)(q:LA)(K:St->O R):=fun co et cc ci eu ev ew ex ey ez fa fb fc fd fe ff fg fh fi fj=>K ⟨[(1,iv 1),(10,op 0),(11,op 1),(13,op 2),(14,Bbq 3 a),(19,iv co),(115,Bbq 4 j),(116,iv et),(117,iv cc)],hq [bN 0 [.nsl,.nsl,.nsl],bN 0 [.bool false,.nsl,.nsl],bN 0 [op 5,.imm f c 1 g d,Bbq 6 i,Bbq 4 j,Bbq 7 l,Bbq 8 m,Bbq 9 o,.own 300010 0 p,.nsl,.nsl,.nsl,.nsl,.nsl,.nsl,.nsl,.nsl,.nsl,.nsl,.nsl,.nsl,.nsl,.nsl,.nsl,.nsl,.nsl,.nsl,.nsl],bQ 2 h,bQ 7 ci,bN 0 (Zt 300010 {b with na:=eu,nb:=ev,nc:=ew,nd:=ex,ne:=ey,nf:=ez}),bQ 7 q,bQ 7 fa,bQ 7 fb,bQ 7 fc,bQ 7 fd,bQ 2 fe,bQ 2 ff,bQ 2 fg,bQ 2 fh,bQ 2 fi,bQ 2 fj]⟩
def Ajf(a j:Nat)(f:LA)(c:Nat)(g d:Bool)(i l m o p:Nat)(h:LA)(b:RB)(q:LA)(K:St->O R):=fun ja jb jc jd je jf jg jh ji jj jk jl jm jn jo jp jq jr=>K ⟨[(1,iv 1),(10,op 0),(11,op 1),(13,op 2),(14,Bbq 3 a),(19,iv (-1)),(115,Bbq 4 j),(116,iv ja),(117,iv 0)],hq [bN 0 [.nsl,.nsl,.nsl],bN 0 [.bool false,.nsl,.nsl],bN 0 [op 5,.imm f c 1 g d,Bbq 6 i,Bbq 4 j,Bbq 7 l,Bbq 8 m,Bbq 9 o,.own 300010 0 p,.nsl,.nsl,.nsl,.nsl,.nsl,.nsl,.nsl,.nsl,.nsl,.nsl,.nsl,.nsl,.nsl,.nsl,.nsl,.nsl,.nsl,.nsl,.nsl],bQ 2 h,bQ 7 jb,bN 0 (Zt 300010 {b with na:=jc,nb:=jd,nc:=je,nd:=jf,ne:=jg,nf:=jh}),bQ 7 q,bQ 7 ji,bQ 7 jj,bQ 7 jk,bQ 7 jl,bQ 2 jm,bQ 2 jn,bQ 2 jo,bQ 2 jp,bQ 2 jq,bQ 2 jr]⟩
def Agf(a l:Nat)(f:LA)(c:Nat)(g d:Bool)(i j m o p:Nat)(h:LA)(b:RB)(q:LA)(K:St->O R):=fun cp fk cd cj fl fm fn fo fp fq fr fs ft fu fv fw fx fy fz ga=>K ⟨[(1,iv 2),(10,op 0),(11,op 1),(13,op 2),(14,Bbq 3 a),(19,iv cp),(115,Bbq 4 l),(116,iv fk),(117,iv cd)],hq [bN 0 [.nsl,.nsl,.nsl],bN 0 [.bool false,.nsl,.nsl],bN 0 [op 5,.imm f c 1 g d,Bbq 6 i,Bbq 7 j,Bbq 4 l,Bbq 8 m,Bbq 9 o,.own 300010 0 p,.nsl,.nsl,.nsl,.nsl,.nsl,.nsl,.nsl,.nsl,.nsl,.nsl,.nsl,.nsl,.nsl,.nsl,.nsl,.nsl,.nsl,.nsl,.nsl],bQ 2 h,bQ 7 cj,bN 0 (Zt 300010 {b with na:=fl,nb:=fm,nc:=fn,nd:=fo,ne:=fp,nf:=fq}),bQ 7 q,bQ 7 fr,bQ 7 fs,bQ 7 ft,bQ 7 fu,bQ 2 fv,bQ 2 fw,bQ 2 fx,bQ 2 fy,bQ 2 fz,bQ 2 ga]⟩
def Ajg(a l:Nat)(f:LA)(c:Nat)(g d:Bool)(i j m o p:Nat)(h:LA)(b:RB)(q:LA)(K:St->O R):=fun js jt ju jv jw jx jy jz kg kh ki kj kk kl km kn ko kp=>K ⟨[(1,iv 2),(10,op 0),(11,op 1),(13,op 2),(14,Bbq 3 a),(19,iv (-1)),(115,Bbq 4 l),(116,iv js),(117,iv 0)],hq [bN 0 [.nsl,.nsl,.nsl],bN 0 [.bool false,.nsl,.nsl],bN 0 [op 5,.imm f c 1 g d,Bbq 6 i,Bbq 7 j,Bbq 4 l,Bbq 8 m,Bbq 9 o,.own 300010 0 p,.nsl,.nsl,.nsl,.nsl,.nsl,.nsl,.nsl,.nsl,.nsl,.nsl,.nsl,.nsl,.nsl,.nsl,.nsl,.nsl,.nsl,.nsl,.nsl],bQ 2 h,bQ 7 jt,bN 0 (Zt 300010 {b with na:=ju,nb:=jv,nc:=jw,nd:=jx,ne:=jy,nf:=jz}),bQ 7 q,bQ 7 kg,bQ 7 kh,bQ 7 ki,bQ 7 kj,bQ 2 kk,bQ 2 kl,bQ 2 km,bQ 2 kn,bQ 2 ko,bQ 2 kp]⟩
def Agg(a m:Nat)(f:LA)(c:Nat)(g d:Bool)(i j l o p:Nat)(h:LA)(b:RB)(q:LA)(K:St->O R):=fun cq gb ce ck gc gd ge gf gg gh gi gj gk gl gm gn go gp gq gr=>K ⟨[(1,iv 3),(10,op 0),(11,op 1),(13,op 2),(14,Bbq 3 a),(19,iv cq),(115,Bbq 4 m),(116,iv gb),(117,iv ce)],hq [bN 0 [.nsl,.nsl,.nsl],bN 0 [.bool false,.nsl,.nsl],bN 0 [op 5,.imm f c 1 g d,Bbq 6 i,Bbq 7 j,Bbq 8 l,Bbq 4 m,Bbq 9 o,.own 300010 0 p,.nsl,.nsl,.nsl,.nsl,.nsl,.nsl,.nsl,.nsl,.nsl,.nsl,.nsl,.nsl,.nsl,.nsl,.nsl,.nsl,.nsl,.nsl,.nsl],bQ 2 h,bQ 7 ck,bN 0 (Zt 300010 {b with na:=gc,nb:=gd,nc:=ge,nd:=gf,ne:=gg,nf:=gh}),bQ 7 q,bQ 7 gi,bQ 7 gj,bQ 7 gk,bQ 7 gl,bQ 2 gm,bQ 2 gn,bQ 2 go,bQ 2 gp,bQ 2 gq,bQ 2 gr]⟩
def Ajh(a m:Nat)(f:LA)(c:Nat)(g d:Bool)(i j l o p:Nat)(h:LA)(b:RB)(q:LA)(K:St->O R):=fun kq kr kt ku kv kw kx ky kz la lb lc ld le lf lg lh li=>K ⟨[(1,iv 3),(10,op 0),(11,op 1),(13,op 2),(14,Bbq 3 a),(19,iv (-1)),(115,Bbq 4 m),(116,iv kq),(117,iv 0)],hq [bN 0 [.nsl,.nsl,.nsl],bN 0 [.bool false,.nsl,.nsl],bN 0 [op 5,.imm f c 1 g d,Bbq 6 i,Bbq 7 j,Bbq 8 l,Bbq 4 m,Bbq 9 o,.own 300010 0 p,.nsl,.nsl,.nsl,.nsl,.nsl,.nsl,.nsl,.nsl,.nsl,.nsl,.nsl,.nsl,.nsl,.nsl,.nsl,.nsl,.nsl,.nsl,.nsl],bQ 2 h,bQ 7 kr,bN 0 (Zt 300010 {b with na:=kt,nb:=ku,nc:=kv,nd:=kw,ne:=kx,nf:=ky}),bQ 7 q,bQ 7 kz,bQ 7 la,bQ 7 lb,bQ 7 lc,bQ 2 ld,bQ 2 le,bQ 2 lf,bQ 2 lg,bQ 2 lh,bQ 2 li]⟩
def Agh(a o:Nat)(f:LA)(c:Nat)(g d:Bool)(i j l m p:Nat)(h:LA)(b:RB)(q:LA)(K:St->O R):=fun cr gs cf cl gt gu gv gw gx gy gz ha hb hc hd he hf hg hi hj=>K ⟨[(1,iv 4),(10,op 0),(11,op 1),(13,op 2),(14,Bbq 3 a),(19,iv cr),(115,Bbq 4 o),(116,iv gs),(117,iv cf)],hq [bN 0 [.nsl,.nsl,.nsl],bN 0 [.bool false,.nsl,.nsl],bN 0 [op 5,.imm f c 1 g d,Bbq 6 i,Bbq 7 j,Bbq 8 l,Bbq 9 m,Bbq 4 o,.own 300010 0 p,.nsl,.nsl,.nsl,.nsl,.nsl,.nsl,.nsl,.nsl,.nsl,.nsl,.nsl,.nsl,.nsl,.nsl,.nsl,.nsl,.nsl,.nsl,.nsl],bQ 2 h,bQ 7 cl,bN 0 (Zt 300010 {b with na:=gt,nb:=gu,nc:=gv,nd:=gw,ne:=gx,nf:=gy}),bQ 7 q,bQ 7 gz,bQ 7 ha,bQ 7 hb,bQ 7 hc,bQ 2 hd,bQ 2 he,bQ 2 hf,bQ 2 hg,bQ 2 hi,bQ 2 hj]⟩
def Aji(a o:Nat)(f:LA)(c:Nat)(g d:Bool)(i j l m p:Nat)(h:LA)(b:RB)(q:LA)(K:St->O R):=fun lj lk ll lm ln lo lp lq lr ls lt lu lv lw lx ly lz ma=>K ⟨[(1,iv 4),(10,op 0),(11,op 1),(13,op 2),(14,Bbq 3 a),(19,iv (-1)),(115,Bbq 4 o),(116,iv lj),(117,iv 0)],hq [bN 0 [.nsl,.nsl,.nsl],bN 0 [.bool false,.nsl,.nsl],bN 0 [op 5,.imm f c 1 g d,Bbq 6 i,Bbq 7 j,Bbq 8 l,Bbq 9 m,Bbq 4 o,.own 300010 0 p,.nsl,.nsl,.nsl,.nsl,.nsl,.nsl,.nsl,.nsl,.nsl,.nsl,.nsl,.nsl,.nsl,.nsl,.nsl,.nsl,.nsl,.nsl,.nsl],bQ 2 h,bQ 7 lk,bN 0 (Zt 300010 {b with na:=ll,nb:=lm,nc:=ln,nd:=lo,ne:=lp,nf:=lq}),bQ 7 q,bQ 7 lr,bQ 7 ls,bQ 7 lt,bQ 7 lu,bQ 2 lv,bQ 2 lw,bQ 2 lx,bQ 2 ly,bQ 2 lz,bQ 2 ma]⟩
def Agi(a p:Nat)(f:LA)(c:Nat)(g d:Bool)(i j l m o:Nat)(h:LA)(b:RB)(q:LA)(K:St->O R):=fun cs hk cg cm hl hm hn ho hp hr ht hu hv hw hx hy hz ia ib ic=>K ⟨[(1,iv 5),(10,op 0),(11,op 1),(13,op 2),(14,Bbq 3 a),(19,iv cs),(115,Bbq 4 p),(116,iv hk),(117,iv cg)],hq [bN 0 [.nsl,.nsl,.nsl],bN 0 [.bool false,.nsl,.nsl],bN 0 [op 5,.imm f c 1 g d,Bbq 6 i,Bbq 7 j,Bbq 8 l,Bbq 9 m,.own 300010 0 o,Bbq 4 p,.nsl,.nsl,.nsl,.nsl,.nsl,.nsl,.nsl,.nsl,.nsl,.nsl,.nsl,.nsl,.nsl,.nsl,.nsl,.nsl,.nsl,.nsl,.nsl],bQ 2 h,bQ 7 cm,bN 0 (Zt 300010 {b with na:=hl,nb:=hm,nc:=hn,nd:=ho,ne:=hp,nf:=hr}),bQ 7 q,bQ 7 ht,bQ 7 hu,bQ 7 hv,bQ 7 hw,bQ 2 hx,bQ 2 hy,bQ 2 hz,bQ 2 ia,bQ 2 ib,bQ 2 ic]⟩
def Ajj(a p:Nat)(f:LA)(c:Nat)(g d:Bool)(i j l m o:Nat)(h:LA)(b:RB)(q:LA)(K:St->O R):=fun mb mc md me mf mg mh mi mj mk ml mm mn mo mp mq mr ms=>K ⟨[(1,iv 5),(10,op 0),(11,op 1),(13,op 2),(14,Bbq 3 a),(19,iv (-1)),(115,Bbq 4 p),(116,iv mb),(117,iv 0)],hq [bN 0 [.nsl,.nsl,.nsl],bN 0 [.bool false,.nsl,.nsl],bN 0 [op 5,.imm f c 1 g d,Bbq 6 i,Bbq 7 j,Bbq 8 l,Bbq 9 m,.own 300010 0 o,Bbq 4 p,.nsl,.nsl,.nsl,.nsl,.nsl,.nsl,.nsl,.nsl,.nsl,.nsl,.nsl,.nsl,.nsl,.nsl,.nsl,.nsl,.nsl,.nsl,.nsl],bQ 2 h,bQ 7 mc,bN 0 (Zt 300010 {b with na:=md,nb:=me,nc:=mf,nd:=mg,ne:=mh,nf:=mi}),bQ 7 q,bQ 7 mj,bQ 7 mk,bQ 7 ml,bQ 7 mm,bQ 2 mn,bQ 2 mo,bQ 2 mp,bQ 2 mq,bQ 2 mr,bQ 2 ms]⟩
def bI(r:Int)(a:Nat)(f:LA)(c:Nat)(g d:Bool)(i j l m o p:Nat)(h:LA)(b:RB)(K:St->O R):=fun mt ct cu cv cw cx cy q cz da db dc dd de df dg dh di dj=>K ⟨[(1,iv r),(10,op 0),(11,op 1),(13,op 2),(14,Bbq 3 a),(82,iv r),(83,iv mt)],hq [bN 0 [.nsl,.nsl,.nsl],bN 0 [.bool false,.nsl,.nsl],bN 0 [op 4,.imm f c 1 g d,Bbq 5 i,Bbq 6 j,Bbq 7 l,Bbq 8 m,Bbq 9 o,.own 300010 0 p,.nsl,.nsl,.nsl,.nsl,.nsl,.nsl,.nsl,.nsl,.nsl,.nsl,.nsl,.nsl,.nsl,.nsl,.nsl,.nsl,.nsl,.nsl,.nsl],bQ 2 h,bN 0 (Zt 300010 {b with na:=ct,nb:=cu,nc:=cv,nd:=cw,ne:=cx,nf:=cy}),bQ 7 q,bQ 7 cz,bQ 7 da,bQ 7 db,bQ 7 dc,bQ 7 dd,bQ 2 de,bQ 2 df,bQ 2 dg,bQ 2 dh,bQ 2 di,bQ 2 dj]⟩
def Ajk(r:Int)(a:Nat)(v:Lu)(w x y:Int)(z:LA)(aa:Nat)(s:Bool)(ab ac ad ae af ag ah ai aj ak al am an:Int)(ap:LA)(aq:Nat)(ar au av:Int)(f:LA)(c:Nat)(g d:Bool)(h:LA)(b:RB)(K:St->O R):=fun dk ch i j l m o p dl dp dq dr ds dt=>K ⟨[(1,iv r),(5,op 0),(10,op 1),(11,op 2),(13,op 3),(14,Bbq 4 a),(57,iv dk),(58,iv ch)],hq [bN 0 [.str v,iv w,iv x,iv y,.imm z aa 2 false s,iv ab,iv ac,iv ad,iv ae,iv af,iv ag,iv ah,iv ai,iv aj,iv ak,iv al,iv am,iv an,.imm ap aq 1 false s,iv ar,iv au,iv av],bN 0 [.nsl,.nsl,.nsl],bN 0 [.bool false,.nsl,.nsl],bN 0 [op 5,.imm f c 1 g d,Bbq 6 i,Bbq 7 j,Bbq 8 l,Bbq 9 m,.own 300010 0 o,.own 300011 0 p,.nsl,.nsl,.nsl,.nsl,.nsl,.nsl,.nsl,.nsl,.nsl,.nsl,.nsl,.nsl,.nsl,.nsl,.nsl,.nsl,.nsl,.nsl,.nsl],bQ 2 h,bN 0 (Zt 300011 b),bQ 7 dl,bQ 7 dp,bQ 7 dq,bQ 7 dr,bQ 7 ds,bQ 7 dt,bQ 2 b.ka,bQ 2 b.kb,bQ 2 b.kc,bQ 2 b.kd,bQ 2 b.ke,bQ 2 b.kf]⟩
def Ajl(r:Int)(az:LA)(ax:Nat)(be ba:Bool)(bb:LA)(ay:Nat)(bf bc:Bool)(f:LA)(c:Nat)(g d:Bool)(v:Lu)(w x y:Int)(z:LA)(aa:Nat)(s:Bool)(ab ac ad ae af ag ah ai aj ak al am an:Int)(ap:LA)(aq:Nat)(ar au av:Int)(K:St->O R):=K ⟨[(1,iv r),(2,.imm az ax 3 be ba),(3,.imm bb ay 3 bf bc),(4,.imm f c 1 g d),(5,op 0),(10,op 1),(11,op 2)],hq [bN 0 [.str v,iv w,iv x,iv y,.imm z aa 2 false s,iv ab,iv ac,iv ad,iv ae,iv af,iv ag,iv ah,iv ai,iv aj,iv ak,iv al,iv am,iv an,.imm ap aq 1 false s,iv ar,iv au,iv av],bN 0 [.nsl,.nsl,.nsl],bN 0 [.bool false,.nsl,.nsl]]⟩
def wc Q2 (F:KF R) (r a f c g d i j l m o p h b):∀ n,Ajd r a f c g d i j l m o p h b (Ao (Dc N F (pz 91624838164) [Q2]) n)=(Na N (bI r a f c g d i j l m o p h b Q2) (Az F) r a f c g d i j l m o p h b n):=Gu fun n e=>(B6 (EV N (bI r a f c g d i j l m o p h b Q2) (Az F) r a f c g d i j l m o p h b) e:_)
def Jq(F:KF R)(a f c g d i j l m o p h b q):Agc a f c g d i j l m o p h b q (A1 (Dc N F (pz 1398101) []))=(Db N (Az F) a f c g d i j l m o p h b q):=by kernel_rfl
def uk(F:KF R)(a i f c g d j l m o p h q b):∀ n,Agd a i f c g d j l m o p h q b (Ao (Dc N F (pz 22369604) []) n)=(TQ N (Az F) a i f c g d j l m o p h q b n):=Gu fun n e=>(QH (gK N (Az F) a i f c g d j l m o p h q b) e ((jW ..).trans (Jq ..)):_)
def wg(F:KF R)(a i f c g d j l m o p h q b):Aje a i f c g d j l m o p h q b (A1 (Dc N F (pz 5592401) []))=(ua N (Az F) a i f c g d j l m o p h q b):=(B6 (nY N (Az F) a i f c g d j l m o p h q b) ((lW ..).trans (uk ..)):_)
def ul(F:KF R)(a j f c g d i l m o p h b q):∀ n,Age a j f c g d i l m o p h b q (Ao (Dc N F (pz 22369604) []) n)=(Wa N (Az F) a j f c g d i l m o p h b q n):=Gu fun n e=>(QH (MS N (Az F) a j f c g d i l m o p h b q) e ((jW ..).trans (Jq ..)):_)
def wh(F:KF R)(a j f c g d i l m o p h b q):Ajf a j f c g d i l m o p h b q (A1 (Dc N F (pz 5592401) []))=(ud N (Az F) a j f c g d i l m o p h b q):=(B6 (nZ N (Az F) a j f c g d i l m o p h b q) ((lW ..).trans (ul ..)):_)
def um(F:KF R)(a l f c g d i j m o p h b q):∀ n,Agf a l f c g d i j m o p h b q (Ao (Dc N F (pz 22369604) []) n)=(Wb N (Az F) a l f c g d i j m o p h b q n):=Gu fun n e=>(QH (MT N (Az F) a l f c g d i j m o p h b q) e ((jW ..).trans (Jq ..)):_)
def wi(F:KF R)(a l f c g d i j m o p h b q):Ajg a l f c g d i j m o p h b q (A1 (Dc N F (pz 5592401) []))=(ue N (Az F) a l f c g d i j m o p h b q):=(B6 (n6 N (Az F) a l f c g d i j m o p h b q) ((lW ..).trans (um ..)):_)
def uq(F:KF R)(a m f c g d i j l o p h b q):∀ n,Agg a m f c g d i j l o p h b q (Ao (Dc N F (pz 22369604) []) n)=(Wc N (Az F) a m f c g d i j l o p h b q n):=Gu fun n e=>(QH (MU N (Az F) a m f c g d i j l o p h b q) e ((jW ..).trans (Jq ..)):_)
def wk(F:KF R)(a m f c g d i j l o p h b q):Ajh a m f c g d i j l o p h b q (A1 (Dc N F (pz 5592401) []))=(uf N (Az F) a m f c g d i j l o p h b q):=(B6 (n7 N (Az F) a m f c g d i j l o p h b q) ((lW ..).trans (uq ..)):_)
def ur(F:KF R)(a o f c g d i j l m p h b q):∀ n,Agh a o f c g d i j l m p h b q (Ao (Dc N F (pz 22369604) []) n)=(Wd N (Az F) a o f c g d i j l m p h b q n):=Gu fun n e=>(QH (MV N (Az F) a o f c g d i j l m p h b q) e ((jW ..).trans (Jq ..)):_)
def wl(F:KF R)(a o f c g d i j l m p h b q):Aji a o f c g d i j l m p h b q (A1 (Dc N F (pz 5592401) []))=(ug N (Az F) a o f c g d i j l m p h b q):=(B6 (n8 N (Az F) a o f c g d i j l m p h b q) ((lW ..).trans (ur ..)):_)
def uv(F:KF R)(a p f c g d i j l m o h b q):∀ n,Agi a p f c g d i j l m o h b q (Ao (Dc N F (pz 22369604) []) n)=(We N (Az F) a p f c g d i j l m o h b q n):=Gu fun n e=>(QH (MW N (Az F) a p f c g d i j l m o h b q) e ((jW ..).trans (Jq ..)):_)
def wm(F:KF R)(a p f c g d i j l m o h b q):Ajj a p f c g d i j l m o h b q (A1 (Dc N F (pz 5592401) []))=(ui N (Az F) a p f c g d i j l m o h b q):=(B6 (n9 N (Az F) a p f c g d i j l m o h b q) ((lW ..).trans (uv ..)):_)
def wo(F:KF R)(r a f c g d i j l m o p h b):∀ n,bI r a f c g d i j l m o p h b (Ao (Dc N F (pz 1398084) []) n)=(Kk N (Az F) r a f c g d i j l m o p h b n):=Gu fun n e=>(A1u (EW N (Az F) r a f c g d i j l m o p h b) e ((lW ..).trans ((wc ..).trans (xP (Na _ · _ _ _ _ _ _ _ _ _ _ _ _ _ _ _ _) e))) (vQ fun q=>(jW ..).trans (wg ..)) (vQ fun q=>(jW ..).trans (wh ..)) (vQ fun q=>(jW ..).trans (wi ..)) (vQ fun q=>(jW ..).trans (wk ..)) (vQ fun q=>(jW ..).trans (wl ..)) (vQ fun q=>(jW ..).trans (wm ..)):_)
def wq(F:KF R)(r a v w x y z aa s ab ac ad ae af ag ah ai aj ak al am an ap aq ar au av f c g d h b):∀ n,Ajk r a v w x y z aa s ab ac ad ae af ag ah ai aj ak al am an ap aq ar au av f c g d h b (Ao (Dc N F (pz 87364) []) n)=(Ui N (Az F) r a v w x y z aa s ab ac ad ae af ag ah ai aj ak al am an ap aq ar au av f c g d h b n):=Gu fun n e=>(QH (EX N (Az F) r a v w x y z aa s ab ac ad ae af ag ah ai aj ak al am an ap aq ar au av f c g d h b) e (Api fun i j l m o p=>(lW ..).trans (wo ..)):_)
def ws(F:KF R)(r az ax be ba bb ay bf bc f c g d v w x y z aa s ab ac ad ae af ag ah ai aj ak al am an ap aq ar au av):Ajl r az ax be ba bb ay bf bc f c g d v w x y z aa s ab ac ad ae af ag ah ai aj ak al am an ap aq ar au av (A1 (Dc N F (pz 85) []))=(MX N (Az F) r az ax be ba bb ay bf bc f c g d v w x y z aa s ab ac ad ae af ag ah ai aj ak al am an ap aq ar au av):=(B6 (TR N (Az F) r az ax be ba bb ay bf bc f c g d v w x y z aa s ab ac ad ae af ag ah ai aj ak al am an ap aq ar au av) (Axh fun a h b=>(lW ..).trans (wq ..)):_)
def Aoc:=Cc N 23 (ya N) uj (fun
|[.pagg aw s,.int .i64 r,.imm az ax 3 be ba,.imm bb ay 3 bf bc,.imm f c 1 g d],[]=>some fun _ k=>gM N aw s r az ax be ba bb ay bf bc f c g d (Az k)
| _,_=>none) fun _ _=>by split;intro R F;exact(B6 (gL N (Az F) · _ _ _ _ _ _ _ _ _ _ _ _ _ _ _) (Api fun v w x y z aa=>Api fun ab ac ad ae af ag=>Api fun ah ai aj ak al am=>Api fun an ap aq ar au av=>(jW ..).trans (ws ..)):_).trans (n_ ..).symm;trivial
end
end Gx
namespace Gx.Uo
open Go Go.Proofs
noncomputable section
variable{R:Type}{N:Nat}{X:O R}
variable{u:UnitD}{hh:Int}{E Q V:List RatD}{o o1 o2:Bool}{a b:Nat->Rat}{H:Nat}{fx:List Int}
def Abx{g:Bool}:Avw g u.name u.bus u.min u.max (u.segs.l.flatMap SegD.av) u.segs.l.length u.noLoad u.rampUp u.rampDown u.startRamp u.stopRamp u.upTime u.downTime u.startTime u.hotCost u.coldCost u.hotHours u.reserve u.reservePrice (Am u.away.l) u.away.l.length u.state u.hours u.output=(uN u g).av:=by rw[<-Ny];rfl
def Awu{K:RB->O R}{g:Bool}{hs:Int}(D:Av9 u.segs.l)(G:u.segs.l.length<=8)(I:-1048576<=u.min/\u.min<=1048576)(L:fit (100*500+1000) N)
  (k:∀ V,VOk V (Za u)->PB 500 (Za u)->K (rB u hs E Q V g o1 o2 (fun _=>0) fun _=>[])=X) :
  X8 N u.av g hs (E.flatMap RatD.av) E.length false o1 (Q.flatMap RatD.av) Q.length false o2 K=X:=by
 rw[HI];unfold FK
 rw[show ∀ F:Lu->O R,Aze u.av F=F u.name from fun _=>rfl,show ∀ F:Int->O R,Aj .i64 (u.av.drop 1) F=F u.bus from fun _=>Aw,u2,u3,u4,u5,u6,u7,u8,u9,Aun,As7,Am4,Axk,Axl,Auo,Av0,Ax6,Ass,Am5,Axm,Av1,show beq (List.length u.av) 22=true from rfl,ct,Abx]
 refine Ayj (u:=uN u g) (M:=500) D G I (by omega) L fun V hV hP=>?_
 rw[Abi,Aq9]
 rw[show((beq (List.length (S9 (Za (uN u g)) V false)) 2)&&(true&&(beq 2 2&&ble 27 51)))=true from rfl,ct,<-Ny u.away.l]
 exact k V hV hP
def Arz{n:Nat}(h:n<=100000):((ble (n+1) 140737488355328)&&(ble ((n+1)*16) 140737488355328))=true:=by rw[show ble (n+1) 140737488355328=true by rw[A3p];omega,show ble ((n+1)*16) 140737488355328=true by rw[A3p];omega];rfl
def Aby{k:Int}{l:List StD}{i:Nat}:(l.flatMap StD.av).take (l.length*2)++[.int .i64 k,.int .i64 ((i+1:Nat):Int)]=(l++[(⟨k,(i:Int)+1⟩:StD)]).flatMap StD.av:=by rw[show((i+1:Nat):Int)=(i:Int)+1 by omega];exact TJ l ⟨k,(i:Int)+1⟩
def A1d{K:Nat->LA->O R}{c:Int}(hc:c<=1000):∀(m k i:Nat)(l:List StD),(i:Int)+m=c->m<k->l.length+m<=10000 ->
  Nt N K c k l.length (i:Int) (l.flatMap StD.av)=K (l++Gh 2 i m).length ((l++Gh 2 i m).flatMap StD.av)
|0,k+1,i,l,hi,_,_=>by
  rw[Nt];unfold Uy
  rw[decide_eq_false (show ¬ (i:Int)<c by omega),cf];simp[Gh]
|m+1,k+1,i,l,hi,D,G=>by
  rw[Nt];unfold Uy
  rw[decide_eq_true (show(i:Int)<c by omega),ct,Arz (by omega),ct,wS (by omega),Aby,show l.length+1=(l++[(⟨2,(i:Int)+1⟩:StD)]).length by simp,A1d hc m k (i+1) _ (by omega) (by omega) (by simp;omega),Gh,show((i+1:Nat):Int)=(i:Int)+1 by omega]
  simp
def A1e{K:Nat->LA->O R}{c d:Int}{m2:Nat}(hc:c=m2)(D:m2<=1000)(hN:1100<=N):∀(m k i:Nat)(l:List StD),(i:Int)+m=d->i+m<=1000->m<k->l.length+m<=8000 ->
  Nu N K c d k l.length (i:Int) (l.flatMap StD.av)=K (l++Gh 1 i m++Gh 2 0 m2).length ((l++Gh 1 i m++Gh 2 0 m2).flatMap StD.av)
|0,k+1,i,l,hi,_,_,G=>by
  rw[Nu];unfold Uz
  rw[decide_eq_false (show ¬ (i:Int)<d by omega),cf]
  have:=A1d (N:=N) (K:=K) (c:=c) (by omega) m2 N 0 l (by omega) (by omega) (by omega)
  rw[show((0:Nat):Int)=0 from rfl]at this
  rw[this];simp[Gh]
|m+1,k+1,i,l,hi,L,I,G=>by
  rw[Nu];unfold Uz
  rw[decide_eq_true (show(i:Int)<d by omega),ct,Arz (by omega),ct,wS (by omega),Aby,show l.length+1=(l++[(⟨1,(i:Int)+1⟩:StD)]).length by simp,A1e hc D hN m k (i+1) _ (by omega) (by omega) (by omega) (by simp;omega),Gh,show((i+1:Nat):Int)=(i:Int)+1 by omega]
  simp
def A1f{K:Nat->LA->O R}{g:Bool}{c d:Int}{m1 m2:Nat}(hc:c=m2)(D:m2<=1000)(G:u.startTime=m1)(I:m1<=1000)(hN:1100<=N):∀(m k i:Nat)(l:List StD),(i:Int)+m=d->i+m<=1000->m<k->l.length+m<=6000 ->
  J7 N K c d g u.av k l.length (i:Int) (l.flatMap StD.av)=K (l++Gh 0 i m++Gh 1 0 m1++Gh 2 0 m2).length ((l++Gh 0 i m++Gh 1 0 m1++Gh 2 0 m2).flatMap StD.av)
|0,k+1,i,l,hi,_,_,L=>by
  rw[J7];unfold U0
  rw[decide_eq_false (show ¬ (i:Int)<d by omega),cf,Am4]
  have:=A1e (N:=N) (K:=K) (c:=c) (d:=u.startTime) hc D hN m1 N 0 l (by omega) (by omega) (by omega) (by omega)
  rw[show((0:Nat):Int)=0 from rfl]at this
  refine this.trans ?_;simp[Gh]
|m+1,k+1,i,l,hi,Y,T,L=>by
  rw[J7];unfold U0
  rw[decide_eq_true (show(i:Int)<d by omega),ct,Arz (by omega),ct,wS (by omega),Aby,show l.length+1=(l++[(⟨0,(i:Int)+1⟩:StD)]).length by simp,A1f hc D G I hN m k (i+1) _ (by omega) (by omega) (by omega) (by simp;omega),Gh,show((i+1:Nat):Int)=(i:Int)+1 by omega]
  simp
def Ar0{K:Nat->LA->O R}{g:Bool}(hN:1100<=N)(hs:Bg u=true):HJ N u.av g K=K (Be u).length ((Be u).flatMap StD.av):=by
 have k:=Fs hs;have D:=On hs
 rw[XL];unfold KH
 rw[Ef,ct,Cj,Li (by omega),hs,show(!true)=false from rfl,cf,ct,Sd (by omega) hs,Am4]
 have e:wrap .i64 (wrap .i64 (A5 u+u.startTime)+H4 u)=A5 u+u.startTime+H4 u:=by rw[i64 (a:=A5 u+u.startTime) (by omega),i64 (by omega)]
 rw[e,show((decide ((0:Int)<=(0:Int)))&&((decide (0<=A5 u+u.startTime+H4 u))&&((decide (A5 u+u.startTime+H4 u<=140737488355328))&&(decide ((A5 u+u.startTime+H4 u)*((16:Nat):Int)<=140737488355328)))))=true by
  rw[decide_eq_true (show 0<=A5 u+u.startTime+H4 u by omega),decide_eq_true (show A5 u+u.startTime+H4 u<=140737488355328 by omega),decide_eq_true (show(A5 u+u.startTime+H4 u)*((16:Nat):Int)<=140737488355328 by omega)];rfl,ct]
 have:=A1f (u:=u) (N:=N) (K:=K) (g:=g) (c:=H4 u) (d:=A5 u) (m1:=u.startTime.toNat) (m2:=(H4 u).toNat) (by omega) (by omega) (by omega) (by omega) hN (A5 u).toNat N 0 [] (by omega) (by omega) (by omega) (by simp;omega)
 simpa[Be]using this
def A2b:DR u a b (fun _=>[]):=fun j=>⟨fun i h=>by simp at h,by simp⟩
def Aod{k2:Int->N6 (L6 (L6 (O R)))}{r0:LA->LA->Int->O R}(D:DOk u hh H E Q V a b)(hfx:fx.length=H)(hl:u.away.l.length<=1000)(hf:fit 1000000 N){h:Nat}(hhH:h<H){n:Nat->Nat}(hn:∀ j≤H,n j=(Be u).length){n0:Nat->Nat}{c0:Nat->LA}{e g:Bool}:∀(m t k:Nat)(T:FG)(W:Nat->List (Option MkD))(L:Nat->Rn),t+m=(Be u).length->m<k->L9 u H T W->DR u a b L ->
   (∀ W' L',L9 u H ((((Be u).drop t).map ds).foldl (Oi (Bw u fx H a b) h) T) W'->DR u a b L'->Abv (k2 (wrap .i64 ((h:Int)+1))) L' W'=X) ->
   Abv (Na N k2 r0 (H:Int) (Be u).length (Am fx) fx.length e g (n 0) (n 1) (n 2) (n 3) (n 4) (n 5) ((Be u).flatMap StD.av) (rB u (H:Int) E Q V o o1 o2 n0 c0) k (h:Int) (h:Int) ((Be u).length:Int) (t:Int)) L W=X:=by
 intro m
 induction m with
|zero =>
  intro t fuel0 T W L ht hfu tk dr hk
  obtain⟨k,rfl⟩:∃ f',fuel0=f'+1:=⟨fuel0 - 1,by omega⟩
  unfold Abv IG
  try dsimp only
  rw[Na];unfold EV
  rw[Rc (by omega),cf]
  exact hk W L (by rw[Jx (by omega)];exact tk) dr
| succ m ih =>
  intro t fuel0 T W L ht hfu tk dr hk
  obtain⟨k,rfl⟩:∃ f',fuel0=f'+1:=⟨fuel0 - 1,by omega⟩
  have h6:=D.h6
  have I:=(Bf D.hv).1
  have hN:100001000<=N:=by have:=hf.1;omega
  have hnS:(Be u).length<=80:=uW I
  have G:t<(Be u).length:=by omega
  obtain⟨s1,s2⟩:=Au6 I G
  rw[Fg G,A3o,A5q]at hk
  have step:∀ W' L',L9 u H (Oi (Bw u fx H a b) h T (ds (Be u)[t])) W'->DR u a b L'->Abv (Na N k2 r0 (H:Int) (Be u).length (Am fx) fx.length e g (n 0) (n 1) (n 2) (n 3) (n 4) (n 5) ((Be u).flatMap StD.av) (rB u (H:Int) E Q V o o1 o2 n0 c0) k (h:Int) (h:Int) ((Be u).length:Int) (wrap .i64 ((t:Int)+1))) L' W'=X:=fun W' L' t' l'=>by
   rw[wS (by omega)]
   exact ih (t+1) k _ W' L' (by omega) (by omega) t' l' hk
  obtain⟨wn,we⟩:=tk h (by omega)
  obtain⟨md,g1,g2⟩:=we _ s1
  have Y:t<(W h).length:=by omega
  rw[s2,A2r Y,A3k]at g1
  unfold Abv IG
  try dsimp only
  rw[Na];unfold EV
  have ev:v6 h (A2 (W 0)) (A2 (W 1)) (A2 (W 2)) (A2 (W 3)) (A2 (W 4)) (A2 (W 5))=A2 (W h):=w8 (by omega) fun j=>A2 (W j)
  rw[Ox G,ct,Aa G,ct,kQ G,MD,ct,ME,YH,ct,yZ (by omega),w8 (by omega) n,ev,hn h (by omega),Aa G,ct,A2u,A22,gA Y,g1]
  generalize (Be u)[t]=s at *
  rw[show zS s.av=s.av from rfl,IJ,ct,gR]
  cases md with
  |none =>
   rw[Af3,cf]
   refine step W L ?_ dr
   unfold Oi
   cases hT:T h (ds s)with
   |none=>exact tk
   |some _=>rw[hT]at g2;exact g2.elim
  | some md =>
   rw[Af4,ct]
   cases hT:T h (ds s)with
   |none=>rw[hT]at g2;exact g2.elim
   |some m0 =>
    rw[show iI h=(h:Int)from rfl,show Agz (rB u (H:Int) E Q V o o1 o2 n0 c0) (L 0).length (L 1).length (L 2).length (L 3).length (L 4).length (L 5).length (rc (L 0)) (rc (L 1)) (rc (L 2)) (rc (L 3)) (rc (L 4)) (rc (L 5))=rB u (H:Int) E Q V o o1 o2 (fun j=>(L j).length) (fun j=>rc (L j))from rfl,show(t:Int)=((ix u s:Nat):Int) by rw[s2]]
    refine At4 D hfx hl hf hhH s1 hn tk dr hT fun W' L' t' l'=>?_
    rw[s2]
    exact step W' L' t' l'
def Ajm {r0:LA->LA->Int->O R} (D:DOk u hh H E Q V a b) (G:fx.length=H) (hl:u.away.l.length<=1000) (hf:fit 1000000 N) {n:Nat->Nat} (hn:∀ j≤H,n j=(Be u).length) {n0:Nat->Nat} {c0:Nat->LA} {e g:Bool} (hk:∀ k W' L',L9 u H (Hv (Bw u fx H a b) (Jt u) H) W'->DR u a b L'->100<=k ->
   Abv (Kk N r0 (H:Int) (Be u).length (Am fx) fx.length e g (n 0) (n 1) (n 2) (n 3) (n 4) (n 5) ((Be u).flatMap StD.av) (rB u (H:Int) E Q V o o1 o2 n0 c0) k (H:Int)) L' W'=X):∀ (m h k:Nat) (W:Nat->List (Option MkD)) (L:Nat->Rn),h+m=H->m+100<=k->L9 u H (Hv (Bw u fx H a b) (Jt u) h) W->DR u a b L ->
   Abv (Kk N r0 (H:Int) (Be u).length (Am fx) fx.length e g (n 0) (n 1) (n 2) (n 3) (n 4) (n 5) ((Be u).flatMap StD.av) (rB u (H:Int) E Q V o o1 o2 n0 c0) k (h:Int)) L W=X:=by
 intro m
 induction m with
|zero =>
  intro h fuel0 W L I T tk dr
  have:h=H:=by omega
  subst this
  exact hk fuel0 W L tk dr (by omega)
|succ m ih =>
  intro h fuel0 W L I T tk dr
  obtain⟨k,rfl⟩:∃ f',fuel0=f'+1:=⟨fuel0 - 1,by omega⟩
  have h6:=D.h6
  have hN:100001000<=N:=by have:=hf.1;omega
  have Y:=(Bf D.hv).1
  have hnS:(Be u).length<=80:=uW Y
  unfold Abv IG
  try dsimp only
  rw[Kk];unfold EW
  rw[Ox (by omega),ct]
  refine Aod D G hl hf (by omega) hn (Be u).length 0 N _ W L (by omega) (by omega) tk dr fun W' L' t' l'=>?_
  rw[wS (by omega)]
  refine ih (h+1) k W' L' (by omega) (by omega) ?_ l'
  rw[cP];exact t'
def Awv(St:List Int)(En Re:List RatD):LA:=[.imm (Am St) St.length 1 false false,.imm (En.flatMap RatD.av) En.length 3 false false,.imm (Re.flatMap RatD.av) Re.length 3 false false]
def At5{r0:Ay1 R}{n:Nat->Nat}{c:Nat->LA}(D:DOk u hh H E Q V a b)(T:fit 1000000 N){j i:Nat}(hj:j<5)(hl:j+i<H){l:Rn}(hn:n j=l.length)(hc:c j=rc l)(hr:RI u a b j l)(h7:l.length<=7)(I:¬ FH (un u) H j i<Hu (un u) j i){St:List Int}{En Re:List RatD}(e1:St.length=H)(e2:En.length=H)(e3:Re.length=H)
  (k:∀ G,RI u a b j G->G.length<=7->∀(St':List Int)(En' Re':List RatD),St'.length=H->En'.length=H->Re'.length=H->Same j i St St' En En' Re Re'->(∀ t,t<=i->At St' En' Re' (j+t) 2 (fP (un u) a b j i (So (un u) a b H j i) t) (fR (un u) a b j i (So (un u) a b H j i) t))->Azl r0 (up n j G.length) (up c j (rc G)) (Am St') (En'.flatMap RatD.av) (Re'.flatMap RatD.av)=X) :
  M9 N (j:Int) ((j+i:Nat):Int) H H H (Am St) (En.flatMap RatD.av) (Re.flatMap RatD.av) (rB u (H:Int) E Q V o o1 o2 n c) r0=X:=by
 have h6:=D.h6
 have hN:100001000<=N:=by have:=T.1;omega
 rw[BS];unfold Po
 refine Avc D T hj hl hn hc hr h7 (fun e=>absurd e I) fun _ G L hi Y=>?_
 have hx:=Abu (a:=a) (b:=b) D.hv I
 exact y_ D T hj L Vi Vi i hi hl _ St En Re N hx.1 hx.2.1 e1 e2 e3 (by omega) fun St' En' Re' l1 l2 l3 hs hA=>k G L Y St' En' Re' l1 l2 l3 hs hA
def At.congr{St St':List Int}{En En' Re Re':List RatD}{i:Nat}{k:Int}{p r:Rat}(h:St'[i]?=St[i]?/\En'[i]?=En[i]?/\Re'[i]?=Re[i]?)(x:At St En Re i k p r):At St' En' Re' i k p r:=⟨h.1.trans x.st,by rw[h.2.1];exact x.en,by rw[h.2.2];exact x.re⟩
def Axv{Y:Type}(q:N6 (L6 (LA->LA->LA->Y)))(L:Nat->Rn)(St:List Int)(En Re:List RatD):Y:=IG (IG q (fun j=>(L j).length) (Am St) (En.flatMap RatD.av) (Re.flatMap RatD.av)) fun j=>rc (L j)
def A0l{Y:Type}(r0:N6 (L6 Y))(L:Nat->Rn):Y:=IG (IG r0 fun j=>(L j).length) fun j=>rc (L j)
def Ar1(m:Option MkD)(r:LA):ble 7 (FY m++r).length=true:=by rw[A3d,EO,A3p];omega
def Ar2(m:Option MkD)(r:LA):(FY m++r).take 7=FY m:=by rw[<-EO m,List.take_left]
def Ave(m:Option MkD):((beq 0 0)&&((beq (FY m).length 7)&&(beq 7 7)))=true:=by rw[EO];rfl
def Agj{l:List Int}{i:Nat}{v:Int}:(Am l).set (0+i*1) (.int .i64 v)=Am (l.set i v):=by rw[A22,A3g];unfold Am;rw[A8x]
def Ar3{l:List Int}{i:Nat}(h:i<l.length):((beq 1 1)&&((ble ((0+(i*1))+1) ((Am l).length))&&(!false)))=true:=by rw[K2,show ble (0+i*1+1) l.length=true by rw[A3p];omega];rfl
def Aoe (D:DOk u hh H E Q V a b) (hf:fit 1000000 N) {W:Nat->List (Option MkD)} (tk:L9 u H (Hv (Bw u fx H a b) (Jt u) H) W) {n:Nat->Nat} (hn:∀ j≤H,n j=(Be u).length) {n0:Nat->Nat} {c0:Nat->LA} {r0:LA->N6 (L6 (O R))} {ae af zz aa:Bool} {x ai aj ak:LA} {y:Nat} {bb:Int}:∀ (q hr I:Nat) (s:StD) (m:Mk) (St:List Int) (En Re:List RatD) (L:Nat->Rn),hr<=H->hr<q->q<=I->C4 u s->Hv (Bw u fx H a b) (Jt u) H hr (ds s)=some m->St.length=H->En.length=H->Re.length=H->(∀ i<hr,At St En Re i 0 0 0)->DR u a b L ->
   (∀ St' En' Re' L',St'.length=H->En'.length=H->Re'.length=H->(∀ i<hr,At St' En' Re' i (Ps (un u) a b (Bw u fx H a b) (Jt u) q hr (ds s) i).1 (Ps (un u) a b (Bw u fx H a b) (Jt u) q hr (ds s) i).2.1 (Ps (un u) a b (Bw u fx H a b) (Jt u) q hr (ds s) i).2.2)->(∀ i,hr<=i->St'[i]?=St[i]?/\En'[i]?=En[i]?/\Re'[i]?=Re[i]?)->DR u a b L'->A0l (r0 (Awv St' En' Re')) L'=X) ->
   Axv (B9 N r0 ((Be u).flatMap StD.av) (Be u).length ae af x y zz aa (n 0) (n 1) (n 2) (n 3) (n 4) (n 5) (rB u (H:Int) E Q V o o1 o2 n0 c0) (A2 (W 0)) (A2 (W 1)) (A2 (W 2)) (A2 (W 3)) (A2 (W 4)) (A2 (W 5)) H H H bb ai aj ak I ((ix u s:Nat):Int) (hr:Int)) L St En Re=X:=by
 intro q
 induction q with
|zero=>intro hr _ _ _ _ _ _ _ _ h;exact absurd h (by omega)
| succ q ih =>
  intro hr fuel0 s m St En Re L hH hq hfu hs hm e1 e2 e3 h0 dr hk
  obtain⟨I,rfl⟩:∃ f',fuel0=f'+1:=⟨fuel0 - 1,by omega⟩
  cases hr with
  | zero =>
    unfold Axv IG
    try dsimp only
    rw[B9];unfold I4
    rw[show decide (((0:Nat):Int)>0)=false from rfl,cf]
    have t1:(Am St).take (H*1)=Am St:=A2t (by rw[K2];omega)
    have t2:(En.flatMap RatD.av).take (H*3)=En.flatMap RatD.av:=A2t (by rw[nQ];omega)
    have t3:(Re.flatMap RatD.av).take (H*3)=Re.flatMap RatD.av:=A2t (by rw[nQ];omega)
    rw[t1,t2,t3]
    have:=hk St En Re L e1 e2 e3 (fun i hi=>absurd hi (by omega)) (fun i _=>⟨rfl,rfl,rfl⟩) dr
    unfold Awv at this
    rw[e1,e2,e3]at this
    exact this
  | succ hr =>
    have h6:=D.h6
    have hsd:=(Bf D.hv).1
    have hN:100001000<=N:=by have:=hf.1;omega
    have k:=Ak4 (fx:=fx) (H:=H) (a:=a) (b:=b) D.hv
    have hnS:(Be u).length<=80:=uW hsd
    have lt:=EM hsd hs
    obtain⟨wn,we⟩:=tk (hr+1) hH
    obtain⟨md,g1,g2⟩:=we s hs
    have lt':ix u s<(W (hr+1)).length:=by omega
    rw[A2r lt',A3k]at g1
    rw[hm]at g2
    cases md with
    |none=>exact g2.elim
    | some md =>
     obtain⟨_,_,d1,d2,d0⟩:=g2
     obtain⟨s',d3,d4,d5⟩:=d0 (by omega)
     obtain⟨_,mh,m0,a1,a2,t,a3,a4,cs⟩:=(UK (P:=Bw u fx H a b) (all:=Jt u) H (A2s _)).2 (hr+1) (ds s) m (by omega) hm
     rw[d4]at a2
     have tr:∀ i,Ps (un u) a b (Bw u fx H a b) (Jt u) (q+1) (hr+1) (ds s) i=if i<m.hour then Ps (un u) a b (Bw u fx H a b) (Jt u) q m.hour (ds s') i else if s.k≠2/\i+1=hr+1 then(s.k,0,0)else if m.run=true then
       (2,fP (un u) a b m.hour (To (hr+1) (ds s) - m.hour) (So (un u) a b H m.hour (To (hr+1) (ds s) - m.hour)) (i - m.hour),fR (un u) a b m.hour (To (hr+1) (ds s) - m.hour) (So (un u) a b H m.hour (To (hr+1) (ds s) - m.hour)) (i - m.hour))else(0,0,0):=fun i=>by
      rw[Ps,show Hv (Bw u fx H a b) (Jt u) (Bw u fx H a b).H (hr+1) (ds s)=some m from hm];dsimp only;rw[d4];rfl
     have go:∀(St1:List Int)(En1 Re1:List RatD)(L1:Nat->Rn),St1.length=H->En1.length=H->Re1.length=H->DR u a b L1->(∀ i<m.hour,St1[i]?=St[i]?/\En1[i]?=En[i]?/\Re1[i]?=Re[i]?)->(∀ i,m.hour<=i->i<hr+1->At St1 En1 Re1 i (Ps (un u) a b (Bw u fx H a b) (Jt u) (q+1) (hr+1) (ds s) i).1 (Ps (un u) a b (Bw u fx H a b) (Jt u) (q+1) (hr+1) (ds s) i).2.1 (Ps (un u) a b (Bw u fx H a b) (Jt u) (q+1) (hr+1) (ds s) i).2.2)->(∀ i,hr+1<=i->St1[i]?=St[i]?/\En1[i]?=En[i]?/\Re1[i]?=Re[i]?) ->
       Axv (B9 N r0 ((Be u).flatMap StD.av) (Be u).length ae af x y zz aa (n 0) (n 1) (n 2) (n 3) (n 4) (n 5) (rB u (H:Int) E Q V o o1 o2 n0 c0) (A2 (W 0)) (A2 (W 1)) (A2 (W 2)) (A2 (W 3)) (A2 (W 4)) (A2 (W 5)) H H H bb ai aj ak I (md.p:Int) (md.h:Int)) L1 St1 En1 Re1=X:=fun St1 En1 Re1 L1 l1 l2 l3 dr1 f1 f2 f3=>by
      rw[d5,d1]
      refine ih m.hour I s' m0 St1 En1 Re1 L1 (by omega) (by omega) (by omega) d3 a2 l1 l2 l3 (fun i hi=>(h0 i (by omega)).congr (f1 i hi)) dr1 fun St' En' Re' L' q1 q2 q3 g1 g2 dr'=>?_
      refine hk St' En' Re' L' q1 q2 q3 (fun i hi=>?_) (fun i hi=>?_) dr'
      ·by_cases c:i<m.hour
       ·rw[tr,if_pos c];exact g1 i c
       ·exact(f2 i (by omega) hi).congr (g2 i (by omega))
      ·have y1:=g2 i (by omega);have y2:=f3 i hi
       exact⟨y1.1.trans y2.1,y1.2.1.trans y2.2.1,y1.2.2.trans y2.2.2⟩
     have ev:v6 (hr+1) (A2 (W 0)) (A2 (W 1)) (A2 (W 2)) (A2 (W 3)) (A2 (W 4)) (A2 (W 5))=A2 (W (hr+1)):=w8 (by omega) fun j=>A2 (W j)
     have off:s.k≠2->St.set hr s.k=St\/True:=fun _=>.inr trivial
     have fillq:∀(j:Nat)(St1:List Int),m.run=true->m.hour+j<H->m.hour+j<=hr->(Bw u fx H a b).rev m.hour j≠none->St1.length=H->To (hr+1) (ds s)=m.hour+j->(∀ i,i<=hr->m.hour<=i->¬ (s.k≠2/\i+1=hr+1)->i<=m.hour+j)->(∀ i,i<=m.hour+j->¬ (s.k≠2/\i+1=hr+1))->(∀ i,i≠hr->St1[i]?=St[i]?)->(s.k≠2->St1[hr]?=some s.k)->(s.k=2->St1=St) ->
       Axv (Hg N (B9 N r0 ((Be u).flatMap StD.av) (Be u).length ae af x y zz aa (n 0) (n 1) (n 2) (n 3) (n 4) (n 5) (rB u (H:Int) E Q V o o1 o2 n0 c0) (A2 (W 0)) (A2 (W 1)) (A2 (W 2)) (A2 (W 3)) (A2 (W 4)) (A2 (W 5)) H H H bb ai aj ak I) r0 ((Be u).flatMap StD.av) (Be u).length ae af x y zz aa (n 0) (n 1) (n 2) (n 3) (n 4) (n 5) (rB u (H:Int) E Q V o o1 o2 n0 c0) (A2 (W 0)) (A2 (W 1)) (A2 (W 2)) (A2 (W 3)) (A2 (W 4)) (A2 (W 5)) H H H (FY (some md)) bb ai aj ak ((m.hour+j:Nat):Int)) L St1 En Re=X:=fun j St1 hrun hjH hjr Y l1 hlast hin hno hst hoff hon=>by
      unfold Axv IG Hg
      try dsimp only
      rw[show ∀ F:Bool->O R,Wg ((FY (some md)).drop 6) F=F md.r from fun _=>rfl,d2,hrun,ct,show ∀ F:Int->O R,Aj .i64 ((FY (some md)).drop 4) F=F (md.h:Int)from fun _=>Aw,d1,show Agz (rB u (H:Int) E Q V o o1 o2 n0 c0) (L 0).length (L 1).length (L 2).length (L 3).length (L 4).length (L 5).length (rc (L 0)) (rc (L 1)) (rc (L 2)) (rc (L 3)) (rc (L 4)) (rc (L 5))=rB u (H:Int) E Q V o o1 o2 (fun j=>(L j).length) (fun j=>rc (L j))from rfl]
      have hok:¬ FH (un u) H m.hour j<Hu (un u) m.hour j:=fun hb=>Y (by show oG (un u) a b H m.hour j=none;unfold oG;rw[if_pos hb])
      refine At5 (n:=fun j=>(L j).length) (c:=fun j=>rc (L j)) (l:=L m.hour) D hf (by omega) hjH rfl rfl (dr m.hour).1 (dr m.hour).2 hok l1 e2 e3 fun l' k1 k2 St2 En2 Re2 q1 q2 q3 T hA=>?_
      rw[kV List.length,kV rc]
      unfold Azl
      try dsimp only
      rw[show ∀ F:Int->O R,Aj .i64 ((FY (some md)).drop 4) F=F (md.h:Int)from fun _=>Aw,show ∀ F:Int->O R,Aj .i64 ((FY (some md)).drop 5) F=F (md.p:Int)from fun _=>Aw]
      refine go St2 En2 Re2 (up L m.hour l') q1 q2 q3 (dr.up k1 k2) (fun i hi=>?_) (fun i hi1 hi2=>?_) (fun i hi=>?_)
      ·have z:=T i (by omega)
       rw[hst i (by omega)]at z;exact z
      ·rw[tr,if_neg (by omega)]
       by_cases c:s.k≠2/\i+1=hr+1
       ·rw[if_pos c]
        have:i=hr:=by omega
        subst this
        have z:=T i (fun w=>hno i w.2 c)
        rw[hoff c.1]at z
        have w:=h0 i (by omega)
        exact⟨z.1,by rw[z.2.1];exact w.en,by rw[z.2.2];exact w.re⟩
       ·rw[if_neg c,if_pos hrun,hlast]
        have z:=hA (i - m.hour) (by have:=hin i (by omega) hi1 c;omega)
        rw[show m.hour+(i - m.hour)=i by omega]at z
        rw[show m.hour+j - m.hour=j by omega]
        exact z
      ·have z:=T i (by omega)
       rw[hst i (by omega)]at z;exact z
     unfold Axv IG
     try dsimp only
     rw[B9];unfold I4
     rw[decide_eq_true (show((hr+1:Nat):Int)>0 by omega),ct,yZ (by omega),w8 (by omega) n,ev,hn (hr+1) hH,Aa lt,ct,A2u,A22,gA lt',g1,Ar1,ct,Ar2,Ave,ct,show iI (hr+1)=((hr+1:Nat):Int)from rfl]
     unfold Fb Ou
     have est:=Afx hsd hs
     rw[Aa lt,ct,Afo lt,est,Abl]
     have ew:wrap .i64 (((hr+1:Nat):Int) - 1)=(hr:Int):=by rw[Bc _ (by omega)];omega
     rw[ew]
     have hl1:(St.set hr s.k).length=H:=by simp[e1]
     have pN:∀ i,i≠hr->(St.set hr s.k)[i]?=St[i]?:=fun i hi=>A4k (fun c=>hi c.symm)
     have st2':(St.set hr s.k)[hr]?=some s.k:=A35 (by omega)
     rcases cs with⟨r1,b1,b2,b3,b4,b5⟩|⟨r1,b1,j,c,v,b2,b3,b4,b5,b6,b7⟩
     ·have G:s.k≠2:=by rw[<-b4]at b1;exact b1
      rw[show(s.k != 2)=true by simp[G],ct,ct,Abl,Aa (by omega),ct,A2u,Ar3 (by omega),ct,Agj]
      unfold Hg
      try dsimp only
      rw[show ∀ F:Bool->O R,Wg ((FY (some md)).drop 6) F=F md.r from fun _=>rfl,d2,r1,cf,show ∀ F:Int->O R,Aj .i64 ((FY (some md)).drop 4) F=F (md.h:Int)from fun _=>Aw,show ∀ F:Int->O R,Aj .i64 ((FY (some md)).drop 5) F=F (md.p:Int)from fun _=>Aw]
      refine go (St.set hr s.k) En Re L hl1 e2 e3 dr (fun i hi=>⟨pN i (by omega),rfl,rfl⟩) (fun i hi1 hi2=>?_) (fun i hi=>⟨pN i (by omega),rfl,rfl⟩)
      have:i=hr:=by omega
      subst this
      rw[tr,if_neg (by omega),if_pos ⟨G,rfl⟩]
      have w:=h0 i (by omega)
      exact⟨st2',w.en,w.re⟩
     ·obtain⟨cK,cN⟩:=Ah0 k b1 j c b4
      have Y:(Bw u fx H a b).rev m.hour j≠none:=by rw[b6];simp
      unfold Of at b5
      by_cases hlt:m.hour+j+1<(Bw u fx H a b).H
      ·rw[if_pos hlt]at b5
       have hlt':m.hour+j+1<H:=hlt
       obtain⟨e,y1,y2⟩:=A49.1 b5
       split at y2
       ·simp only[A3k,A6x]at y2
        have sk:s.k=0:=by
         have:=(k.sm _ _ _ y1).2
         rw[y2.2]at this;exact this
        have G:s.k≠2:=by omega
        rw[show(s.k != 2)=true by simp[G],ct,ct,Abl,Aa (by omega),ct,A2u,Ar3 (by omega),ct,Agj,Bc ((hr:Int) - 1) (by omega),show(hr:Int) - 1=((m.hour+j:Nat):Int) by omega]
        refine fillq j (St.set hr s.k) r1 (by omega) (by omega) Y hl1 ?_ (fun i h1 h2 h3=>?_) (fun i h1 h2=>?_) pN (fun _=>st2') (fun z=>absurd z G)
        ·unfold To;rw[if_neg (show ¬ (ds s).1=2 from G)];omega
        ·by_cases w:i+1=hr+1
         ·exact absurd ⟨G,w⟩ h3
         ·omega
        ·omega
       ·cases y2
      ·rw[if_neg hlt]at b5
       have hlt':¬ m.hour+j+1<H:=hlt
       simp only[A3k,A6x]at b5
       have b2':m.hour+j<H:=b2
       have G:s.k=2:=by rw[b5.2]at cK;exact cK
       rw[show(s.k != 2)=false by simp[G],cf,show(hr:Int)=((m.hour+j:Nat):Int) by omega]
       refine fillq j St r1 b2' (by omega) Y e1 ?_ (fun i h1 h2 h3=>by omega) (fun i h1 h2=>h2.1 G) (fun i _=>rfl) (fun z=>absurd G z) (fun _=>rfl)
       unfold To;rw[if_pos (show(ds s).1=2 from G)];omega
def Aww(D:DOk u hh H E Q V a b)(k:fit 1000000 N){W:Nat->List (Option MkD)}{L:Nat->Rn}(tk:L9 u H (Hv (Bw u fx H a b) (Jt u) H) W)(dr:DR u a b L){n:Nat->Nat}(G:∀ j≤H,n j=(Be u).length){r0:LA->N6 (L6 (O R))}{ae af zz aa:Bool}{x:LA}{y:Nat}{s:StD}{m:Mk}(hs:C4 u s)(I:Hv (Bw u fx H a b) (Jt u) H H (ds s)=some m)
  (T:∀ St En Re L',St.length=H->En.length=H->Re.length=H->(∀ i<H,At St En Re i (Ps (un u) a b (Bw u fx H a b) (Jt u) (H+1) H (ds s) i).1 (Ps (un u) a b (Bw u fx H a b) (Jt u) (H+1) H (ds s) i).2.1 (Ps (un u) a b (Bw u fx H a b) (Jt u) (H+1) H (ds s) i).2.2)->A0l (r0 (Awv St En Re)) L'=X) :
  K6 N ((Be u).flatMap StD.av) (Be u).length ae af ((ix u s:Nat):Int) x y zz aa (n 0) (n 1) (n 2) (n 3) (n 4) (n 5) (A2 (W 0)) (A2 (W 1)) (A2 (W 2)) (A2 (W 3)) (A2 (W 4)) (A2 (W 5)) (rB u (H:Int) E Q V o o1 o2 (fun j=>(L j).length) fun j=>rc (L j)) r0=X:=by
 have h6:=D.h6
 have hN:100001000<=N:=by have:=k.1;omega
 obtain⟨N',rfl⟩:∃ N',N=N'+1:=⟨N - 1,by omega⟩
 rw[Xt];unfold Oc
 refine Aws (by omega) (by omega) fun En Re Y g2 g3 g4=>?_
 have:=Aoe (o:=o) (o1:=o1) (o2:=o2) (R:=R) (N:=N'+1) (X:=X) (r0:=r0) (ae:=ae) (af:=af) (zz:=zz) (aa:=aa) (x:=x) (ai:=Am (replicate H 0)) (aj:=En.flatMap RatD.av) (ak:=Re.flatMap RatD.av) (y:=y) (bb:=((ix u s:Nat):Int)) (n0:=fun j=>(L j).length) (c0:=fun j=>rc (L j)) D k tk G (H+1) H (N'+1) s m (replicate H 0) En Re L (A2s _) (by omega) (by omega) hs I (by simp) Y g2 (fun i hi=>⟨by rw[A5p,if_pos hi],⟨_,A2r (by omega),g3 _ (A24 _)⟩,⟨_,A2r (by omega),g4 _ (A24 _)⟩⟩) dr fun St' En' Re' L' q1 q2 q3 y1 y2 dr'=>T St' En' Re' L' q1 q2 q3 y1
 exact this
end
end Gx.Uo
namespace Gx.Uo
open Go Go.Proofs
noncomputable section
variable{R:Type}{N:Nat}{X:O R}
def Ag1(N n:Nat)(w:LA)(len:Int)(z:Int->O R):Nat->Int->Int->O R
|0=>fun _ _=>none
|f+1=>fun b t=>MR N n w t len b (fun x=>Ag1 N n w len z f x (wrap .i64 (t+1))) (z b)
section
variable{r0:LA->LA->Int->O R}{A C i0 i1 i2 i3 i4 i5:Nat}{f h q:LA}{g d:Bool}{rb:RB}
def A1g{len:Int}{w y2 y3 y4 y5 z0 z1 z2 z3 z4 z5:LA}{D e1 G e3 e4 I:Nat}:∀(k:Nat)(b t:Int),Wa N r0 A i1 f C g d i0 i2 i3 i4 i5 h rb q k b len t w D e1 G e3 e4 I y2 y3 y4 y5 z0 z1 z2 z3 z4 z5=Ag1 N i1 w len (fun x=>Db N r0 A f C g d i0 i1 i2 i3 i4 i5 h rb q 1 x D e1 G e3 e4 I w y2 y3 y4 y5 z0 z1 z2 z3 z4 z5) k b t
|0,_,_=>rfl
|n+1,b,t=>by
  rw[Wa,Ag1];unfold MS
  simp only[A1g n]
def A1h{len:Int}{w y1 y3 y4 y5 z0 z1 z2 z3 z4 z5:LA}{D e1 G e3 e4 I:Nat}:∀(k:Nat)(b t:Int),Wb N r0 A i2 f C g d i0 i1 i3 i4 i5 h rb q k b len t w D e1 G e3 e4 I y1 y3 y4 y5 z0 z1 z2 z3 z4 z5=Ag1 N i2 w len (fun x=>Db N r0 A f C g d i0 i1 i2 i3 i4 i5 h rb q 2 x D e1 G e3 e4 I y1 w y3 y4 y5 z0 z1 z2 z3 z4 z5) k b t
|0,_,_=>rfl
|n+1,b,t=>by
  rw[Wb,Ag1];unfold MT
  simp only[A1h n]
def A1i{len:Int}{w y1 y2 y4 y5 z0 z1 z2 z3 z4 z5:LA}{D e1 G e3 e4 I:Nat}:∀(k:Nat)(b t:Int),Wc N r0 A i3 f C g d i0 i1 i2 i4 i5 h rb q k b len t w D e1 G e3 e4 I y1 y2 y4 y5 z0 z1 z2 z3 z4 z5=Ag1 N i3 w len (fun x=>Db N r0 A f C g d i0 i1 i2 i3 i4 i5 h rb q 3 x D e1 G e3 e4 I y1 y2 w y4 y5 z0 z1 z2 z3 z4 z5) k b t
|0,_,_=>rfl
|n+1,b,t=>by
  rw[Wc,Ag1];unfold MU
  simp only[A1i n]
def A1j{len:Int}{w y1 y2 y3 y5 z0 z1 z2 z3 z4 z5:LA}{D e1 G e3 e4 I:Nat}:∀(k:Nat)(b t:Int),Wd N r0 A i4 f C g d i0 i1 i2 i3 i5 h rb q k b len t w D e1 G e3 e4 I y1 y2 y3 y5 z0 z1 z2 z3 z4 z5=Ag1 N i4 w len (fun x=>Db N r0 A f C g d i0 i1 i2 i3 i4 i5 h rb q 4 x D e1 G e3 e4 I y1 y2 y3 w y5 z0 z1 z2 z3 z4 z5) k b t
|0,_,_=>rfl
|n+1,b,t=>by
  rw[Wd,Ag1];unfold MV
  simp only[A1j n]
def A1k{len:Int}{w y1 y2 y3 y4 z0 z1 z2 z3 z4 z5:LA}{D e1 G e3 e4 I:Nat}:∀(k:Nat)(b t:Int),We N r0 A i5 f C g d i0 i1 i2 i3 i4 h rb q k b len t w D e1 G e3 e4 I y1 y2 y3 y4 z0 z1 z2 z3 z4 z5=Ag1 N i5 w len (fun x=>Db N r0 A f C g d i0 i1 i2 i3 i4 i5 h rb q 5 x D e1 G e3 e4 I y1 y2 y3 y4 w z0 z1 z2 z3 z4 z5) k b t
|0,_,_=>rfl
|n+1,b,t=>by
  rw[We,Ag1];unfold MW
  simp only[A1k n]
end
variable{u:UnitD}{H:Nat}
def Inv(u:UnitD)(T:Nj->Option Mk)(t:Nat)(b:Int):Prop:=(b=-1/\∀ i<t,∀ h:i<(Be u).length,T (ds (Be u)[i])=none)\/∃ s m,C4 u s/\b=((ix u s:Nat):Int)/\T (ds s)=some m/\∀ i<t,∀ h:i<(Be u).length,∀ m',T (ds (Be u)[i])=some m'->m'.profit<=m.profit
def Avf{T:FG}{W:List (Option MkD)}(rk:RowOk u H T W)(hH:H<=5)(Y:Bg u=true)(hf:fit 1000000 N){z:Int->O R}(hz:∀ b,Inv u (T H) (Be u).length b->z b=X):∀(m t D:Nat)(b:Int),t+m=(Be u).length->m<D->Inv u (T H) t b->Ag1 N (Be u).length (A2 W) ((Be u).length:Int) z D b (t:Int)=X
|0,t,D+1,b,ht,_,hi=>by
  unfold Ag1 MR
  rw[Rc (by omega),cf]
  have:t=(Be u).length:=by omega
  subst this;exact hz b hi
| m+1,t,D+1,b,ht,hfu,hi=>by
  have hnS:(Be u).length<=80:=uW Y
  have ht':t<(Be u).length:=by omega
  have wn:=rk.n
  have lt':t<W.length:=by omega
  obtain⟨s1,s2⟩:=Au6 Y ht'
  obtain⟨md,g1,g2⟩:=rk.e _ s1
  rw[s2,A2r lt',A3k]at g1
  have step:∀ b',Inv u (T H) (t+1) b'->Ag1 N (Be u).length (A2 W) ((Be u).length:Int) z D b' (wrap .i64 ((t:Int)+1))=X:=fun b' h=>by
   rw[wS (by omega)];exact Avf rk hH Y hf hz m (t+1) D b' (by omega) (by omega) h
  unfold Ag1 MR
  rw[Ox ht',ct,Aa ht',ct,A2u,A22,gA lt',g1,Ar1,ct,Ar2,Ave,ct]
  cases md with
  | none =>
   have hT:T H (ds (Be u)[t])=none:=by
    cases hT:T H (ds (Be u)[t])with
    |none=>rfl
    |some _=>rw[hT]at g2;exact g2.elim
   rw[show ∀ F:Bool->O R,Wg (FY none) F=F false from fun _=>rfl,show(false==true)=false from rfl,cf]
   refine step b ?_
   rcases hi with⟨rfl,h1⟩|⟨s,m0,h1,h2,h3,h4⟩
   ·refine .inl ⟨rfl,fun i G I=>?_⟩
    by_cases e:i=t
    ·subst e;exact hT
    ·exact h1 i (by omega) I
   ·refine .inr ⟨s,m0,h1,h2,h3,fun i G I L k=>?_⟩
    by_cases e:i=t
    ·subst e;rw[hT]at k;cases k
    ·exact h4 i (by omega) I L k
  | some md =>
   cases hT:T H (ds (Be u)[t])with
   |none=>rw[hT]at g2;exact g2.elim
   | some mt =>
    rw[hT]at g2
    obtain⟨c1,q1,_⟩:=g2
    rw[show ∀ F:Bool->O R,Wg (FY (some md)) F=F true from fun _=>rfl,show(true==true)=true from rfl,ct]
    have take:(∀ i<t,∀ h:i<(Be u).length,∀ L,T H (ds (Be u)[i])=some L->L.profit<=mt.profit)->Inv u (T H) (t+1) (t:Int):=fun hle=>.inr ⟨_,mt,s1,by rw[s2],hT,fun i G I L k=>by
     by_cases e:i=t
     ·subst e;rw[hT]at k;cases k;exact A37
     ·exact hle i (by omega) I L k⟩
    rcases hi with⟨rfl,h1⟩|⟨s,m0,h1,rfl,h3,h4⟩
    ·rw[show(decide ((-1:Int)<0)==false)=false from rfl,cf]
     exact step _ (take fun i G I L k=>by rw[h1 i G I]at k;cases k)
    ·have lt:=EM Y h1
     have lt2:ix u s<W.length:=by omega
     obtain⟨mb,g3,g4⟩:=rk.e _ h1
     rw[A2r lt2,A3k]at g3
     rw[h3]at g4
     cases mb with
     |none=>exact g4.elim
     | some mb =>
      obtain⟨c2,q2,_⟩:=g4
      rw[show(decide (((ix u s:Nat):Int)<0)==false)=true by rw[decide_eq_false (by omega)];rfl,ct,show(FY (some md)).drop 1=md.d.av++[.int .i64 (md.h:Int),.int .i64 (md.p:Int),.bool md.r]from rfl,OR,ct,Aa lt,ct,A2u]
      rw[Abt lt2,g3,Ak9]
      rw[OR,ct,Wy,Wy,Atp (c1.is (m:=10000) (by omega)) (c2.is (m:=10000) (by omega)) (hf.le (by omega)),Abj]
      by_cases I:m0.profit<mt.profit
      ·rw[decide_eq_true I,show(cond true (cond false true true) false)=true from rfl,ct]
       exact step _ (take fun i G hl2 L k=>A40 (h4 i G hl2 L k) (A7e I))
      ·rw[decide_eq_false I,show(cond true (cond false true false) false)=false from rfl,cf]
       refine step _ (.inr ⟨s,m0,h1,rfl,h3,fun i G hl2 L k=>?_⟩)
       by_cases e:i=t
       ·subst e;rw[hT]at k;cases k;exact A81.1 I
       ·exact h4 i (by omega) hl2 L k
def At6(k:Bg u=true){T:Nj->Option Mk}{b:Int}(h:Inv u T (Be u).length b):(b=-1/\∀ s,C4 u s->T (ds s)=none)\/∃ s m,C4 u s/\b=((ix u s:Nat):Int)/\T (ds s)=some m/\∀ G D,C4 u G->T (ds G)=some D->D.profit<=m.profit:=by
 rcases h with⟨I,L⟩|⟨s,m,I,L,Y,h4⟩
 ·refine .inl ⟨I,fun s hs=>?_⟩
  have:=L _ (EM k hs) (EM k hs)
  rwa [Afx k hs]at this
 ·refine .inr ⟨s,m,I,L,Y,fun G D hs hm=>?_⟩
  refine h4 _ (EM k hs) (EM k hs) D ?_
  rwa [Afx k hs]
end
end Gx.Uo
namespace Gx.Uo
open Go Go.Proofs
noncomputable section
variable{R:Type}{N:Nat}{X:O R}
variable{u:UnitD}{hh hs:Int}{E Q V:List RatD}{a b:Nat->Rat}{H:Nat}{fx:List Int}{g:Bool}
def bJ(u:UnitD)(t:Nat)(j:Nat):Nat:=if j<t then(Be u).length else 0
def oC(u:UnitD)(t:Nat)(j:Nat):List (Option MkD):=if j<t then replicate (Be u).length none else []
def Ar4{t:Nat}:bA (bJ u t) t (Be u).length=bJ u (t+1):=by
 funext j;unfold bA bJ
 by_cases h:j=t
 ·rw[if_pos h,if_pos (by omega)]
 ·rw[if_neg h]
  by_cases k:j<t
  ·rw[if_pos k,if_pos (by omega)]
  ·rw[if_neg k,if_neg (by omega)]
def Aof{t:Nat}:bA (oC u t) t (replicate (Be u).length none)=oC u (t+1):=by
 funext j;unfold bA oC
 by_cases h:j=t
 ·rw[if_pos h,if_pos (by omega)]
 ·rw[if_neg h]
  by_cases k:j<t
  ·rw[if_pos k,if_pos (by omega)]
  ·rw[if_neg k,if_neg (by omega)]
def Ay3(N:Nat)(r0:LA->LA->Int->O R)(u:UnitD)(H:Int)(fx:List Int)(g:Bool)(rb:RB)(fuel:Nat)(dk ch:Int):N6 (L6 (O R)):=Ui N r0 H (Be u).length u.name u.bus u.min u.max (u.segs.l.flatMap SegD.av) u.segs.l.length false u.noLoad u.rampUp u.rampDown u.startRamp u.stopRamp u.upTime u.downTime u.startTime u.hotCost u.coldCost u.hotHours u.reserve u.reservePrice (Am u.away.l) u.away.l.length u.state u.hours u.output (Am fx) fx.length g false ((Be u).flatMap StD.av) rb fuel dk ch
def W0(u:UnitD)(H:Nat)(d:RatD):Nat->List (Option MkD):=bA (oC u (H+1)) 0 ((replicate (Be u).length none).set (ix u (Ar u)) (some ⟨d,0,0,false⟩))
def At7(k:Bg u=true){d:RatD}(D:d.can 0):L9 u H (Hv (Bw u fx H a b) (Jt u) 0) (W0 u H d):=by
 intro h hH
 have G:=Oa k
 by_cases c:h=0
 ·subst c
  unfold W0;rw[An5]
  refine⟨by simp,fun s hs=>?_⟩
  have lt:=EM k hs
  by_cases es:s=Ar u
  ·subst es
   refine⟨some ⟨d,0,0,false⟩,A35 (by simpa using lt),?_⟩
   rw[show Hv (Bw u fx H a b) (Jt u) 0 0 (ds (Ar u))=some ⟨0,0,ds (Ar u),false⟩from if_pos ⟨rfl,rfl⟩]
   exact⟨D,by have:qm (0:Rat)<=2:=qi (v:=0) (by omega);show qm (0:Rat)<=_;omega,rfl,rfl,fun h=>absurd h (by omega)⟩
  ·refine⟨none,?_,?_⟩
   ·rw[A4k (fun e=>es (Ars k hs G e.symm)),A5p,if_pos lt]
   ·rw[show Hv (Bw u fx H a b) (Jt u) 0 0 (ds s)=none from if_neg (fun h=>es (Arl h.2))];trivial
 ·unfold W0 bA oC;rw[if_neg c,if_pos (by omega)]
  refine⟨by simp,fun s hs=>⟨none,by rw[A5p,if_pos (EM k hs)],?_⟩⟩
  rw[show Hv (Bw u fx H a b) (Jt u) 0 h (ds s)=none from if_neg (fun h=>c h.1)];trivial
variable{o o1 o2:Bool}
def A0m(N:Nat)(r0:LA->LA->Int->O R)(u:UnitD)(H:Nat)(fx:List Int)(g:Bool)(n:Nat->Nat)(rb:RB)(fuel:Nat)(h:Int):N6 (L6 (L6 (O R))):=Kk N r0 (H:Int) (Be u).length (Am fx) fx.length g false (n 0) (n 1) (n 2) (n 3) (n 4) (n 5) ((Be u).flatMap StD.av) rb fuel h
def uw{r0:LA->LA->Int->O R}(G:Bg u=true)(hN:100001000<=N)(hH:H<=5)
  (k:∀ d:RatD,d.can 0->Abv (A0m N r0 u H fx g (bJ u (H+1)) (rB u (H:Int) E Q V o o1 o2 (fun _=>0) fun _=>[]) N 0) (fun _=>[]) (W0 u H d)=X):∀(m t D:Nat),t+m=H+1->m<D ->
  IG (IG (Ay3 N r0 u (H:Int) fx g (rB u (H:Int) E Q V o o1 o2 (fun _=>0) fun _=>[]) D ((H+1:Nat):Int) (t:Int)) (bJ u t)) (fun j=>A2 (oC u t j))=X
|0,t,D+1,L,_=>by
  have hnS:(Be u).length<=80:=uW G
  have I:=Oa G
  have lt:=EM G I
  have:t=H+1:=by omega
  subst this
  unfold IG Ay3
  rw[Ui];unfold EX
  dsimp only
  rw[Rc (by omega),cf,Abx,pE (u:=uN u false) (by omega) G,show Ar (uN u false)=Ar u from rfl,Au8 (u:=uN u false) (by omega) G I]
  refine D0 (v:=0) (by omega) (by omega) fun d T=>?_
  rw[show((beq (List.length d.av) 3)&&(ble 4 7))=true from rfl,ct,show bJ u (H+1) 0=(Be u).length from if_pos (by omega),show ix (uN u false) (Ar u)=ix u (Ar u)from rfl,Aa lt,ct,A2u,show setCells [AV.bool true,.bool false,.nsl,.nsl,Bbr,Bbr,.bool false] 1 d.av=FY (some ⟨d,0,0,false⟩)from rfl,show oC u (H+1) 0=replicate (Be u).length none from if_pos (by omega),Aru (by simpa using lt),ct,A22,Afy (by simpa using lt)]
  exact k d T
| m+1,t,D+1,L,Y=>by
  have hnS:(Be u).length<=80:=uW G
  have ih:=uw G hN hH k m (t+1) D (by omega) (by omega)
  unfold IG Ay3
  rw[Ui];unfold EX
  dsimp only
  rw[Ox (by omega),ct,yZ (by omega),show((decide (0<=(((Be u).length:Nat):Int)))&&((decide ((((Be u).length:Nat):Int)<=(((Be u).length:Nat):Int)))&&((decide ((((Be u).length:Nat):Int)<=140737488355328))&&(decide (((((Be u).length:Nat):Int)*((88:Nat):Int))<=140737488355328)))))=true by
   rw[decide_eq_true (by omega),decide_eq_true (by omega),decide_eq_true (by omega),decide_eq_true (by omega)];rfl,ct,An3]
  have e1:=Awp (h:=t) (by omega) (fun j=>A2 (oC u t j)) (A2 (replicate (Be u).length none)) (p6 t (Be u).length (bJ u t 0) (bJ u t 1) (bJ u t 2) (bJ u t 3) (bJ u t 4) (bJ u t 5) (Ay3 N r0 u (H:Int) fx g (rB u (H:Int) E Q V o o1 o2 (fun _=>0) fun _=>[]) D ((H+1:Nat):Int) (wrap .i64 ((t:Int)+1))))
  have e2:=Awp (h:=t) (by omega) (bJ u t) (Be u).length (Ay3 N r0 u (H:Int) fx g (rB u (H:Int) E Q V o o1 o2 (fun _=>0) fun _=>[]) D ((H+1:Nat):Int) (wrap .i64 ((t:Int)+1)))
  refine e1.trans ?_
  rw[e2,Af2,Ar4,Aof,wS (by omega)]
  exact ih
def Awx{r0:LA->LA->Int->O R}{n:Nat->Nat}{rb:RB}{k:Nat}{L:Nat->Rn}{W:Nat->List (Option MkD)}(D:1<=H)(hH:H<=5):
  Abv (A0m N r0 u H fx g n rb (k+1) (H:Int)) L W=Ag1 N (n H) (A2 (W H)) ((n H:Nat):Int) (fun x=>IG (Db N r0 (Be u).length (Am fx) fx.length g false (n 0) (n 1) (n 2) (n 3) (n 4) (n 5) ((Be u).flatMap StD.av) rb (A2 (W 0)) (H:Int) x) (fun j=>(L j).length) (A2 (W 1)) (A2 (W 2)) (A2 (W 3)) (A2 (W 4)) (A2 (W 5)) (rc (L 0)) (rc (L 1)) (rc (L 2)) (rc (L 3)) (rc (L 4)) (rc (L 5))) N (-1) 0:=by
 have:H=1\/H=2\/H=3\/H=4\/H=5:=by omega
 unfold Abv IG A0m
 rw[Kk];unfold EW
 dsimp only
 rw[Rc (A2s H),cf]
 rcases this with rfl|rfl|rfl|rfl|rfl
 ·exact A1g N (-1) 0
 ·exact A1h N (-1) 0
 ·exact A1i N (-1) 0
 ·exact A1j N (-1) 0
 ·exact A1k N (-1) 0
def At8:LA:=[.imm [] 0 1 false false,.imm [] 0 3 false false,.imm [] 0 3 false false]
def rz:RatD:=⟨false,.of [] false false,.of [] false false⟩
structure BestP(u:UnitD)(fx:List Int)(H:Nat)(a b:Nat->Rat)(s:StD)(m:Mk)(St:List Int)(En Re:List RatD)(d:RatD):Prop where
 ok:C4 u s
 tab:Hv (Bw u fx H a b) (Jt u) H H (ds s)=some m
 best:∀ s' m',C4 u s'->Hv (Bw u fx H a b) (Jt u) H H (ds s')=some m'->m'.profit<=m.profit
 l1:St.length=H
 l2:En.length=H
 l3:Re.length=H
 at':∀ i<H,At St En Re i (Ps (un u) a b (Bw u fx H a b) (Jt u) (H+1) H (ds s) i).1 (Ps (un u) a b (Bw u fx H a b) (Jt u) (H+1) H (ds s) i).2.1 (Ps (un u) a b (Bw u fx H a b) (Jt u) (H+1) H (ds s) i).2.2
 can:d.can m.profit
 q:qm m.profit<=6000
def Ay4{K:LA->LA->Int->O R}(D:DOk u hh H E Q V a b)(hf:fit 1000000 N){W:Nat->List (Option MkD)}{L:Nat->Rn}(tk:L9 u H (Hv (Bw u fx H a b) (Jt u) H) W)(dr:DR u a b L){n:Nat->Nat}(hn:∀ j≤H,n j=(Be u).length)
  (k7:(∀ s,C4 u s->Hv (Bw u fx H a b) (Jt u) H H (ds s)=none)->K At8 rz.av 7=X) (k1:∀ s m St En Re d,BestP u fx H a b s m St En Re d->K (Awv St En Re) d.av 0=X) {x:Int} (hx:Inv u (Hv (Bw u fx H a b) (Jt u) H H) (Be u).length x) :
  IG (Db N K (Be u).length (Am fx) fx.length g false (n 0) (n 1) (n 2) (n 3) (n 4) (n 5) ((Be u).flatMap StD.av) (rB u (H:Int) E Q V false false false (fun _=>0) fun _=>[]) (A2 (W 0)) (H:Int) x) (fun j=>(L j).length) (A2 (W 1)) (A2 (W 2)) (A2 (W 3)) (A2 (W 4)) (A2 (W 5)) (rc (L 0)) (rc (L 1)) (rc (L 2)) (rc (L 3)) (rc (L 4)) (rc (L 5))=X:=by
 have h6:=D.h6
 have hN:100001000<=N:=by have:=hf.1;omega
 have G:=(Bf D.hv).1
 unfold IG Db
 rcases At6 G hx with⟨rfl,k⟩|⟨s,m,k,rfl,T,h4⟩
 ·rw[show decide ((-1:Int)<0)=true from rfl,ct];exact k7 k
 ·rw[decide_eq_false (by omega),cf,Ak1,show Agz (rB u (H:Int) E Q V false false false (fun _=>0) fun _=>[]) (L 0).length (L 1).length (L 2).length (L 3).length (L 4).length (L 5).length (rc (L 0)) (rc (L 1)) (rc (L 2)) (rc (L 3)) (rc (L 4)) (rc (L 5))=rB u (H:Int) E Q V false false false (fun j=>(L j).length) (fun j=>rc (L j))from rfl]
  refine Aww D hf tk dr hn k T fun St En Re L' l1 l2 l3 hA=>?_
  unfold A0l IG
  obtain⟨wn,we⟩:=tk H (A2s _)
  obtain⟨md,g1,Y⟩:=we s k
  have lt:=EM G k
  have I:ix u s<(W H).length:=by omega
  rw[A2r I,A3k]at g1
  rw[T]at Y
  cases md with
  |none=>exact Y.elim
  |some md =>
   obtain⟨c1,c2,_⟩:=Y
   have ev:v6 H (A2 (W 0)) (A2 (W 1)) (A2 (W 2)) (A2 (W 3)) (A2 (W 4)) (A2 (W 5))=A2 (W H):=w8 (by omega) fun j=>A2 (W j)
   show cond false none (Aht (H:Int) _)=X
   rw[cf,yZ (by omega),w8 (by omega) n,ev,hn H (A2s _),Aa lt,ct,A2u,Abt I,g1,Ak9,OR,ct,Wy]
   show K (Awv St En Re) md.d.av 0=X
   exact k1 s m St En Re md.d ⟨k,T,h4,l1,l2,l3,hA,c1,by omega⟩
def Awy{K:LA->LA->Int->O R}(hal:u.away.l.length<=1000)(h5:A4 u hs=true->hs<=5)(pa:∀ h,h<E.length->Pr E h (a h))(pb:∀ h,h<Q.length->Pr Q h (b h))(Y:fit 1000000 N){b1 b3:Bool}
  (k1:A4 u hs=false->K At8 rz.av 1=X)
  (k4:A4 u hs=true->¬ ((E.length:Int)=hs/\(Q.length:Int)=hs/\(fx.length:Int)=hs)->K At8 rz.av 4=X)
  (k7:A4 u hs=true->(E.length:Int)=hs/\(Q.length:Int)=hs/\(fx.length:Int)=hs->(∀ s,C4 u s->Hv (Bw u fx hs.toNat a b) (Jt u) hs.toNat hs.toNat (ds s)=none)->K At8 rz.av 7=X)
  (k0:A4 u hs=true->(E.length:Int)=hs/\(Q.length:Int)=hs/\(fx.length:Int)=hs->∀ s m St En Re d,BestP u fx hs.toNat a b s m St En Re d->K (Awv St En Re) d.av 0=X) :
  gM N u.av false hs (E.flatMap RatD.av) E.length b1 false (Q.flatMap RatD.av) Q.length b3 false (Am fx) fx.length g false K=X:=by
 have hN:100001000<=N:=by have:=Y.1;omega
 rw[n_];unfold gL
 rw[show ∀ F:Lu->O R,Aze u.av F=F u.name from fun _=>rfl,show ∀ F:Int->O R,Aj .i64 (u.av.drop 1) F=F u.bus from fun _=>Aw,u2,u3,u4,u5,u6,u7,u8,u9,Aun,As7,Am4,Axk,Axl,Auo,Av0,Ax6,Ass,Am5,Axm,Av1,show beq (List.length u.av) 22=true from rfl,ct,Abx,vq (u:=uN u false) (by omega) (show u.away.l.length<=_ by omega) (show u.away.l.length<_ by omega),show A4 (uN u false) hs=A4 u hs from rfl]
 cases k:A4 u hs with
|false=>rw[show(!false)=true from rfl,ct];exact k1 k
| true =>
  rw[show(!true)=false from rfl,cf]
  have h5:=h5 k
  obtain⟨G,hu,hr1,hr2⟩:=Bf k
  by_cases hE:(E.length:Int)=hs
  ·rw[show(((E.length:Int) != hs)==false)=true by rw[hE];simp,ct]
   by_cases hQ:(Q.length:Int)=hs
   ·rw[show((cond false true ((Q.length:Int) != hs))==false)=true by rw[hQ];simp,ct]
    by_cases hF:(fx.length:Int)=hs
    ·rw[show(cond false true ((fx.length:Int) != hs))=false by rw[hF];simp,cf]
     replace k7:=k7 k ⟨hE,hQ,hF⟩
     replace k0:=k0 k ⟨hE,hQ,hF⟩
     have hH:hs=(hs.toNat:Int):=by omega
     have e1:E.length=hs.toNat:=by omega
     have e2:Q.length=hs.toNat:=by omega
     have e3:fx.length=hs.toNat:=by omega
     generalize hs.toNat=H at *
     subst hH
     have hvs:=Hf k
     have hm:=E6 k
     unfold MX TR
     dsimp only
     rw[Abx]
     refine Awu (u:=uN u false) (VI k) hvs.1 (show -1048576<=u.min/\u.min<=1048576 by omega) (Y.le (by omega)) fun V hV hP=>?_
     have D:DOk u (H:Int) H E Q V a b:=⟨k,by omega,fun h hh=>pa h (by omega),fun h hh=>pb h (by omega),hV,hP⟩
     rw[Ar0 (u:=uN u false) (by omega) G,wS (by omega)]
     have T:∀ j≤H,bJ u (H+1) j=(Be u).length:=fun j hj=>if_pos (by omega)
     exact uw (o:=false) (o1:=false) (o2:=false) (E:=E) (Q:=Q) (V:=V) (r0:=K) (g:=g) (fx:=fx) G hN (by omega) (fun d hd=>Ajm D e3 hal Y T (fun I W' L' t' l' hfu=>by
      obtain⟨f',rfl⟩:∃ f',I=f'+1:=⟨I - 1,by omega⟩
      refine(Awx (n:=bJ u (H+1)) (by omega) (by omega)).trans ?_
      rw[T H (A2s _)]
      exact Avf (t' H (A2s _)) (by omega) G Y (fun x hx=>Ay4 D Y t' l' T k7 k0 hx) (Be u).length 0 N (-1) (by omega) (by have:(Be u).length<=80:=uW G;omega) (.inl ⟨rfl,fun i hi=>absurd hi (by omega)⟩)) H 0 N (W0 u H d) (fun _=>[]) (by omega) (by omega) (At7 G hd) A2b) (H+1) 0 N (by omega) (by omega)
    ·rw[show(cond false true ((fx.length:Int) != hs))=true by simp[hF],ct]
     exact k4 k fun c=>hF c.2.2
   ·rw[show((cond false true ((Q.length:Int) != hs))==false)=false by simp[hQ],cf]
    exact k4 k fun c=>hQ c.2.1
  ·rw[show(((E.length:Int) != hs)==false)=false by simp[hE],cf]
   exact k4 k fun c=>hE c.1
end
end Gx.Uo
namespace Gx
open Go Go.Proofs
set_option maxRecDepth 100000
section
variable{R:Type}
def Ov:List RatD->List RatD->Rat
|a::az9',b::bs=>a.q*b.q+Ov az9' bs
|_,_=>0
def Abz:List RatD->List RatD->List RatD->List RatD->Rat
|a::az9',e::es,b::bs,r::rs=>a.q*e.q+b.q*r.q+Abz az9' es bs rs
|_,_,_,_=>0
def Alg:∀{a e b r:List RatD},e.length=a.length->b.length=a.length->r.length=a.length->Abz a e b r=Ov a e+Ov b r
|[],[],[],[],_,_,_=>by
  have k:Abz [] [] [] []=0:=by rw[Abz];intros;simp_all
  have D:Ov [] []=0:=by rw[Ov];intros;simp_all
  rw[k,D,A6e]
|a::az9',e::es,b::bs,r::rs,k,D,G=>by
  rw[Abz,Ov,Ov,Alg (by simpa using k) (by simpa using D) (by simpa using G)]
  grind
def Vj:qm (0:Rat)<=2:=qi (v:=0) (by omega)
def okP(l:List RatD):Prop:=∀ x∈l,x.is x.q 12
def okR.okP{l:List RatD}(h:okR l):okP l:=fun x k=>⟨(h x k).1,rfl,A4f (h x k).2.2 (by omega)⟩
def gN:∀{a b:List RatD},okP a->okR b->qm (Ov a b)<=2+a.length*20
|[],b,_,_=>by rw[show Ov [] b=0 by rw[Ov];intros;simp_all];have:=Vj;omega
|a::az9',[],_,_=>by rw[show Ov (a::az9') []=0 by rw[Ov];intros;simp_all];have:=Vj;omega
|a::az9',b::bs,D,G=>by
  have I:=gN (a:=az9') (b:=bs) (fun x k=>D x (by simp[k])) (fun x k=>G x (by simp[k]))
  have L:=(D a (by simp)).qm
  have T:=(G b (by simp)).qm
  have Y:=Kb a.q b.q
  have h7:=Fz (a.q*b.q) (Ov az9' bs)
  rw[Ov,A3a,A23];omega
def Agk{u:UnitD}{c:Int}(D:A4 u c=true):∀{ts:List StD}{s:StD}{ks:List Int}{es rs:List RatD},okR es->okR rs->qm (K5 u s ts ks es rs)<=2+ts.length*620
|[],s,ks,es,rs,_,_=>by rw[show K5 u s [] ks es rs=0 by rw[K5];intros;simp_all];have:=Vj;omega
|t::ts,s,[],es,rs,_,_=>by rw[show K5 u s (t::ts) [] es rs=0 by rw[K5];intros;simp_all];have:=Vj;omega
|t::ts,s,k::ks,[],rs,_,_=>by rw[show K5 u s (t::ts) (k::ks) [] rs=0 by rw[K5];intros;simp_all];have:=Vj;omega
|t::ts,s,k::ks,e::es,[],_,_=>by rw[show K5 u s (t::ts) (k::ks) (e::es) []=0 by rw[K5];intros;simp_all];have:=Vj;omega
| t::ts,s,k::ks,e::es,r::rs,L,T=>by
  obtain⟨hs,Y,hc24⟩:=Bf D
  have hsc:=pj Y s t
  have G:=Y
  unfold uR at G
  have h3:=Agk D (ts:=ts) (s:=t) (ks:=ks) (es:=es) (rs:=rs) (fun x I=>L x (by simp[I])) (fun x I=>T x (by simp[I]))
  have h4:=(L e (by simp)).qm
  have h5:=(T r (by simp)).qm
  have hq1:=qi (v:=L8 u s t) (by omega)
  have hq2:=qi (v:=u.noLoad) (by omega)
  have hq3:=qi (v:=u.reservePrice) (by omega)
  have hq4:=Ale (e:=e.q) D (by omega)
  have hq5:=Kb ((u.reservePrice:Int):Rat) r.q
  have hq6:=Fz (u.noLoad:Rat) (Dy (e.q - (u.min:Rat)) u.segs.l)
  have hq7:=Fz ((u.noLoad:Rat)+Dy (e.q - (u.min:Rat)) u.segs.l) ((u.reservePrice:Rat)*r.q)
  have hq8:qm (cond (k==2) (At3 u e.q r.q) 0)<=612:=by
   cases (k==2)with
   |true=>rw[cond_true,At3];omega
   |false=>rw[cond_false];have:=Vj;omega
  have hq9:=Fz ((L8 u s t:Int):Rat) (cond (k==2) (At3 u e.q r.q) 0)
  have hq10:=Fz (((L8 u s t:Int):Rat)+cond (k==2) (At3 u e.q r.q) 0) (K5 u t ts ks es rs)
  rw[K5,A3a,A23];omega
section
variable{N n:Nat}{u:UnitD}{p:PlanD}{f e:Bool}{c:Int}
def Ar5(oe:okR p.en.l)(or:okR p.re.l):qm (Aga u c p)<=15000:=by
 by_cases k:(gT u c p).2=0
 ·obtain⟨G,I,D⟩:=Af9 k
  obtain⟨hs,T,hc⟩:=Bf G
  obtain⟨l1,l2,l3⟩:=Abw I
  have L:=gF (gD (by omega) (by omega) D)
  have e:Aga u c p=K5 u (Ar u) (Cb u 0 (Ar u) p.st.l).1 p.st.l p.en.l p.re.l:=by unfold Aga;rw[k];rfl
  have:=Agk G (ts:=(Cb u 0 (Ar u) p.st.l).1) (s:=Ar u) (ks:=p.st.l) oe or
  rw[e];omega
 ·have e:Aga u c p=0:=by unfold Aga;rw[show((gT u c p).2==0)=false by simpa using k];rfl
  rw[e];have:=Vj;omega
def Ar6{K:LA->Bool->O R}{A B:List RatD}{f1 f2 f3 f4:Bool}(hN:4000<=N)(T:fit 1000000 N)(hn:n<=24)(hA:A.length=n)(hB:B.length=n)(oA:okR A)(oB:okR B):∀(m h D:Nat)(q:Rat),h+m=n->m<D->qm q<=2+h*30 ->
  P5 N K (A.flatMap RatD.av) n f1 f2 (B.flatMap RatD.av) n f3 f4 D (h:Int) (bO q).av=K (bO (q+Ov (A.drop h) (B.drop h))).av true:=by
 intro m
 induction m with
|zero =>
  intro h D q hh G hq
  obtain⟨D,rfl⟩:∃ k,D=k+1:=⟨D - 1,by omega⟩
  rw[P5];unfold DS
  rw[Rc (by omega),cf,Jx (l:=A) (by omega),show Ov [] (B.drop h)=0 by rw[Ov];intros;simp_all,A6e];rfl
|succ m ih =>
  intro h D q hh G hq
  obtain⟨D,rfl⟩:∃ k,D=k+1:=⟨D - 1,by omega⟩
  have hhn:h*30<=24*30:=A2x _ (by omega)
  rw[P5];unfold DS
  have I:h<A.length:=by omega
  have L:h<B.length:=by omega
  have a1:=oA.at I
  have Y:=oB.at L
  have q1:=a1.qm;have q2:=Y.qm
  have q5:=Kb A[h].q B[h].q
  rw[Ox (show h<n by omega),ct]
  simp only[b3,Y9,ct,Aa (show h<n by omega),P6 I,P6 L,OR,Wy]
  rw[Awa a1 Y (T.le (by omega)),Afb (It hq) (It (m:=10) (by omega)) (T.le (by omega))]
  have q7:=Fz q (A[h].q*B[h].q)
  simp only[Axp,ct,Ant]
  rw[wS (by omega),ih (h+1) D _ (by omega) (by omega) (by rw[A23];omega),Fg I,Fg L,Ov,Rat.add_assoc]
def Agl{K:LA->Bool->O R}{A B:List RatD}{f1 f2 f3 f4:Bool}(hN:4000<=N)(k:fit 1000000 N)(D:A.length<=24)(hB:B.length=A.length)(oA:okR A)(oB:okR B):VF N (A.flatMap RatD.av) A.length f1 f2 (B.flatMap RatD.av) B.length f3 f4 K=K (bO (Ov A B)).av true:=by
 rw[nJ];unfold fA
 rw[hB,show((A.length:Int) != (A.length:Int))=false by simp,cf,aI,show cq 0=(bO 0).av from rfl,c3,ct]
 have:=Ar6 (R:=R) (N:=N) (n:=A.length) (K:=K) (f1:=f1) (f2:=f2) (f3:=f3) (f4:=f4) hN k D rfl hB oA oB A.length 0 N 0 (by omega) (by omega) (by have:=Vj;omega)
 simp only[A3m,A79]at this
 exact this
def Axw(A B:List RatD)(c:Int):Bool:=decide ((A.length:Int)=c)&&decide ((B.length:Int)=c)
def A0n(u:UnitD)(c:Int)(p:PlanD)(A B:List RatD):Int:=cond ((gT u c p).2==0) (cond (Axw A B c) 0 4) (gT u c p).2
def Asu(u:UnitD)(c:Int)(p:PlanD)(A B:List RatD):Rat:=cond ((gT u c p).2==0&&Axw A B c) (Ov A p.en.l+Ov B p.re.l - Aga u c p) 0
def Awz{A B:List RatD}(oA:okP A)(oB:okP B)(oe:okR p.en.l)(or:okR p.re.l)(hA:A.length<=30)(hB:B.length<=30):qm (Asu u c p A B)<=20000:=by
 have k:=gN oA oe
 have D:=gN oB or
 have G:=Ar5 (u:=u) (c:=c) oe or
 have I:=Fz (Ov A p.en.l) (Ov B p.re.l)
 have L:=Om (Ov A p.en.l+Ov B p.re.l) (Aga u c p)
 have T:=Vj
 unfold Asu
 cases ((gT u c p).2==0&&Axw A B c)with
|true=>rw[cond_true];omega
|false=>rw[cond_false];omega
def wt{X:O R}{K:LA->Int->O R}{A B:List RatD}{f1 f2 f3 f4:Bool}(hN:4000<=N)(D:fit 1000000 N)(Y:u.away.l.length<=1000)(hA:A.length<=30)(hB:B.length<=30)(oA:okR A)(oB:okR B)(oe:okR p.en.l)(or:okR p.re.l)
  (h:∀ d:RatD,d.is (Asu u c p A B) 20000->K d.av (A0n u c p A B)=X):AX N u.av f c p.av e (A.flatMap RatD.av) A.length f1 f2 (B.flatMap RatD.av) B.length f3 f4 K=X:=by
 have G:=Awz (u:=u) (c:=c) (p:=p) oA.okP oB.okP oe or hA hB
 rw[S_];unfold EA
 rw[Ef,ct,Azh,ct,Cj,Azi]
 refine Agb hN D Y oe or fun z L=>?_
 rw[c3,ct,kW,kW,kW]
 by_cases k:(gT u c p).2=0
 ·obtain⟨hv,hl,hck⟩:=Af9 k
  obtain⟨hs,hu,hc⟩:=Bf hv
  obtain⟨l1,l2,l3⟩:=Abw hl
  rw[decide_eq_true k,show(!true)=false from rfl,cf]
  unfold A0n Asu Axw at h
  rw[show((gT u c p).2==0)=true by simpa using k]at h
  by_cases I:(A.length:Int)=c
  ·by_cases T:(B.length:Int)=c
   ·rw[decide_eq_true I,decide_eq_true T]at h ⊢
    rw[show((!true)==false)=true from rfl,ct,show(cond false true (!true))=false from rfl,cf]
    unfold Vg
    dsimp only
    have d1:=gN oA.okP oe
    have d2:=gN oB.okP or
    have d3:=Fz (Ov A p.en.l) (Ov B p.re.l)
    have d4:=Ar5 (u:=u) (c:=c) oe or
    rw[p1,Agl hN D (by omega) (by omega) oA oe,c3,ct,p2,Agl hN D (by omega) (by omega) oB or,c3,ct]
    simp only[b3,Y9,ct]
    rw[Afb (It (m:=500) (by omega)) (It (m:=500) (by omega)) (D.le (by omega)),Aqy (It (m:=1001) (by omega)) (show z.is (Aga u c p) 15000 from⟨L.1,L.2.1,A4f L.2.2 d4⟩) (D.le (by omega)),c3,ct,b3,ct,Y9]
    refine h _ (It ?_)
    have e:Asu u c p A B=Ov A p.en.l+Ov B p.re.l - Aga u c p:=by unfold Asu Axw;rw[show((gT u c p).2==0)=true by simpa using k,decide_eq_true I,decide_eq_true T];rfl
    rw[e]at G
    exact G
   ·rw[decide_eq_true I,decide_eq_false T]at h ⊢
    exact h Ae9 p9
  ·rw[decide_eq_false I]at h ⊢
   exact h Ae9 p9
 ·rw[decide_eq_false k,show(!false)=true from rfl,ct]
  unfold A0n Asu at h
  rw[show((gT u c p).2==0)=false by simpa using k]at h
  exact h Ae9 p9
end
end
end Gx
