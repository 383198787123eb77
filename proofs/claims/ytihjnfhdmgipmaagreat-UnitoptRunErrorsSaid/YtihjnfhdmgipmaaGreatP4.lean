/- A part of the proof; each theorem says what it holds. -/
import Derived.JoinedOf
import Derived.Test.YtihjnfhdmgipmaaGreatP3
set_option linter.unusedVariables false
set_option linter.defProp false
set_option linter.unusedSimpArgs false
open Nat (ble beq)
open List (take drop replicate)
open Go.IntKind (wrap)
namespace Gx.Uo
open Go Go.Proofs
noncomputable section
variable{R:Type}{N:Nat}{X:O R}
def nK{α:Type}{f:Nat->α}{j:Nat}{v:α}(h:f j=v):f=up f j v:=by
 funext i;unfold up
 cases e:beq i j with
|true=>have:=zM e;subst this;exact h
|false=>rfl
section
variable{r0 r1 r2 r3 r4 r5 r6:KR R}{u:UnitD}{hh hs:Int}{H:Nat}{E Q V:List RatD}{a b:Nat->Rat}{o o1 o2:Bool}{n:Nat->Nat}{c:Nat->LA}
def rg(D:DOk u hh H E Q V a b)(G:fit 1000000 N){j last:Nat}(L:j<6)(T:last<H){l:Rn}(I:n j=l.length)(hc:c j=rc l)(Y:RI u a b j l)(h7:l.length<=7)
  (k:∀ C,RI u a b j C->last<j+C.length->C.length<=7->yD r0 r1 r2 r3 r4 r5 r6 j (up n j C.length) (up c j (rc C))=X):Gz N (j:Int) (last:Int) (rB u hs E Q V o o1 o2 n c) r0 r1 r2 r3 r4 r5 r6=X:=by
 have h6:=D.h6
 have hN:100001000<=N:=by have:=G.1;omega
 rw[Oq]
 have key:pE (B5 N r0 r1 r2 r3 r4 r5 r6 (last:Int) (rB u hs E Q V o o1 o2 n c) N (j:Int) (wrap .i64 ((j:Int)+((n j:Nat):Int)))) n c=X:=by
  have:=SK (r0:=r0) (r1:=r1) (r2:=r2) (r3:=r3) (r4:=r4) (r5:=r5) (r6:=r6) (hs:=hs) (o:=o) (o1:=o1) (o2:=o2) (n0:=n) (c0:=c) D G L T n c k 100 N l Y h7 (by omega) (by omega)
  rw[<-nK I,<-nK hc]at this
  rw[I,Aq _ (by omega)]
  rwa [Int.natCast_add]at this
 have:j=0\/j=1\/j=2\/j=3\/j=4\/j=5:=by omega
 rcases this with rfl|rfl|rfl|rfl|rfl|rfl<;>exact key
def nL{j i:Nat}(k:j+i<=1000):wrap .i64 (((j+i:Nat):Int) - (j:Int))=(i:Int):=by rw[Aq _ (by omega)];omega
def w6{j i H:Nat}:decide (((j+i:Nat):Int)<(H:Int) - 1)=decide (j+i+1<H):=by rw[decide_eq_decide];omega
def t7{K:Int->Bool->KN R}(D:DOk u hh H E Q V a b)(hf:fit 1000000 N){j i:Nat}(hj:j<6)(hl:j+i<H){l:Rn}(hn:n j=l.length)(hc:c j=rc l)(hr:RI u a b j l)(h7:l.length<=7)
  (k0:Mz (un u) H j i<Bz (un u) j i->∀ k,RI u a b j k->i<k.length->k.length<=7->pE (K 0 false) (up n j k.length) (up c j (rc k))=X)
  (T:¬ Mz (un u) H j i<Bz (un u) j i->∀ k,RI u a b j k->i<k.length->k.length<=7->pE (K (SM (un u) a b H j i) true) (up n j k.length) (up c j (rc k))=X):Ih N (j:Int) ((j+i:Nat):Int) (rB u (H:Int) E Q V o o1 o2 n c) K=X:=by
 have h6:=D.h6
 have hf2:fit (200*(540*(i+1)+2+2)+1000) N:=hf.le (show 200*(540*(i+1)+2+2)+1000<=1000000 by omega)
 have hN:100001000<=N:=by have:=hf.1;omega
 have ko:=My D.hv
 have hm:=C9 D.hv
 rw[Us];unfold Mi
 refine rg D hf hj hl hn hc hr h7 fun k G hlen Y=>?_
 have hi:i<k.length:=by omega
 obtain⟨w1,w2,w3⟩:=G i hi
 have st:=Eh (a:=a) (b:=b) (fi:=j) ko i
 rw[<-w3]at st
 have l0:u.min<=Bz (un u) j i:=st.l0
 have l1:=st.l1
 have l2:Dn (un u) j i<=u.max:=st.l2
 have I:=st.up.cv.ne
 suffices h:cond (Ab (wrap .i64 (((j+i:Nat):Int) - (j:Int))) (up n j k.length j)) (cond (ble 2 (((up c j (rc k) j).drop (0+(((wrap .i64 (((j+i:Nat):Int) - (j:Int))).toNat)*2))).length)) (cond ((beq 0 0)&&((beq ((((up c j (rc k) j).drop (0+(((wrap .i64 (((j+i:Nat):Int) - (j:Int))).toNat)*2))).take 2).length) 2)&&(beq 2 2))) (G0 N K ((j+i:Nat):Int) (rB u (H:Int) E Q V o o1 o2 n c) (up n j k.length 0) (up n j k.length 1) (up n j k.length 2) (up n j k.length 3) (up n j k.length 4) (up n j k.length 5) (up n j k.length 6) (((up c j (rc k) j).drop (0+(((wrap .i64 (((j+i:Nat):Int) - (j:Int))).toNat)*2))).take 2) (up c j (rc k) 0) (up c j (rc k) 1) (up c j (rc k) 2) (up c j (rc k) 3) (up c j (rc k) 4) (up c j (rc k) 5) (up c j (rc k) 6)) none) none) none=X by
  have:j=0\/j=1\/j=2\/j=3\/j=4\/j=5:=by omega
  rcases this with rfl|rfl|rfl|rfl|rfl|rfl<;>exact h
 rw[nL (by omega),Ku,Ku,Aa hi,ct,zG,zU,kN k _ hi,show ble 2 (List.length (Mx k[i].1 k[i].2 false++rc (k.drop (i+1))))=true from rfl,ct,show take 2 (Mx k[i].1 k[i].2 false++rc (k.drop (i+1)))=Mx k[i].1 k[i].2 false from rfl,vT,ct]
 have k0:=fun e=>k0 e k G hi Y
 have T:=fun e=>T e k G hi Y
 unfold SM at T
 rw[<-w3]at T
 generalize up n j k.length=n' at *
 generalize up c j (rc k)=c' at *
 generalize k[i].1=L at *
 generalize k[i].2=W at *
 unfold G0 Mh
 rw[vU,ct,vV,ra I w2.n,st.up.lstP]
 rw[show(rB u (H:Int) E Q V o o1 o2 n c).hs=(H:Int)from rfl,show(rB u (H:Int) E Q V o o1 o2 n c).tr=u.stopRamp from rfl,Aq ((H:Int) - 1) (by omega),Ho,w6]
 have q:∀ t:Int,J4 N K (rB u (H:Int) E Q V o o1 o2 n c) (n' 0) (n' 1) (n' 2) (n' 3) (n' 4) (n' 5) (n' 6) (Mx L W false) (c' 0) (c' 1) (c' 2) (c' 3) (c' 4) (c' 5) (c' 6) t=cond (decide (t<Bz (un u) j i)) (pE (K 0 false) n' c') (pE (K (E3 (D7 0 L) t) true) n' c'):=fun t=>by
  unfold J4
  rw[vU,ct,vV,r_ I,st.up.fstP]
  cases decide (t<Bz (un u) j i)with
  |true=>rfl
  |false =>
   rw[cf,cf,ct]
   refine Dl (by omega) (by omega) fun z hz=>?_
   rw[mB I hz (S:=2) (qi (by omega)) w1 w2 hf2 (by omega),Ho];rfl
 have fin:cond (decide (Mz (un u) H j i<Bz (un u) j i)) (pE (K 0 false) n' c') (pE (K (E3 (D7 0 L) (Mz (un u) H j i)) true) n' c')=X:=by
  by_cases h:Mz (un u) H j i<Bz (un u) j i
  ·rw[decide_eq_true h,ct];exact k0 h
  ·rw[decide_eq_false h,cf];exact T h
 by_cases C:j+i+1<H
 ·rw[decide_eq_true C,ct]
  unfold Mz at fin;rw[if_pos C]at fin
  exact(q _).trans fin
 ·rw[decide_eq_false C,cf]
  unfold Mz at fin;rw[if_neg C]at fin
  exact(q _).trans fin
def gx{j i:Nat}(k:Bc u hh=true)(h:¬ Mz (un u) H j i<Bz (un u) j i):Bz (un u) j i<=SM (un u) a b H j i/\SM (un u) a b H j i<=Dn (un u) j i/\(j+i+1<H->SM (un u) a b H j i<=u.stopRamp):=by
 have st:=Eh (a:=a) (b:=b) (fi:=j) (My k) i
 have pk:=(st.up.pk 0).2.1
 have key:∀ p lo hi t tr:Int,lo<=p->p<=hi->(t=if j+i+1<H then E3 hi tr else hi)->¬ t<lo->lo<=E3 p t/\E3 p t<=hi/\(j+i+1<H->E3 p t<=tr):=fun p lo hi t tr G I C L=>by
  split at C
  ·unfold E3 at *;grind
  ·rename_i D
   exact⟨by unfold E3;split<;>omega,by unfold E3;split<;>omega,fun h=>absurd h D⟩
 exact key _ _ _ _ _ pk.1 pk.2 rfl h
def pF{K:LA->Bool->Bool->KN R}(D:DOk u hh H E Q V a b)(L:fit 1000000 N){j i:Nat}(hj:j<6)(hl:j+i<H){l:Rn}(hn:n j=l.length)(hc:c j=rc l)(hr:RI u a b j l)(h7:l.length<=7)
  (k0:Mz (un u) H j i<Bz (un u) j i->∀ k,RI u a b j k->i<k.length->k.length<=7->pE (K [.bool false,.nsl,.nsl] false false) (up n j k.length) (up c j (rc k))=X)
  (T:¬ Mz (un u) H j i<Bz (un u) j i->∀ k,RI u a b j k->i<k.length->k.length<=7->∀(d:RatD)(f:Bool),d.can ((runF (un u) a b j i).1 (SM (un u) a b H j i))->pE (K d.av f true) (up n j k.length) (up c j (rc k))=X):Is N (j:Int) ((j+i:Nat):Int) (rB u (H:Int) E Q V o o1 o2 n c) K=X:=by
 have h6:=D.h6
 have Y:fit (100*(540*(i+1)+2)+1000) N:=L.le (show 100*(540*(i+1)+2)+1000<=1000000 by omega)
 have hN:100001000<=N:=by have:=L.1;omega
 have hNN:40000000<=N:=by omega
 have ko:=My D.hv
 rw[Mw];unfold K2
 refine t7 D L hj hl hn hc hr h7 (fun e k C I G=>k0 e k C I G) (fun e k C hi G=>?_)
 have T:=T e k C hi G
 obtain⟨w1,w2,w3⟩:=C i hi
 have st:=Eh (a:=a) (b:=b) (fi:=j) ko i
 have hx:=gx (a:=a) (b:=b) D.hv e
 rw[<-w3]at st
 suffices h:cond (Ab (wrap .i64 (((j+i:Nat):Int) - (j:Int))) (up n j k.length j)) (cond (ble 2 (((up c j (rc k) j).drop (0+(((wrap .i64 (((j+i:Nat):Int) - (j:Int))).toNat)*2))).length)) (By N (((up c j (rc k) j).drop (0+(((wrap .i64 (((j+i:Nat):Int) - (j:Int))).toNat)*2))).take 2) false (SM (un u) a b H j i) fun t ab=>cond ((beq 0 0)&&((beq t.length 3)&&(beq 3 3))) (cond (ble 3 t.length) (pE (K (t.take 3) ab true) (up n j k.length) (up c j (rc k))) none) none) none) none=X by
  have:j=0\/j=1\/j=2\/j=3\/j=4\/j=5:=by omega
  rcases this with rfl|rfl|rfl|rfl|rfl|rfl<;>exact h
 rw[nL (by omega),Ku,Ku,Aa hi,ct,zG,zU,kN k _ hi,show ble 2 (List.length (Mx k[i].1 k[i].2 false++rc (k.drop (i+1))))=true from rfl,ct,show take 2 (Mx k[i].1 k[i].2 false++rc (k.drop (i+1)))=Mx k[i].1 k[i].2 false from rfl]
 refine mA w1 w2 st.up.cv (by rw[st.up.fst];exact hx.1) (by rw[st.up.lst];exact hx.2.1) Y hNN fun d f hd=>?_
 rw[c3,ct,b3,ct,G_]
 exact T d f hd
end
end
end Gx.Uo
namespace Gx.Uo
open Go Go.Proofs
noncomputable section
variable{R:Type}{N:Nat}{X:O R}
def nM{V:List RatD}{n:Nat}{d:RatD}(h:n<V.length):setCells (V.flatMap RatD.av) (n*3) d.av=(V.set n d).flatMap RatD.av:=by
 show D8 (V.flatMap RatD.av) (n*3) d.av=_
 unfold D8
 rw[rS (by omega)]
 have e:(V.flatMap RatD.av).drop (n*3+d.av.length)=(V.drop (n+1)).flatMap RatD.av:=by
  have:=PX h
  rw[zG]at this
  rw[show n*3+d.av.length=n*3+3 from rfl,<-Aeq,this];rfl
 rw[e,List.set_eq_take_append_cons_drop,if_pos h,Ach,Aad,Aa9]
def dV{K:Nat->Nat->Nat->LA->LA->LA->O R}{H:Nat}(hH:H<=1000)(hN:1000<=N)(k:∀ En Re:List RatD,En.length=H->Re.length=H->(∀ d∈En,d.can 0)->(∀ d∈Re,d.can 0)->K H H H (Ao (replicate H 0)) (En.flatMap RatD.av) (Re.flatMap RatD.av)=X):∀(m t C:Nat)(En Re:List RatD),t+m=H->m<C->En.length=t->Re.length=t->(∀ d∈En,d.can 0)->(∀ d∈Re,d.can 0) ->
  K3 N K (H:Int) C (t:Int) t t t (Ao (replicate t 0)) (En.flatMap RatD.av) (Re.flatMap RatD.av)=X
|0,t,C+1,En,Re,L,_,e1,D,c1,G=>by
  rw[K3];unfold Ut
  have:t=H:=by omega
  subst this
  rw[Wc (by omega),cf]
  exact k En Re e1 D c1 G
| m+1,t,C+1,En,Re,L,T,e1,D,c1,G=>by
  rw[K3];unfold Ut
  have Y:(ble (t+1) 140737488355328&&ble ((t+1)*8) 140737488355328)=true:=by
   rw[show ble (t+1) 140737488355328=true by rw[zo];omega,show ble ((t+1)*8) 140737488355328=true by rw[zo];omega];rfl
  have g2:(ble (t+1) 140737488355328&&ble ((t+1)*56) 140737488355328)=true:=by
   rw[show ble (t+1) 140737488355328=true by rw[zo];omega,show ble ((t+1)*56) 140737488355328=true by rw[zo];omega];rfl
  rw[T6 (by omega),ct,Y,ct]
  refine Dl (by omega) (by omega) fun x hx=>?_
  rw[show((beq (List.length x.av) 3)&&(ble 3 3))=true from rfl,ct,g2,ct]
  refine Dl (by omega) (by omega) fun y hy=>?_
  rw[show((beq (List.length y.av) 3)&&(ble 3 3))=true from rfl,ct,ct,wS (by omega)]
  have s1:(Ao (replicate t 0)).take (t*1)++[Ahg]=Ao (replicate (t+1) 0):=by
   rw[zF (by rw[H3];simp),Aev];unfold Ao;simp
  have s2:(En.flatMap RatD.av).take (t*3)++take 3 (setCells [.bool false,.nsl,.nsl] 0 x.av)=(En++[x]).flatMap RatD.av:=by
   rw[zF (by rw[AJ,e1];omega),Ach];simp;rfl
  have s3:(Re.flatMap RatD.av).take (t*3)++take 3 (setCells [.bool false,.nsl,.nsl] 0 y.av)=(Re++[y]).flatMap RatD.av:=by
   rw[zF (by rw[AJ,D];omega),Ach];simp;rfl
  rw[s1,s2,s3]
  refine dV hH hN k m (t+1) C (En++[x]) (Re++[y]) (by omega) (by omega) (by simp[e1]) (by simp[D]) (fun d I=>?_) (fun d I=>?_)
  ·rcases zP.1 I with h|h
   ·exact c1 d h
   ·simp at h;subst h;exact hx
  ·rcases zP.1 I with h|h
   ·exact G d h
   ·simp at h;subst h;exact hy
def uq{K:Nat->Nat->Nat->LA->LA->LA->O R}{H:Nat}(hH:H<=1000)(hN:2000<=N)(k:∀ En Re:List RatD,En.length=H->Re.length=H->(∀ d∈En,d.can 0)->(∀ d∈Re,d.can 0)->K H H H (Ao (replicate H 0)) (En.flatMap RatD.av) (Re.flatMap RatD.av)=X):MJ N (H:Int) K=X:=by
 rw[R_];unfold MI
 exact dV hH (by omega) k H 0 N [] [] (by omega) (by omega) rfl rfl (by simp) (by simp)
abbrev xH(R:Type):=Nat->Nat->Nat->Nat->Nat->Nat->Nat->LA->LA->LA->LA->LA->LA->LA->LA->LA->LA->Option R
def yE(k:xH R)(n:Nat->Nat)(c:Nat->LA)(A B C:LA):O R:=k (n 0) (n 1) (n 2) (n 3) (n 4) (n 5) (n 6) A B C (c 0) (c 1) (c 2) (c 3) (c 4) (c 5) (c 6)
section
variable{r0:xH R}{s:RB}{px py pz:Nat}{aa ab ad:LA}
def ur(N:Nat)(r0:xH R)(s:RB)(px py pz:Nat)(aa ab ad:LA)(fuel:Nat)(n:Nat->Nat)(c:Nat->LA)(j x w y z:Int)(A B C:LA):O R:=F3 N (B8 N r0 s (n 0) (n 1) (n 2) (n 3) (n 4) (n 5) (n 6) px py pz (c 0) (c 1) (c 2) (c 3) (c 4) (c 5) (c 6) aa ab ad fuel) r0 s (n 0) (n 1) (n 2) (n 3) (n 4) (n 5) (n 6) px py pz (c 0) (c 1) (c 2) (c 3) (c 4) (c 5) (c 6) aa ab ad j x w y z A B C
def ri{j k:Nat}(D:j<6){x w:Int}{n:Nat->Nat}{c:Nat->LA}{A B C:LA}:B8 N r0 s (n 0) (n 1) (n 2) (n 3) (n 4) (n 5) (n 6) px py pz (c 0) (c 1) (c 2) (c 3) (c 4) (c 5) (c 6) aa ab ad (k+1) (j:Int) x w A B C =
  cond (decide (w>=(j:Int))) (cond (decide (w>(j:Int))) (cond (Ab (wrap .i64 ((wrap .i64 (w - (j:Int))) - 1)) (n j)) (cond (ble 2 (((c j).drop (0+(((wrap .i64 ((wrap .i64 (w - (j:Int))) - 1)).toNat)*2))).length)) (Bm N (fz s n c) true w (((c j).drop (0+(((wrap .i64 ((wrap .i64 (w - (j:Int))) - 1)).toNat)*2))).take 2) false fun ba bb=>cond (bb||false) none (A5 N (fz s n c) true ba false x fun bc bd=>ur N r0 s px py pz aa ab ad k n c (j:Int) x w bc bd A B C)) none) none)
   (Cm N (fz s n c) true (j:Int) fun cf=>cond cf (D1 N (fz s n c) true fun cg=>Bm N (fz s n c) true w cg false fun ch ci=>cond (ci||false) none (A5 N (fz s n c) true ch false x fun cj ck=>ur N r0 s px py pz aa ab ad k n c (j:Int) x w cj ck A B C)) (E1 N (fz s n c) true w fun cl=>Lz N cl false fun cm=>cond (decide (cm>0)) (ur N r0 s px py pz aa ab ad k n c (j:Int) x w 0 (Fg s.rs (wrap .i64 (s.sr - x))) A B C) (ur N r0 s px py pz aa ab ad k n c (j:Int) x w 0 0 A B C))))
   (yE r0 n c A B C):=by
 have:j=0\/j=1\/j=2\/j=3\/j=4\/j=5:=by omega
 rcases this with rfl|rfl|rfl|rfl|rfl|rfl<;>rfl
structure At(St:List Int)(En Re:List RatD)(h:Nat)(k:Int)(p r:Rat):Prop where
 st:St[h]?=some k
 en:∃ d,En[h]?=some d/\d.can p
 re:∃ d,Re[h]?=some d/\d.can r
def Same(j i:Nat)(St St':List Int)(En En' Re Re':List RatD):Prop:=∀ h,¬ (j<=h/\h<=j+i)->St'[h]?=St[h]?/\En'[h]?=En[h]?/\Re'[h]?=Re[h]?
def w7{j h H C:Nat}{x y z:Int}{n:Nat->Nat}{c:Nat->LA}{St:List Int}{En Re:List RatD}(I:-10000000<=x/\x<=10000000)(L:-10000000<=z/\z<=10000000)(hN:4<=N)(T:St.length=H)(Y:En.length=H)(h3:Re.length=H)(hh:h<H)(hH:H<=1000)
  (k:∀ d e:RatD,d.can (x:Rat)->e.can (z:Rat)->B8 N r0 s (n 0) (n 1) (n 2) (n 3) (n 4) (n 5) (n 6) H H H (c 0) (c 1) (c 2) (c 3) (c 4) (c 5) (c 6) aa ab ad C (j:Int) y ((h:Int) - 1) (Ao (St.set h 2)) ((En.set h d).flatMap RatD.av) ((Re.set h e).flatMap RatD.av)=X):ur N r0 s H H H aa ab ad C n c (j:Int) x (h:Int) y z (Ao St) (En.flatMap RatD.av) (Re.flatMap RatD.av)=X:=by
 unfold ur F3
 rw[Aa hh,ct,zG,zU,zY,H3,show((beq 1 1)&&((ble (h+1) St.length)&&(!false)))=true by rw[show ble (h+1) St.length=true by rw[zo];omega];rfl,ct]
 refine Dl (by omega) hN fun d D=>?_
 refine Dl (by omega) hN fun e G=>?_
 rw[ct,AJ,AJ,zU,show((beq (List.length d.av) 3)&&((ble (h*3+3) (En.length*3))&&(!false)))=true by rw[show ble (h*3+3) (En.length*3)=true by rw[zo];omega];rfl,ct,ct,show((beq (List.length e.av) 3)&&((ble (h*3+3) (Re.length*3))&&(!false)))=true by rw[show ble (h*3+3) (Re.length*3)=true by rw[zo];omega];rfl,ct,nM (by omega),nM (by omega),Aq _ (by omega),show(Ao St).set h (.int .i64 2)=Ao (St.set h 2) by unfold Ao;rw[Adm]]
 exact k d e D G
end
end
end Gx.Uo
namespace Gx.Uo
open Go Go.Proofs
noncomputable section
variable{R:Type}{N:Nat}{X:O R}
section
variable{r0:xH R}{aa ab ad:LA}{u:UnitD}{hh:Int}{H:Nat}{E Q V:List RatD}{a b:Nat->Rat}{o o1 o2:Bool}{n n0:Nat->Nat}{c c0:Nat->LA}
def Same.set{j i h:Nat}{St St':List Int}{En En' Re Re':List RatD}{v:Int}{d e:RatD}(s:Same j i (St.set h v) St' (En.set h d) En' (Re.set h e) Re')(hh:h=j+i+1):Same j (i+1) St St' En En' Re Re':=fun t k=>by
 have:=s t (by omega)
 have ne:h≠t:=by omega
 rw[z7 ne,z7 ne,z7 ne]at this
 exact this
def dW(D:DOk u hh H E Q V a b)(T:fit 1000000 N){j:Nat}(hj:j<6){l:Rn}(hr:RI u a b j l)(hn:n j=l.length)(hc:c j=rc l):∀ i,i<l.length->j+i<H->∀(x:Int)(St:List Int)(En Re:List RatD)(C:Nat),Bz (un u) j i<=x->x<=Dn (un u) j i->St.length=H->En.length=H->Re.length=H->i+1<C ->
  (∀(St':List Int)(En' Re':List RatD),St'.length=H->En'.length=H->Re'.length=H->Same j i St St' En En' Re Re'->(∀ t,t<=i->At St' En' Re' (j+t) 2 (fP (un u) a b j i x t) (fR (un u) a b j i x t))->yE r0 n c (Ao St') (En'.flatMap RatD.av) (Re'.flatMap RatD.av)=X) ->
  B8 N r0 (rB u (H:Int) E Q V o o1 o2 n0 c0) (n 0) (n 1) (n 2) (n 3) (n 4) (n 5) (n 6) H H H (c 0) (c 1) (c 2) (c 3) (c 4) (c 5) (c 6) aa ab ad C (j:Int) x ((j+i:Nat):Int) (Ao St) (En.flatMap RatD.av) (Re.flatMap RatD.av)=X
| 0,hi,hH,x,St,En,Re,C+1,x1,x2,e1,e2,e3,hfu,k=>by
  have h6:=D.h6
  have ko:=My D.hv
  have hv:Bc (uN u o) hh=true:=D.hv
  have hR:=(Db hv).2.1
  have hN:100001000<=N:=by have:=T.1;omega
  have hm:=C9 D.hv
  obtain⟨r,er⟩:=rf (u:=u) (hs:=(H:Int)) (E:=E) (Q:=Q) (V:=V) (o:=o) (o1:=o1) (o2:=o2) (n:=n0) (n':=n) (c:=c0) (c':=c)
  obtain⟨f2,rfl⟩:∃ f2,C=f2+1:=⟨C - 1,by omega⟩
  have fin:∀(y z:Int),-10000000<=z/\z<=10000000->z=fR (un u) a b j 0 x 0->ur N r0 (rB u (H:Int) E Q V o o1 o2 n0 c0) H H H aa ab ad (f2+1) n c (j:Int) x (j:Int) y z (Ao St) (En.flatMap RatD.av) (Re.flatMap RatD.av)=X:=fun y z zb ze=>by
   have st:=Eh (a:=a) (b:=b) (fi:=j) ko 0
   have l0:u.min<=Bz (un u) j 0:=st.l0
   have l2:Dn (un u) j 0<=u.max:=st.l2
   refine w7 (by omega) zb (by omega) e1 e2 e3 (by omega) (by omega) fun d e hd he=>?_
   rw[ri hj,decide_eq_false (show ¬ ((j:Int) - 1>=(j:Int)) by omega),cf]
   refine k _ _ _ (by simp[e1]) (by simp[e2]) (by simp[e3]) (fun h hh=>?_) fun t ht=>?_
   ·have ne:j≠h:=by omega
    rw[z7 ne,z7 ne,z7 ne]
    exact⟨rfl,rfl,rfl⟩
   ·have:t=0:=by omega
    subst this
    rw[zg]
    refine⟨zi (by omega),⟨d,zi (by omega),hd⟩,⟨e,zi (by omega),?_⟩⟩
    rw[<-ze];exact he
  rw[ri hj,zg,decide_eq_true (show(j:Int)>=(j:Int) by omega),ct,decide_eq_false (show ¬ (j:Int)>(j:Int) by omega),cf,er,r8,show un (uN u o)=un u from rfl]
  unfold Bz at x1;unfold Dn at x2
  cases G:Ri (un u) j with
  |true =>
   rw[G]at x1 x2
   rw[ct]
   refine kM (by omega) hR fun W w1 w2=>?_
   refine mD hR (D.pb j (by omega)) (by show 0<1;omega) w1 w2 (by omega) T fun w I=>?_
   rw[show((false||false)||false)=false from rfl,cf]
   obtain⟨_,xr,_,cr⟩:=P_ D.hv (a:=a j) (b:=b j) (D.pa j (by omega)).qm (D.pb j (by omega)).qm (T_ ko (mL G)) (B:=2) (fun z _ _=>qi (v:=0) (by omega)) x1 x2
   rw[show un (uN u o)=un u from rfl]at I ⊢
   have hq:=Ou (Db D.hv).2.1 (D.pb j (by omega)).qm
   have w2':PB 2 (oL (un u)):=w2
   rw[ZG (L:=oL (un u)) hR I hq (by show 0<1;omega) w2' (by omega) (T.le (by omega))]
   exact fin _ _ cr (by show JF (un u) (oL (un u)) (Av (un u) (b j)) x=if Ri (un u) j=true then JF (un u) (oL (un u)) (Av (un u) (b j)) x else _;rw[if_pos G])
  | false =>
   rw[G]at x1 x2
   rw[cf]
   refine gu hR (D.pb j (by omega)) (T.le (by omega)) fun w I=>?_
   rw[show un (uN u o)=un u from rfl]at I
   have hq:=Ou (Db D.hv).2.1 (D.pb j (by omega)).qm
   rw[Gh I.ok (T.le (by rw[I.m];omega)),I.q,nH]
   have sr:=ko.sr0
   have sr:u.min<=u.startRamp/\u.startRamp<=u.max:=sr
   have x1:u.min<=x:=x1
   have x2:x<=u.startRamp:=x2
   have hrs:=(Db D.hv).2.1.2.2.2.2.1
   have eR:pQ (un u) (Av (un u) (b j)) x=fR (un u) a b j 0 x 0:=by
    show _=if Ri (un u) j=true then _ else pQ (un u) (Av (un u) (b j)) x
    rw[if_neg (by rw[G];simp)]
   by_cases hp:0<Av (un u) (b j)
   ·rw[decide_eq_true hp,ct,show(rB u (H:Int) E Q V o o1 o2 n0 c0).rs=u.reserve from rfl,show(rB u (H:Int) E Q V o o1 o2 n0 c0).sr=u.startRamp from rfl,Aq _ (by omega),Ho]
    refine fin _ _ (by unfold E3;split<;>omega) ?_
    rw[<-eR];unfold pQ;rw[if_pos hp];rfl
   ·rw[decide_eq_false hp,cf]
    refine fin _ _ (by omega) ?_
    rw[<-eR];unfold pQ;rw[if_neg hp]
| i+1,hi,hH,x,St,En,Re,C+1,x1,x2,e1,e2,e3,hfu,k=>by
  have h6:=D.h6
  have ko:=My D.hv
  have hv:Bc (uN u o) hh=true:=D.hv
  have hR:=(Db hv).2.1
  have hN:100001000<=N:=by have:=T.1;omega
  have hm:=C9 D.hv
  obtain⟨r,er⟩:=rf (u:=u) (hs:=(H:Int)) (E:=E) (Q:=Q) (V:=V) (o:=o) (o1:=o1) (o2:=o2) (n:=n0) (n':=n) (c:=c0) (c':=c)
  have Y:i<l.length:=by omega
  obtain⟨w1,w2,w3⟩:=hr i Y
  have st:=Eh (a:=a) (b:=b) (fi:=j) ko i
  rw[<-w3]at st
  have q:=P_ D.hv (a:=a (j+i+1)) (b:=b (j+i+1)) (D.pa _ (by omega)).qm (D.pb _ (by omega)).qm st (B:=540*(i+1)+2) (fun z z1 z2=>gw D.hv (H:=H) (fun h hh=>(D.pa h hh).qm) (fun h hh=>(D.pb h hh).qm) i (by omega) z z1 z2) x1 x2
  obtain⟨_,xr,_,cr⟩:=q
  have bk:=JG ko (a:=a (j+i+1)) (b:=b (j+i+1)) st x1 x2
  have ej:wrap .i64 ((wrap .i64 (((j+(i+1):Nat):Int) - (j:Int))) - 1)=(i:Int):=by
   rw[Aq (((j+(i+1):Nat):Int) - (j:Int)) (by omega),Aq _ (by omega)];omega
  rw[ri hj,decide_eq_true (show((j+(i+1):Nat):Int)>=(j:Int) by omega),ct,decide_eq_true (show((j+(i+1):Nat):Int)>(j:Int) by omega),ct,ej,hn,hc,Aa Y,ct,zU,zG,kN l i Y,er]
  rw[show ble 2 (List.length (Mx l[i].1 l[i].2 false++rc (l.drop (i+1))))=true from rfl,ct,show take 2 (Mx l[i].1 l[i].2 false++rc (l.drop (i+1)))=Mx l[i].1 l[i].2 false from rfl]
  refine mD hR (D.pb (j+(i+1)) (by omega)) st.up.cv.ne w1 w2 (by omega) T fun w I=>?_
  rw[show((false||false)||false)=false from rfl,cf]
  rw[show un (uN u o)=un u from rfl]at I ⊢
  have hq:=Ou (Db D.hv).2.1 (D.pb (j+(i+1)) (by omega)).qm
  rw[ZG hR I hq st.up.cv.ne w2 (by omega) (T.le (by omega)),show un (uN u o)=un u from rfl]
  refine w7 (by omega) cr (by omega) e1 e2 e3 (by omega) (by omega) fun d e hd he=>?_
  rw[show((j+(i+1):Nat):Int) - 1=((j+i:Nat):Int) by omega]
  refine dW D T hj hr hn hc i Y (by omega) _ _ _ _ C bk.1.1 bk.1.2 (by simp[e1]) (by simp[e2]) (by simp[e3]) (by omega) fun St' En' Re' l1 l2 l3 hs hA=>?_
  refine k St' En' Re' l1 l2 l3 (hs.set (by omega)) fun t ht=>?_
  have eP:fP (un u) a b j (i+1) x t=if t=i+1 then x else fP (un u) a b j i (TZ (un u) l[i].1 (Av (un u) (b (j+(i+1)))) x) t:=by rw[w3];rfl
  have eR:fR (un u) a b j (i+1) x t=if t=i+1 then JF (un u) l[i].1 (Av (un u) (b (j+(i+1)))) x else fR (un u) a b j i (TZ (un u) l[i].1 (Av (un u) (b (j+(i+1)))) x) t:=by rw[w3];rfl
  rw[eP,eR]
  by_cases h:t=i+1
  ·rw[if_pos h,if_pos h]
   subst h
   have:=hs (j+(i+1)) (by omega)
   rw[zi (by omega),zi (by omega),zi (by omega)]at this
   exact⟨this.1,⟨d,this.2.1,hd⟩,⟨e,this.2.2,he⟩⟩
  ·rw[if_neg h,if_neg h]
   exact hA t (by omega)
def uv(D:DOk u hh H E Q V a b)(G:fit 1000000 N){j i:Nat}(L:j<6)(T:j+i<H){l:Rn}(hn:n j=l.length)(hc:c j=rc l)(hr:RI u a b j l)(h7:l.length<=7)(C:¬ Mz (un u) H j i<Bz (un u) j i){St:List Int}{En Re:List RatD}(e1:St.length=H)(e2:En.length=H)(e3:Re.length=H)
  (k:∀(St':List Int)(En' Re':List RatD) n' c',St'.length=H->En'.length=H->Re'.length=H->Same j i St St' En En' Re Re'->(∀ t,t<=i->At St' En' Re' (j+t) 2 (fP (un u) a b j i (SM (un u) a b H j i) t) (fR (un u) a b j i (SM (un u) a b H j i) t))->yE r0 n' c' (Ao St') (En'.flatMap RatD.av) (Re'.flatMap RatD.av)=X) :
  Jf N (j:Int) ((j+i:Nat):Int) H H H (Ao St) (En.flatMap RatD.av) (Re.flatMap RatD.av) (rB u (H:Int) E Q V o o1 o2 n c) r0=X:=by
 have h6:=D.h6
 have hN:100001000<=N:=by have:=G.1;omega
 rw[Tf];unfold Kt
 refine t7 D G L T hn hc hr h7 (fun e=>absurd e C) fun _ l' I hi h7'=>?_
 have Y:=gx (a:=a) (b:=b) D.hv C
 exact dW D G L I Ku Ku i hi T _ St En Re N Y.1 Y.2.1 e1 e2 e3 (by omega) fun St' En' Re' l1 l2 l3 hs hA=>k St' En' Re' _ _ l1 l2 l3 hs hA
end
end
end Gx.Uo
namespace Gx.Uo
open Go Go.Proofs
noncomputable section
variable{R:Type}{N:Nat}{X:O R}
def TX(u:UnitD)(hs fi la:Int)(nE nQ:Nat):Int:=if Bc u hs=false then 1 else if (nE:Int)≠hs\/(nQ:Int)≠hs then 4 else if fi<0\/la<fi\/hs<=la then 3 else if Mz (un u) hs.toNat fi.toNat (la - fi).toNat<Bz (un u) fi.toNat (la - fi).toNat then 7 else 0
def rj:LA:=[.nsl,.nsl,.nsl]
def uw(St:List Int)(En Re:List RatD):LA:=[.imm (Ao St) St.length 1 false false,.imm (En.flatMap RatD.av) En.length 3 false false,.imm (Re.flatMap RatD.av) Re.length 3 false false]
structure Disp(St:List Int)(En Re:List RatD)(H j i:Nat)(p r:Nat->Int):Prop where
 l1:St.length=H
 l2:En.length=H
 l3:Re.length=H
 off:∀ h,h<H->¬ (j<=h/\h<=j+i)->At St En Re h 0 0 0
 on:∀ t,t<=i->At St En Re (j+t) 2 (p t) (r t)
variable{u:UnitD}{hs fi la:Int}{E Q:List RatD}{a b:Nat->Rat}{g b1 b2 b3 b4:Bool}
def ux{K:Lu->Int->Int->Int->LA->Nat->Int->Int->Int->Int->Int->Int->Int->Int->Int->Int->Int->Int->Int->LA->Nat->Int->Int->Int->LA->Nat->Bool->LA->Nat->Bool->LA->LA->LA->LA->LA->LA->LA->O R}{c:Int}{d h:LA}{e i:Nat}{f g' j l:Bool}(C:wD u.segs.l)(D:u.segs.l.length<=8)(G:-1048576<=u.min/\u.min<=1048576)(I:fit (100*500+1000) N)
  (k:∀ V,VOk V (Pd u)->PB 500 (Pd u)->K u.name u.bus u.min u.max (u.segs.l.flatMap SegD.av) u.segs.l.length u.noLoad u.rampUp u.rampDown u.startRamp u.stopRamp u.upTime u.downTime u.startTime u.hotCost u.coldCost u.hotHours u.reserve u.reservePrice (Ao u.away.l) u.away.l.length u.state u.hours u.output (Ao (Eg (Pd u))) (Pd u).length false (V.flatMap RatD.av) (Pd u).length false [] [] [] [] [] [] []=X) :
  Ql N u.av g c d e f g' h i j l K=X:=by
 rw[Wv];unfold Vi
 rw[show ∀ F:Lu->O R,yH u.av F=F u.name from fun _=>rfl,show ∀ F:Int->O R,Am .i64 (u.av.drop 1) F=F u.bus from fun _=>Az,u2,u3,u4,u5,u6,u7,u8,u9,xd,xe,xF,xh,xi,xj,vN,xk,uP,tI,xm,vO,show beq (List.length u.av) 22=true from rfl,ct]
 have e1:([.str u.name,.int .i64 u.bus,.int .i64 u.min,.int .i64 u.max,.imm (u.segs.l.flatMap SegD.av) u.segs.l.length 2 false g,.int .i64 u.noLoad,.int .i64 u.rampUp,.int .i64 u.rampDown,.int .i64 u.startRamp,.int .i64 u.stopRamp,.int .i64 u.upTime,.int .i64 u.downTime,.int .i64 u.startTime,.int .i64 u.hotCost,.int .i64 u.coldCost,.int .i64 u.hotHours,.int .i64 u.reserve,.int .i64 u.reservePrice,.imm (Ao u.away.l) u.away.l.length 1 false g,.int .i64 u.state,.int .i64 u.hours,.int .i64 u.output]:LA)=(uN u g).av:=by
  rw[<-Rc];rfl
 rw[e1]
 refine wK (u:=uN u g) (M:=500) C D G (by omega) I fun V hV hP=>?_
 rw[gr,rW]
 rw[show((beq (List.length (Mx (Pd (uN u g)) V false)) 2)&&(true&&(beq 2 2&&ble 27 51)))=true from rfl,ct]
 exact k V hV hP
def t8(h:Bc u hs=false){nE nQ:Nat}:TX u hs fi la nE nQ=1:=by unfold TX;rw[if_pos h]
def nN(h:Bc u hs=true){nE nQ:Nat}(k:(nE:Int)≠hs\/(nQ:Int)≠hs):TX u hs fi la nE nQ=4:=by unfold TX;rw[if_neg (by rw[h];simp),if_pos k]
def t_(h:Bc u hs=true){nE nQ:Nat}(k:(nE:Int)=hs)(C:(nQ:Int)=hs)(D:fi<0\/la<fi\/hs<=la):TX u hs fi la nE nQ=3:=by unfold TX;rw[if_neg (by rw[h];simp),if_neg (by rw[k,C];simp),if_pos D]
def ta(h:Bc u hs=true){nE nQ:Nat}(k:(nE:Int)=hs)(C:(nQ:Int)=hs)(D:¬ (fi<0\/la<fi\/hs<=la)):TX u hs fi la nE nQ=if Mz (un u) hs.toNat fi.toNat (la - fi).toNat<Bz (un u) fi.toNat (la - fi).toNat then 7 else 0:=by unfold TX;rw[if_neg (by rw[h];simp),if_neg (by rw[k,C];simp),if_neg D]
def w8{K:LA->LA->Int->O R}(hal:u.away.l.length<=1000)(h6:Bc u hs=true->hs<=6)(pa:∀ h,h<E.length->Pr E h (a h))(pb:∀ h,h<Q.length->Pr Q h (b h))(G:fit 1000000 N)
  (k0:∀ e,TX u hs fi la E.length Q.length=e->e≠0->K rj oq.av e=X)
  (k1:TX u hs fi la E.length Q.length=0->∀(St:List Int)(En Re:List RatD)(d:RatD),Disp St En Re hs.toNat fi.toNat (la - fi).toNat (fP (un u) a b fi.toNat (la - fi).toNat (SM (un u) a b hs.toNat fi.toNat (la - fi).toNat)) (fR (un u) a b fi.toNat (la - fi).toNat (SM (un u) a b hs.toNat fi.toNat (la - fi).toNat))->d.can ((runF (un u) a b fi.toNat (la - fi).toNat).1 (SM (un u) a b hs.toNat fi.toNat (la - fi).toNat))->K (uw St En Re) d.av 0=X) :
  YI N u.av g hs fi la (E.flatMap RatD.av) E.length b1 b2 (Q.flatMap RatD.av) Q.length b3 b4 K=X:=by
 have hN:100001000<=N:=by have:=G.1;omega
 rw[YJ];unfold UH
 rw[jo,ct,YM,aZ (by omega) (by omega) (by omega)]
 cases k:Bc u hs with
|false=>rw[show(!false)=true from rfl,ct];exact k0 1 (t8 k) (by omega)
| true =>
  rw[show(!true)=false from rfl,cf]
  have h6:=h6 k
  by_cases hE:(E.length:Int)=hs
  ·rw[show(((E.length:Int) != hs)==false)=true by rw[hE];simp,ct]
   by_cases hQ:(Q.length:Int)=hs
   ·rw[show(cond false true ((Q.length:Int) != hs))=false by rw[hQ];simp,cf]
    have r3:(fi<0\/la<fi\/hs<=la)->K rj oq.av 3=X:=fun h=>k0 3 (t_ k hE hQ h) (by omega)
    unfold EN IX
    by_cases c1:fi<0
    ·rw[decide_eq_true c1,show(true==false)=false from rfl,cf];exact r3 (.inl c1)
    rw[decide_eq_false c1,show(false==false)=true from rfl,ct]
    by_cases I:fi>la
    ·rw[decide_eq_true I,show((cond false true true)==false)=false from rfl,cf];exact r3 (.inr (.inl I))
    rw[decide_eq_false I,show((cond false true false)==false)=true from rfl,ct]
    by_cases c3:la>=hs
    ·rw[decide_eq_true c3,show(cond false true true)=true from rfl,ct];exact r3 (.inr (.inr c3))
    rw[decide_eq_false c3,show(cond false true false)=false from rfl,cf]
    have e0:=ta (fi:=fi) (la:=la) k hE hQ (by omega)
    have hH:hs=(hs.toNat:Int):=by omega
    have L:fi=(fi.toNat:Int):=by omega
    have T:la=((fi.toNat+(la - fi).toNat:Nat):Int):=by omega
    have h1:E.length=hs.toNat:=by omega
    have h2:Q.length=hs.toNat:=by omega
    generalize hs.toNat=H at *
    generalize fi.toNat=j at *
    generalize (la - fi).toNat=i at *
    have hm:=C9 k
    have Y:=Jl k
    unfold PM
    rw[jo,ct,YM]
    refine ux (dP k) Y.1 (by omega) (G.le (by omega)) fun V hV hP=>?_
    have D:DOk u hs H E Q V a b:=⟨k,by omega,fun h hh=>pa h (by omega),fun h hh=>pb h (by omega),hV,hP⟩
    have hr0:RI u a b j []:=fun i h=>by simp at h
    subst hH L T
    rw[<-Rc u.away.l]
    refine pF (u:=u) (V:=V) (o:=g) (o1:=b2) (o2:=b4) (n:=fun _=>0) (c:=fun _=>[]) D G (by omega) (by omega) rfl rfl hr0 (by simp) (fun C l' _ _ _=>?_) (fun C l' hr' hi' h7' d f hd=>?_)
    ·show cond ((beq 0 0)&&((beq (List.length oq.av) 3)&&(beq 3 3))) _ none=X
     rw[Gx.c3,ct,show(!false)=true from rfl,ct]
     exact k0 7 (by rw[e0,if_pos C]) (by omega)
    ·show cond ((beq 0 0)&&((beq (List.length d.av) 3)&&(beq 3 3))) _ none=X
     rw[Gx.c3,ct,show(!true)=false from rfl,cf]
     refine uq (by omega) (by omega) fun En Re g1 g2 g3 g4=>?_
     have qd:fit (4*d.m+10) N:=by
      have q:=gw (a:=a) (b:=b) (j:=j) (H:=H) k (fun h hh=>(D.pa h hh).qm) (fun h hh=>(D.pb h hh).qm) i (by omega) _ (gx (a:=a) (b:=b) k C).1 (gx (a:=a) (b:=b) k C).2.1
      rw[hd.m]
      exact G.le (by omega)
     refine uv (u:=u) (V:=V) (o:=g) (o1:=b2) (o2:=b4) (n:=up (fun _=>0) j l'.length) (c:=up (fun _=>[]) j (rc l')) D G (by omega) (by omega) Ku Ku hr' h7' C (by simp) g1 g2 fun St' En' Re' n' c' l1 l2 l3 hs hA=>?_
     show cond (ble 3 (List.length d.av)) (Qd N (take 3 d.av) f _) none=X
     rw[Gx.b3,ct,G_]
     obtain⟨d',d1,d2⟩:=Tg (R:=R) (N:=N) (o:=f) hd.ok qd
     rw[d2,Gx.c3,ct,Gx.b3,ct,G_]
     have t1:(Ao St').take (H*1)=Ao St':=zF (by rw[H3];omega)
     have t2:(En'.flatMap RatD.av).take (H*3)=En'.flatMap RatD.av:=zF (by rw[AJ];omega)
     have t3:(Re'.flatMap RatD.av).take (H*3)=Re'.flatMap RatD.av:=zF (by rw[AJ];omega)
     rw[t1,t2,t3]
     rw[hd.q]at d1
     have:=k1 (by rw[e0,if_neg C]) St' En' Re' d' ⟨l1,l2,l3,fun h hh hn=>?_,hA⟩ d1
     ·unfold uw at this;rw[l1,l2,l3]at this;exact this
     ·have:=hs h hn
      refine⟨?_,?_,?_⟩
      ·rw[this.1,List.getElem?_replicate,if_pos hh]
      ·rw[this.2.1,zD (by omega)]
       exact⟨_,rfl,g3 _ (zQ _)⟩
      ·rw[this.2.2,zD (by omega)]
       exact⟨_,rfl,g4 _ (zQ _)⟩
   ·rw[show(cond false true ((Q.length:Int) != hs))=true by simp[hQ],ct]
    exact k0 4 (nN k (.inr hQ)) (by omega)
  ·rw[show(((E.length:Int) != hs)==false)=false by simp[hE],cf]
   exact k0 4 (nN k (.inl hE)) (by omega)
end
end Gx.Uo
namespace Gx.Uo
open Go Go.Proofs
noncomputable section
variable{R:Type}{N:Nat}{X:O R}
section
variable(hs fi la:Int)(b:LA)(F:O R)(Ex:Nat->Nat->LA->LA->O R)(k0:Nat->Nat->Int->LA->LA->O R)
def w9(h f:Nat)(v:LA)(ag:Int)(ap:LA):O R:=(cond (Ab ag h) (Am .i64 (v.drop (0+(ag.toNat*1))) fun ba=>cond (Ab ag f) (Am .i64 (ap.drop (0+(ag.toNat*1))) fun bb=>cond (decide (ba>bb)) F (k0 h f (wrap .i64 (ag+1)) v ap)) none) none)
def vW(h f:Nat)(x:Int)(v ae:LA):O R:=(cond ((x==la)==true) (cond (cond true (decide (la<(wrap .i64 (hs - 1)))) false) (cond (Ab x f) (Am .i64 (ae.drop (0+(x.toNat*1))) fun bc=>Am .i64 (b.drop 9) fun bd=>cond (Ab x f) (cond ((beq 1 1)&&((ble ((0+(x.toNat*1))+1) ae.length)&&(!false))) (w9 F k0 h f v x (ae.set (0+(x.toNat*1)) (.int .i64 (Fg bc bd)))) none) none) none) (w9 F k0 h f v x ae)) (w9 F k0 h f v x ae))
def xI(h f:Nat)(u:Int)(an:Bool)(af z:LA):O R:=(cond an (cond (Ab u h) (Am .i64 (af.drop (0+(u.toNat*1))) fun be=>Am .i64 (b.drop 21) fun bf=>Am .i64 (b.drop 7) fun bg=>cond (Ab u f) (Am .i64 (z.drop (0+(u.toNat*1))) fun bh=>Am .i64 (b.drop 21) fun bi=>Am .i64 (b.drop 6) fun bj=>cond (Ab u h) (cond ((beq 1 1)&&((ble ((0+(u.toNat*1))+1) af.length)&&(!false))) (cond (Ab u f) (cond ((beq 1 1)&&((ble ((0+(u.toNat*1))+1) z.length)&&(!false))) (vW hs la b F k0 h f u (af.set (0+(u.toNat*1)) (.int .i64 (Ij be (wrap .i64 (bf - bg))))) (z.set (0+(u.toNat*1)) (.int .i64 (Fg bh (wrap .i64 (bi+bj)))))) none) none) none) none) none) none) (cond (Ab u f) (Am .i64 (z.drop (0+(u.toNat*1))) fun bk=>Am .i64 (b.drop 8) fun bl=>cond (Ab u f) (cond ((beq 1 1)&&((ble ((0+(u.toNat*1))+1) z.length)&&(!false))) (vW hs la b F k0 h f u af (z.set (0+(u.toNat*1)) (.int .i64 (Fg bk bl)))) none) none) none))
def uy(h f:Nat)(s:Int)(ac ad:LA):O R:=(cond (decide (s<=la)) (Am .i64 (b.drop 2) fun al=>Am .i64 (b.drop 3) fun am=>cond (Ab s h) (cond ((beq 1 1)&&((ble ((0+(s.toNat*1))+1) ac.length)&&(!false))) (cond (Ab s f) (cond ((beq 1 1)&&((ble ((0+(s.toNat*1))+1) ad.length)&&(!false))) (cond (decide (s>fi)) (cond (Ab s h) (Am .i64 ((ac.set (0+(s.toNat*1)) (.int .i64 al)).drop (0+(s.toNat*1))) fun bz=>cond (Ab (wrap .i64 (s - 1)) h) (Am .i64 ((ac.set (0+(s.toNat*1)) (.int .i64 al)).drop (0+(((wrap .i64 (s - 1)).toNat)*1))) fun ca=>Am .i64 (b.drop 7) fun cb=>cond (Ab s f) (Am .i64 ((ad.set (0+(s.toNat*1)) (.int .i64 am)).drop (0+(s.toNat*1))) fun cc=>cond (Ab (wrap .i64 (s - 1)) f) (Am .i64 ((ad.set (0+(s.toNat*1)) (.int .i64 am)).drop (0+(((wrap .i64 (s - 1)).toNat)*1))) fun cd=>Am .i64 (b.drop 6) fun ce=>cond (Ab s h) (cond ((beq 1 1)&&((ble ((0+(s.toNat*1))+1) ((ac.set (0+(s.toNat*1)) (.int .i64 al)).length))&&(!false))) (cond (Ab s f) (cond ((beq 1 1)&&((ble ((0+(s.toNat*1))+1) ((ad.set (0+(s.toNat*1)) (.int .i64 am)).length))&&(!false))) (vW hs la b F k0 h f s ((ac.set (0+(s.toNat*1)) (.int .i64 al)).set (0+(s.toNat*1)) (.int .i64 (Ij bz (wrap .i64 (ca - cb))))) ((ad.set (0+(s.toNat*1)) (.int .i64 am)).set (0+(s.toNat*1)) (.int .i64 (Fg cc (wrap .i64 (cd+ce)))))) none) none) none) none) none) none) none) none) (cond ((s==0)==true) (Am .i64 (b.drop 19) fun cf=>xI hs la b F k0 h f s (cond true (cf==2) false) (ac.set (0+(s.toNat*1)) (.int .i64 al)) (ad.set (0+(s.toNat*1)) (.int .i64 am))) (xI hs la b F k0 h f s false (ac.set (0+(s.toNat*1)) (.int .i64 al)) (ad.set (0+(s.toNat*1)) (.int .i64 am))))) none) none) none) none) (Ex h f ac ad))
def uz:Nat->Nat->Nat->Int->LA->LA->O R
|0=>fun _ _ _ _ _=>none
|n+1=>uy hs fi la b F Ex (uz n)
end
def bF{l:List Int}{s:Nat}{v:Int}:(Ao l).set (0+((Int.toNat (s:Int))*1)) (.int .i64 v)=Ao (l.set s v):=by rw[zG,zU,zY];unfold Ao;rw[Adm]
def rk{l:List Int}{s:Nat}(h:s<l.length):((beq 1 1)&&((ble ((0+((Int.toNat (s:Int))*1))+1) (Ao l).length)&&(!false)))=true:=by rw[zG,H3,show ble (0+s*1+1) l.length=true by rw[zo];omega];rfl
def gI{l:List Int}{s:Nat}{v:Int}(h:l[s]?=some v){f:Int->O R}:Am .i64 (drop (0+((Int.toNat (s:Int))*1)) (Ao l)) f=f v:=by
 obtain⟨k,C⟩:=zK.1 h
 rw[tX k,C]
section
variable{u:UnitD}{hh:Int}{F:O R}{Ex:Nat->Nat->LA->LA->O R}{k0:Nat->Nat->Int->LA->LA->O R}
def rm{H s:Nat}{lo hi:List Int}{x y:Int}(D:lo.length=H)(G:hi.length=H)(k:lo[s]?=some x)(C:hi[s]?=some y)(hH:H<=1000)
  (f:y<x->F=X) (g:x<=y->k0 H H ((s:Int)+1) (Ao lo) (Ao hi)=X):w9 F k0 H H (Ao lo) (s:Int) (Ao hi)=X:=by
 have hs:=(zK.1 k).1
 unfold w9
 rw[Aa (by omega),ct,gI k,ct,gI C,Aq _ (by omega)]
 by_cases h:y<x
 ·rw[decide_eq_true (show x>y from h),ct];exact f h
 ·rw[decide_eq_false (show ¬ x>y from h),cf];exact g (by omega)
def w_{H s la:Nat}{lo hi:List Int}{x y:Int}(hv:Bc u hh=true)(L:lo.length=H)(D:hi.length=H)(I:lo[s]?=some x)(G:hi[s]?=some y)(hH:H<=1000)(Y:la<=1000)
  (f:(if s=la/\la+1<H then E3 y u.stopRamp else y)<x->F=X) (g:∀ C,C.length=H->(∀ t,t≠s->C[t]?=hi[t]?)->C[s]?=some (if s=la/\la+1<H then E3 y u.stopRamp else y)->x<=(if s=la/\la+1<H then E3 y u.stopRamp else y)->k0 H H ((s:Int)+1) (Ao lo) (Ao C)=X):vW (H:Int) (la:Int) u.av F k0 H H (s:Int) (Ao lo) (Ao hi)=X:=by
 have hs:=(zK.1 I).1
 unfold vW
 by_cases e:s=la
 ·subst e
  rw[show(((s:Int)==(s:Int))==true)=true by simp,ct,Aq ((H:Int) - 1) (by omega)]
  by_cases T:s+1<H
  ·rw[decide_eq_true (show(s:Int)<(H:Int) - 1 by omega),show(cond true true false)=true from rfl,ct,Aa (by omega),ct,gI G,u9,ct,rk (by omega),ct,Ho,bF]
   rw[if_pos ⟨rfl,T⟩]at f g
   exact rm L (by simp[D]) I (zi (by omega)) hH f fun k=>g _ (by simp[D]) (fun t ht=>z7 fun h=>ht h.symm) (zi (by omega)) k
  ·rw[decide_eq_false (show ¬ (s:Int)<(H:Int) - 1 by omega),show(cond true false false)=false from rfl,cf]
   rw[if_neg (fun h=>T h.2)]at f g
   exact rm L D I G hH f fun k=>g _ D (fun t _=>rfl) G k
 ·rw[show(((s:Int)==(la:Int))==true)=false by simp;omega,cf]
  rw[if_neg (fun h=>e h.1)]at f g
  exact rm L D I G hH f fun k=>g _ D (fun t _=>rfl) G k
def wc{H j i t:Nat}{y:Int}(k:y=Dn (un u) j t)(D:t<=i):(if j+t=j+i/\(j+i)+1<H then E3 y u.stopRamp else y)=if t=i then Mz (un u) H j i else Dn (un u) j t:=by
 subst k
 by_cases e:t=i
 ·subst e
  rw[if_pos rfl]
  unfold Mz
  by_cases h:j+t+1<H
  ·rw[if_pos ⟨rfl,h⟩,if_pos h];rfl
  ·rw[if_neg (fun C=>h C.2),if_neg h]
 ·rw[if_neg (fun h=>e (by omega)),if_neg e]
def tc{H j i:Nat}(I:Bc u hh=true)(hH:H<=1000)(hj:j+i<H)
  (f:Mz (un u) H j i<Bz (un u) j i->F=X)
  (g:¬ Mz (un u) H j i<Bz (un u) j i->∀ lo hi,lo.length=H->hi.length=H->(∀ t,t<=i->lo[j+t]?=some (Bz (un u) j t)/\hi[j+t]?=some (if t=i then Mz (un u) H j i else Dn (un u) j t))->Ex H H (Ao lo) (Ao hi)=X):∀(m t k:Nat)(lo hi:List Int),t+m=i+1->m<k->lo.length=H->hi.length=H->(t=i+1->¬ Mz (un u) H j i<Bz (un u) j i)->(∀ t',t'<t->lo[j+t']?=some (Bz (un u) j t')/\hi[j+t']?=some (if t'=i then Mz (un u) H j i else Dn (un u) j t')) ->
  uz (H:Int) (j:Int) ((j+i:Nat):Int) u.av F Ex k H H ((j+t:Nat):Int) (Ao lo) (Ao hi)=X
|0,t,k+1,lo,hi,hm,_,L,T,Y,hp=>by
  rw[uz];unfold uy
  rw[decide_eq_false (show ¬ ((j+t:Nat):Int)<=((j+i:Nat):Int) by omega),cf]
  exact g (Y (by omega)) lo hi L T fun t' ht=>hp t' (by omega)
| m+1,t,k+1,lo,hi,hm,hfu,L,T,Y,hp=>by
  have ko:=My I
  have hmn:=C9 I
  have hR:=(Db I).2.1
  have v2:=hR.2.2.1;have v3:=hR.2.2.2.1;have v8:=hR.2.2.2.2.2.2.2.2.2.2.2
  have st:=Eh (a:=fun _=>0) (b:=fun _=>0) (fi:=j) ko t
  have ht:t<=i:=by omega
  have hs:j+t<H:=by omega
  have key:∀ C D:List Int,C.length=H->D.length=H->(∀ q,q≠j+t->C[q]?=lo[q]?/\D[q]?=hi[q]?)->C[j+t]?=some (Bz (un u) j t)->D[j+t]?=some (Dn (un u) j t)->vW (H:Int) ((j+i:Nat):Int) u.av F (uz (H:Int) (j:Int) ((j+i:Nat):Int) u.av F Ex k) H H ((j+t:Nat):Int) (Ao C) (Ao D)=X:=fun C D g1 g2 g3 g4 g5=>by
   refine w_ I g1 g2 g4 g5 hH (by omega) (fun G=>?_) fun hi2 q1 q2 q3 q4=>?_
   ·rw[wc rfl ht]at G
    by_cases e:t=i
    ·subst e;rw[if_pos rfl]at G;exact f G
    ·rw[if_neg e]at G;have:=st.l1;omega
   ·rw[wc rfl ht]at q3 q4
    rw[show((j+t:Nat):Int)+1=((j+(t+1):Nat):Int) by omega]
    refine tc I hH hj f g m (t+1) k C hi2 (by omega) (by omega) g1 q1 (fun e=>?_) fun t' ht'=>?_
    ·have:t=i:=by omega
     subst this;rw[if_pos rfl]at q4;omega
    ·by_cases e:t'=t
     ·subst e;exact⟨g4,q3⟩
     ·have p:=hp t' (by omega)
      rw[(g3 (j+t') (by omega)).1,q2 (j+t') (by omega),(g3 (j+t') (by omega)).2];exact p
  rw[uz];unfold uy
  rw[decide_eq_true (show((j+t:Nat):Int)<=((j+i:Nat):Int) by omega),ct,u2,u3,Aa hs,ct,rk (by omega),ct,ct,rk (by omega),ct,bF,bF]
  have sl:∀ v:Int,(lo.set (j+t) v)[j+t]?=some v:=fun v=>zi (by omega)
  have sr:∀ v:Int,(hi.set (j+t) v)[j+t]?=some v:=fun v=>zi (by omega)
  have e1:u.min=(un u).min:=rfl
  cases t with
  |succ t0 =>
   have p:=hp t0 (by omega)
   rw[if_neg (by omega)]at p
   have w1:wrap .i64 (((j+(t0+1):Nat):Int) - 1)=((j+t0:Nat):Int):=by rw[Aq _ (by omega)];omega
   have st0:=Eh (a:=fun _=>0) (b:=fun _=>0) (fi:=j) ko t0
   have b0:u.min<=Bz (un u) j t0:=st0.l0
   have b1:=st0.l1
   have b2:Dn (un u) j t0<=u.max:=st0.l2
   rw[decide_eq_true (show((j+(t0+1):Nat):Int)>(j:Int) by omega),ct,ct,gI (sl _),w1,Aa (by omega),ct,gI (s:=j+t0) (v:=Bz (un u) j t0) (by rw[z7 (by omega)];exact p.1),u7,ct,gI (sr _),ct,gI (s:=j+t0) (v:=Dn (un u) j t0) (by rw[z7 (by omega)];exact p.2),u6,ct,rk (by simp;omega),ct,ct,rk (by simp;omega),ct,bF,bF,Adn,Adn,Aq _ (by omega),Aq _ (by omega),Zf,Ho]
   exact key _ _ (by simp[L]) (by simp[T]) (fun q hq=>⟨z7 (fun h=>hq h.symm),z7 (fun h=>hq h.symm)⟩) (sl _) (sr _)
  | zero =>
   rw[decide_eq_false (show ¬ ((j+0:Nat):Int)>(j:Int) by omega),cf]
   have q2:∀ c:Bool,c=Ri (un u) j->xI (H:Int) ((j+i:Nat):Int) u.av F (uz (H:Int) (j:Int) ((j+i:Nat):Int) u.av F Ex k) H H ((j+0:Nat):Int) c (Ao (lo.set (j+0) u.min)) (Ao (hi.set (j+0) u.max))=X:=fun c hc=>by
    unfold xI
    cases c with
    |true =>
     rw[ct,Aa hs,ct,gI (sl _),vO,u7,ct,gI (sr _),vO,u6,ct,rk (by simp;omega),ct,ct,rk (by simp;omega),ct,bF,bF,Adn,Adn,Aq _ (by omega),Aq _ (by omega),Zf,Ho]
     refine key _ _ (by simp[L]) (by simp[T]) (fun q hq=>⟨z7 (fun h=>hq h.symm),z7 (fun h=>hq h.symm)⟩) ?_ ?_
     ·rw[sl];unfold Bz;rw[<-hc];rfl
     ·rw[sr];unfold Dn;rw[<-hc];rfl
    | false =>
     rw[cf,Aa hs,ct,gI (sr _),u8,ct,rk (by simp;omega),ct,bF,Adn,Ho]
     refine key _ _ (by simp[L]) (by simp[T]) (fun q hq=>⟨z7 (fun h=>hq h.symm),z7 (fun h=>hq h.symm)⟩) ?_ ?_
     ·rw[sl];unfold Bz;rw[<-hc];rfl
     ·rw[sr];unfold Dn;rw[<-hc]
      have:u.startRamp<=u.max:=ko.sr0.2
      have e:E3 u.max u.startRamp=u.startRamp:=by unfold E3;split<;>omega
      rw[e];rfl
   by_cases e:j=0
   ·subst e
    rw[show((((0+0:Nat):Int)==0)==true)=true from rfl,ct,tI]
    exact q2 _ rfl
   ·rw[show((((j+0:Nat):Int)==0)==true)=false by simp;omega,cf]
    refine q2 _ ?_
    unfold Ri;rw[show(j==0)=false by simp[e]];rfl
end
end
end Gx.Uo
namespace Gx.Cf
open Go Go.Proofs
def Ao(l:List Int):LA:=l.map fun n=>.int .i64 n
end Gx.Cf
namespace Gx.Cf
open Go Go.Proofs
section
variable{R:Type}
abbrev e8:{e:Int // e≠0}:=⟨8,by decide⟩
end
end Gx.Cf
namespace Gx.Uo
open Go Go.Proofs
section
variable{R:Type}{N:Nat}{X:O R}
def nO{K:Bool->O R}:Ul N K=K true:=by rw[Ks];rfl
end
end Gx.Uo
namespace Gx.Uo
open Go Go.Proofs
noncomputable section
variable{R:Type}{N:Nat}{X:O R}
def wg(fi:Int)(b:LA)(h f:Nat)(Ex:LA->LA->O R):Nat->Int->LA->LA->O R
|0=>fun _ _ _=>none
|n+1=>fun w i j=>cond (decide (w>fi)) (cond (Ab (wrap .i64 (w - 1)) h) (Am .i64 (i.drop (0+(((wrap .i64 (w - 1)).toNat)*1))) fun br=>cond (Ab w h) (Am .i64 (i.drop (0+(w.toNat*1))) fun bs=>Am .i64 (b.drop 6) fun bt=>cond (Ab (wrap .i64 (w - 1)) f) (Am .i64 (j.drop (0+(((wrap .i64 (w - 1)).toNat)*1))) fun bu=>cond (Ab w f) (Am .i64 (j.drop (0+(w.toNat*1))) fun bv=>Am .i64 (b.drop 7) fun bw=>cond (Ab (wrap .i64 (w - 1)) h) (cond ((beq 1 1)&&((ble ((0+(((wrap .i64 (w - 1)).toNat)*1))+1) i.length)&&(!false))) (cond (Ab (wrap .i64 (w - 1)) f) (cond ((beq 1 1)&&((ble ((0+(((wrap .i64 (w - 1)).toNat)*1))+1) j.length)&&(!false))) (wg fi b h f Ex n (wrap .i64 (w - 1)) (i.set (0+(((wrap .i64 (w - 1)).toNat)*1)) (.int .i64 (Ij br (wrap .i64 (bs - bt))))) (j.set (0+(((wrap .i64 (w - 1)).toNat)*1)) (.int .i64 (Fg bu (wrap .i64 (bv+bw)))))) none) none) none) none) none) none) none) none) (Ex i j)
section
variable(hs fi la:Int)(b:LA)(g:LA)(f:Nat)(k5:Int->Int->Nat->Nat->Nat->LA->LA->LA->O R)
def xJ(N:Nat)(x:Int)(q r s:Nat)(t u v:LA)(ac az:Int):O R:=(G8 N x fun ba=>G8 N az fun bb=>cond (Ab ac q) (cond ((beq 1 1)&&((ble ((0+(ac.toNat*1))+1) t.length)&&(!false))) (cond (Ab ac r) (cond ((beq ba.length 3)&&((ble ((0+(ac.toNat*3))+3) u.length)&&(!false))) (cond (Ab ac s) (cond ((beq bb.length 3)&&((ble ((0+(ac.toNat*3))+3) v.length)&&(!false))) (k5 x (wrap .i64 (ac+1)) q r s (t.set (0+(ac.toNat*1)) (.int .i64 2)) (setCells u (0+(ac.toNat*3)) ba) (setCells v (0+(ac.toNat*3)) bb)) none) none) none) none) none) none)
def sA(N:Nat)(x:Int)(q r s:Nat)(t u v:LA)(aj aw:Int):O R:=(cond (decide ((wrap .i64 (hs+aj))<(f:Int))) (cond (Ab (wrap .i64 (hs+aj)) f) (Am .i64 (g.drop (((wrap .i64 (hs+aj)).toNat)*1)) fun bs=>Am .i64 (b.drop 16) fun bt=>EF N bs (wrap .i64 ((Fg bt (wrap .i64 (aw - x)))+1)) fun bu=>xJ k5 N x q r s t u v aj bu) none) (xJ k5 N x q r s t u v aj 0))
def wh(N:Nat)(q r s:Nat)(t u v:LA)(ao ae x:Int):O R:=(Am .i64 (b.drop 3) fun bc=>Am .i64 (b.drop 6) fun bd=>cond ((ae==fi)==true) (cond ((ae==0)==true) (Am .i64 (b.drop 19) fun bv=>cond (cond true (!(cond true (bv==2) false)) false) (Am .i64 (b.drop 8) fun bw=>sA hs b g f k5 N x q r s t u v ae bw) (sA hs b g f k5 N x q r s t u v ae (Fg bc (wrap .i64 (ao+bd))))) (Am .i64 (b.drop 8) fun bx=>sA hs b g f k5 N x q r s t u v ae bx)) (sA hs b g f k5 N x q r s t u v ae (Fg bc (wrap .i64 (ao+bd)))))
def vX(N:Nat)(q r s:Nat)(t u v:LA)(ap ak an ax:Int):O R:=(cond (decide (ak<(f:Int))) (cond (Ab ak f) (Am .i64 (g.drop (ak.toNat*1)) fun bz=>EF N bz (wrap .i64 ((wrap .i64 (ax - an))+1)) fun ca=>wh hs fi b g f k5 N q r s t u v ap ak (wrap .i64 (an+ca))) none) (wh hs fi b g f k5 N q r s t u v ap ak an))
def sv(N:Nat)(r0:LA->Bool->O R)(m h:Nat)(o p:LA)(aq af:Int)(q r s:Nat)(t u v:LA):O R:=(cond (decide (af<=la)) (cond (Ab af m) (Am .i64 (o.drop (0+(af.toNat*1))) fun be=>cond (Ab af h) (Am .i64 (p.drop (0+(af.toNat*1))) fun bf=>cond (decide (af>fi)) (Am .i64 (b.drop 7) fun cb=>Am .i64 (b.drop 6) fun cc=>vX hs fi b g f k5 N q r s t u v aq af (Ij be (wrap .i64 (aq - cb))) (Fg bf (wrap .i64 (aq+cc)))) (vX hs fi b g f k5 N q r s t u v aq af be bf)) none) none) (r0 [.imm (t.take (q*1)) q 1 false false,.imm (u.take (r*3)) r 3 false false,.imm (v.take (s*3)) s 3 false false] true))
end
def vA(hs fi la:Int)(b g:LA)(f N:Nat)(r0:LA->Bool->O R)(m h:Nat)(o p:LA):Nat->Int->Int->Nat->Nat->Nat->LA->LA->LA->O R
|0=>fun _ _ _ _ _ _ _ _=>none
|n+1=>sv hs fi la b g f (vA hs fi la b g f N r0 m h o p n) N r0 m h o p
def MY(u:Un)(j i:Nat)(e:Int):Nat->Int×Int
|0=>(Bz u j i,e)
|k+1=>(Ov (Bz u j (i - (k+1))) ((MY u j i e k).1 - u.ru),E3 (Dn u j (i - (k+1))) ((MY u j i e k).2+u.rd))
section
variable{u:UnitD}{hh:Int}
def mF{j i:Nat}{e:Int}(ko:(un u).Ok)(C:Bz (un u) j i<=e)(D:e<=Dn (un u) j i):∀ k,k<=i->Bz (un u) j (i - k)<=(MY (un u) j i e k).1/\(MY (un u) j i e k).1<=(MY (un u) j i e k).2/\(MY (un u) j i e k).2<=Dn (un u) j (i - k)
|0,_=>⟨Ab4 _,C,D⟩
| k+1,I=>by
  have G:=mF ko C D k (by omega)
  have r0:=ko.ru0.1;have r1:=ko.rd0.1
  have e1:i - k=i - (k+1)+1:=by omega
  rw[e1]at G
  have st:=Eh (a:=fun _=>0) (b:=fun _=>0) (fi:=j) ko (i - (k+1))
  have l1:=st.l1
  have a1:Bz (un u) j (i - (k+1)) - (un u).rd<=Bz (un u) j (i - (k+1)+1):=by
   show _<=Ov _ _;unfold Ov;split<;>omega
  have a2:Dn (un u) j (i - (k+1)+1)<=Dn (un u) j (i - (k+1))+(un u).ru:=by
   show E3 _ _<=_;unfold E3;split<;>omega
  show _<=Ov _ _/\Ov _ _<=E3 _ _/\E3 _ _<=_
  unfold Ov E3
  split<;>split<;>omega
def td{H j i:Nat}{e:Int}{Ex:LA->LA->O R}(D:Bc u hh=true)(L:Bz (un u) j i<=e)(T:e<=Dn (un u) j i)(hH:H<=1000)(Y:j+i<H)
  (g:∀ lo hi,lo.length=H->hi.length=H->(∀ t,t<=i->lo[j+t]?=some (MY (un u) j i e (i - t)).1/\hi[j+t]?=some (MY (un u) j i e (i - t)).2)->Ex (Ao lo) (Ao hi)=X):∀(t k:Nat)(lo hi:List Int),t<=i->t<k->lo.length=H->hi.length=H->(∀ t',t'<=i->lo[j+t']?=some (if t<=t' then(MY (un u) j i e (i - t')).1 else Bz (un u) j t')/\hi[j+t']?=some (if t<=t' then(MY (un u) j i e (i - t')).2 else Dn (un u) j t')) ->
  wg (j:Int) u.av H H Ex k ((j+t:Nat):Int) (Ao lo) (Ao hi)=X
|0,k+1,lo,hi,_,_,l1,l2,C=>by
  rw[wg];dsimp only
  rw[decide_eq_false (show ¬ ((j+0:Nat):Int)>(j:Int) by omega),cf]
  exact g lo hi l1 l2 fun t ht=>by have:=C t ht;rw[if_pos (Abx _),if_pos (Abx _)]at this;exact this
| t+1,k+1,lo,hi,hti,hfu,l1,l2,C=>by
  have ko:=My D
  have hmn:=C9 D
  have hR:=(Db D).2.1
  have v2:=hR.2.2.1;have v3:=hR.2.2.2.1
  have p0:=C t (by omega);have p1:=C (t+1) (by omega)
  rw[if_neg (by omega),if_neg (by omega)]at p0
  rw[if_pos (zE _),if_pos (zE _)]at p1
  have ok1:=mF ko L T (i - (t+1)) (by omega)
  have st:=Eh (a:=fun _=>0) (b:=fun _=>0) (fi:=j) ko (i - (i - (t+1)))
  have b0:u.min<=Bz (un u) j (i - (i - (t+1))):=st.l0
  have b2:Dn (un u) j (i - (i - (t+1)))<=u.max:=st.l2
  have w1:wrap .i64 (((j+(t+1):Nat):Int) - 1)=((j+t:Nat):Int):=by rw[Aq _ (by omega)];omega
  rw[wg];dsimp only
  rw[decide_eq_true (show((j+(t+1):Nat):Int)>(j:Int) by omega),ct,w1,Aa (by omega),ct,gI p0.1,Aa (by omega),ct,gI p1.1,u6,ct,gI p0.2,ct,gI p1.2,u7,ct,rk (by omega),ct,ct,rk (by omega),ct,bF,bF,Aq _ (by omega),Aq _ (by omega),Zf,Ho]
  refine td D L T hH Y g t k _ _ (by omega) (by omega) (by simp[l1]) (by simp[l2]) fun t' I=>?_
  have ei:i - t=i - (t+1)+1:=by omega
  have en:MY (un u) j i e (i - t)=(Ov (Bz (un u) j t) ((MY (un u) j i e (i - (t+1))).1 - u.rampUp),E3 (Dn (un u) j t) ((MY (un u) j i e (i - (t+1))).2+u.rampDown)):=by
   rw[ei]
   show(Ov (Bz (un u) j (i - (i - (t+1)+1))) _,E3 (Dn (un u) j (i - (i - (t+1)+1))) _)=_
   rw[show i - (i - (t+1)+1)=t by omega];rfl
  by_cases h:t'=t
  ·subst h
   rw[if_pos (zE _),if_pos (zE _),en]
   exact⟨zi (by omega),zi (by omega)⟩
  ·rw[z7 (by omega),z7 (by omega)]
   have p:=C t' I
   by_cases G:t<=t'
   ·rw[if_pos G,if_pos G];rw[if_pos (by omega),if_pos (by omega)]at p;exact p
   ·rw[if_neg G,if_neg G];rw[if_neg (by omega),if_neg (by omega)]at p;exact p
end
end
end Gx.Uo
namespace Gx.Uo
open Go Go.Proofs
noncomputable section
variable{R:Type}{N:Nat}{X:O R}
section
variable{u:UnitD}{hh:Int}{raw:List Int}{k5:Int->Int->Nat->Nat->Nat->LA->LA->LA->O R}{H:Nat}
def Nums(l:List RatD):Prop:=∀ d∈l,∃ q,d.is q 2
def Nums.set{l:List RatD}{i:Nat}{d:RatD}{q:Rat}(h:Nums l)(k:d.is q 2):Nums (l.set i d):=fun e C=>by
 rcases Adv C with D|rfl
 ·exact h e D
 ·exact⟨q,k⟩
def te{s:Nat}{x z:Int}{St:List Int}{En Re:List RatD}(C:-10000000<=x/\x<=10000000)(D:-10000000<=z/\z<=10000000)(hN:4000<=N)(G:St.length=H)(I:En.length=H)(L:Re.length=H)(hs:s<H)(hH:H<=1000)
  (k:∀ d e:RatD,d.is (x:Rat) 2->e.is (z:Rat) 2->k5 x ((s:Int)+1) H H H (Ao (St.set s 2)) ((En.set s d).flatMap RatD.av) ((Re.set s e).flatMap RatD.av)=X):xJ k5 N x H H H (Ao St) (En.flatMap RatD.av) (Re.flatMap RatD.av) (s:Int) z=X:=by
 unfold xJ
 rw[tT (by omega) hN,tT (by omega) hN,Aa hs,ct,rk (by omega),ct,ct]
 rw[zG,zU,AJ,AJ,show((beq (List.length (tR (x:Rat)).av) 3)&&((ble (s*3+3) (En.length*3))&&(!false)))=true by rw[show ble (s*3+3) (En.length*3)=true by rw[zo];omega];rfl,ct,ct,show((beq (List.length (tR (z:Rat)).av) 3)&&((ble (s*3+3) (Re.length*3))&&(!false)))=true by rw[show ble (s*3+3) (Re.length*3)=true by rw[zo];omega];rfl,ct,nM (by omega),nM (by omega),Aq _ (by omega),zU,zY,show(Ao St).set s (.int .i64 2)=Ao (St.set s 2) by unfold Ao;rw[Adm]]
 exact k _ _ (yR (by omega)) (yR (by omega))
def tg{s:Nat}{x top:Int}{St:List Int}{En Re:List RatD}(L:Bc u hh=true)(Y:0<=x/\x<=1048576)(ht:x<=top/\top<=10000000)(hN:4000<=N)(C:St.length=H)(D:En.length=H)(G:Re.length=H)(hs:s<H)(hH:H<=1000)(I:raw.length<=1000000000000)
  (k:∀(z:Int)(d e:RatD),d.is (x:Rat) 2->e.is (z:Rat) 2->k5 x ((s:Int)+1) H H H (Ao (St.set s 2)) ((En.set s d).flatMap RatD.av) ((Re.set s e).flatMap RatD.av)=X):sA (H:Int) u.av (Ao raw) raw.length k5 N x H H H (Ao St) (En.flatMap RatD.av) (Re.flatMap RatD.av) (s:Int) top=X:=by
 have v4:=(Db L).2.1.2.2.2.2.1
 have T:wrap .i64 ((H:Int)+(s:Int))=((H+s:Nat):Int):=by rw[Aq _ (by omega)];omega
 unfold sA
 rw[T]
 by_cases h:H+s<raw.length
 ·rw[T6 h,ct,Aa h,ct,Dh h,vN,Ho,Aq (top - x) (by omega)]
  have m1:0<=E3 u.reserve (top - x)/\E3 u.reserve (top - x)<=1048576:=by unfold E3;split<;>omega
  rw[Aq _ (by omega),vf (by omega) (by omega)]
  have m2:=mr raw[H+s] (show(0:Int)<E3 u.reserve (top - x)+1 by omega)
  exact te (by omega) (by omega) hN C D G hs hH (k _)
 ·rw[Wc (by omega),cf]
  exact te (by omega) (by omega) hN C D G hs hH (k _)
def th{j s:Nat}{v x:Int}{St:List Int}{En Re:List RatD}(D:Bc u hh=true)(I:0<=x/\x<=1048576)(hvv:0<=v/\v<=1048576)(t0:s=j->Ri (un u) j=false->x<=u.startRamp)(t1:(s=j->Ri (un u) j=true)->x<=E3 u.max (v+u.rampUp))(hN:4000<=N)(L:St.length=H)(T:En.length=H)(Y:Re.length=H)(hs:s<H)(hH:H<=1000)(C:raw.length<=1000000000000)
  (k:∀(z:Int)(d e:RatD),d.is (x:Rat) 2->e.is (z:Rat) 2->k5 x ((s:Int)+1) H H H (Ao (St.set s 2)) ((En.set s d).flatMap RatD.av) ((Re.set s e).flatMap RatD.av)=X):wh (H:Int) (j:Int) u.av (Ao raw) raw.length k5 N H H H (Ao St) (En.flatMap RatD.av) (Re.flatMap RatD.av) v (s:Int) x=X:=by
 have hR:=(Db D).2.1
 have v1:=hR.2.1;have v2:=hR.2.2.1;have v6:=hR.2.2.2.2.2.1
 have A:x<=u.startRamp->sA (H:Int) u.av (Ao raw) raw.length k5 N x H H H (Ao St) (En.flatMap RatD.av) (Re.flatMap RatD.av) (s:Int) u.startRamp=X:=fun h=>tg D I ⟨h,by omega⟩ hN L T Y hs hH C k
 have B:x<=E3 u.max (v+u.rampUp)->sA (H:Int) u.av (Ao raw) raw.length k5 N x H H H (Ao St) (En.flatMap RatD.av) (Re.flatMap RatD.av) (s:Int) (E3 u.max (v+u.rampUp))=X:=fun h=>tg D I ⟨h,by unfold E3;split<;>omega⟩ hN L T Y hs hH C k
 unfold wh
 rw[u3,u6,u8,tI,Aq (v+u.rampUp) (by omega),Ho]
 by_cases e:s=j
 ·subst e
  rw[show(((s:Int)==(s:Int))==true)=true by simp,ct]
  by_cases G:s=0
  ·subst G
   rw[show((((0:Nat):Int)==0)==true)=true from rfl,ct]
   cases hc:(u.state==2)with
   |true =>
    rw[show(cond true (!(cond true true false)) false)=false from rfl,cf]
    exact B (t1 fun _=>by unfold Ri;show(true&&(u.state==2))=true;rw[hc];rfl)
   |false =>
    rw[show(cond true (!(cond true false false)) false)=true from rfl,ct]
    exact A (t0 rfl (by unfold Ri;show(true&&(u.state==2))=false;rw[hc];rfl))
  ·rw[show(((s:Int)==0)==true)=false by simp;exact G,cf]
   exact A (t0 rfl (by unfold Ri;rw[show(s==0)=false by simp[G]];rfl))
 ·rw[show(((s:Int)==(j:Int))==true)=false by simp;omega,cf]
  exact B (t1 fun h=>absurd h e)
def ti{j s:Nat}{v p q:Int}{St:List Int}{En Re:List RatD}(G:Bc u hh=true)(Y:0<=p/\p<=q/\q<=1048576)(D:0<=v/\v<=1048576)(t0:s=j->Ri (un u) j=false->q<=u.startRamp)(t1:(s=j->Ri (un u) j=true)->q<=E3 u.max (v+u.rampUp))(hN:4000<=N)(I:St.length=H)(L:En.length=H)(T:Re.length=H)(hs:s<H)(hH:H<=1000)(C:raw.length<=1000000000000)
  (k:∀(x z:Int)(d e:RatD),p<=x->x<=q->d.is (x:Rat) 2->e.is (z:Rat) 2->k5 x ((s:Int)+1) H H H (Ao (St.set s 2)) ((En.set s d).flatMap RatD.av) ((Re.set s e).flatMap RatD.av)=X):vX (H:Int) (j:Int) u.av (Ao raw) raw.length k5 N H H H (Ao St) (En.flatMap RatD.av) (Re.flatMap RatD.av) v (s:Int) p q=X:=by
 unfold vX
 by_cases h:s<raw.length
 ·rw[T6 h,ct,Aa h,ct,Dh h,Aq (q - p) (by omega),Aq (q - p+1) (by omega),vf (by omega) (by omega)]
  have m2:=mr raw[s] (show(0:Int)<q - p+1 by omega)
  rw[Aq _ (by omega)]
  exact th G (by omega) D (fun e c=>by have:=t0 e c;omega) (fun c=>by have:=t1 c;omega) hN I L T hs hH C fun z d e=>k _ z d e (by omega) (by omega)
 ·rw[Wc (by omega),cf]
  exact th G (by omega) D (fun e c=>by have:=t0 e c;omega) (fun c=>by have:=t1 c;omega) hN I L T hs hH C fun z d e=>k _ z d e (by omega) (by omega)
def tj{r0:LA->Bool->O R}{j i:Nat}{e:Int}{lo hi:List Int}(G:Bc u hh=true)(x1:Bz (un u) j i<=e)(x2:e<=Dn (un u) j i)(hH:H<=1000)(hj:j+i<H)(hN:4000<=N)(D:raw.length<=1000000000000)(hl:∀ t,t<=i->lo[j+t]?=some (MY (un u) j i e (i - t)).1/\hi[j+t]?=some (MY (un u) j i e (i - t)).2)
  (k:∀(St:List Int)(En Re:List RatD),St.length=H->En.length=H->Re.length=H->Nums En->Nums Re->r0 (uw St En Re) true=X):∀(m t C:Nat)(v:Int)(St:List Int)(En Re:List RatD),t+m=i+1->m<C->(0<=v/\v<=1048576)->(t=0->v=u.output)->(∀ t',t=t'+1->(MY (un u) j i e (i - t')).1<=v/\v<=(MY (un u) j i e (i - t')).2)->St.length=H->En.length=H->Re.length=H->Nums En->Nums Re ->
  vA (H:Int) (j:Int) ((j+i:Nat):Int) u.av (Ao raw) raw.length N r0 H H (Ao lo) (Ao hi) C v ((j+t:Nat):Int) H H H (Ao St) (En.flatMap RatD.av) (Re.flatMap RatD.av)=X
|0,t,C+1,v,St,En,Re,hm,_,_,_,_,I,L,T,n2,n3=>by
  rw[vA];unfold sv
  rw[decide_eq_false (show ¬ ((j+t:Nat):Int)<=((j+i:Nat):Int) by omega),cf]
  have t1:(Ao St).take (H*1)=Ao St:=zF (by rw[H3];omega)
  have t2:(En.flatMap RatD.av).take (H*3)=En.flatMap RatD.av:=zF (by rw[AJ];omega)
  have t3:(Re.flatMap RatD.av).take (H*3)=Re.flatMap RatD.av:=zF (by rw[AJ];omega)
  rw[t1,t2,t3]
  have:=k St En Re I L T n2 n3
  unfold uw at this;rw[I,L,T]at this;exact this
| m+1,t,C+1,v,St,En,Re,hm,hfu,Y,hv0,hv1,I,L,T,n2,n3=>by
  have ko:=My G
  have hmn:=C9 G
  have hR:=(Db G).2.1
  have v1:=hR.2.1;have v2:=hR.2.2.1;have v3:=hR.2.2.2.1
  have ht:t<=i:=by omega
  have p:=hl t ht
  have ok:=mF ko x1 x2 (i - t) (by omega)
  rw[show i - (i - t)=t by omega]at ok
  have st:=Eh (a:=fun _=>0) (b:=fun _=>0) (fi:=j) ko t
  have b0:u.min<=Bz (un u) j t:=st.l0
  have b2:Dn (un u) j t<=u.max:=st.l2
  have next:∀(x z:Int)(d e':RatD),(MY (un u) j i e (i - t)).1<=x->x<=(MY (un u) j i e (i - t)).2->d.is (x:Rat) 2->e'.is (z:Rat) 2->vA (H:Int) (j:Int) ((j+i:Nat):Int) u.av (Ao raw) raw.length N r0 H H (Ao lo) (Ao hi) C x (((j+t:Nat):Int)+1) H H H (Ao (St.set (j+t) 2)) ((En.set (j+t) d).flatMap RatD.av) ((Re.set (j+t) e').flatMap RatD.av)=X:=fun x z d e' q1 q2 hd he=>by
   rw[show((j+t:Nat):Int)+1=((j+(t+1):Nat):Int) by omega]
   have hv2:∀ t',t+1=t'+1->(MY (un u) j i e (i - t')).1<=x/\x<=(MY (un u) j i e (i - t')).2:=fun t' ht'=>by
    have:t'=t:=by omega
    subst this;exact⟨q1,q2⟩
   exact tj G x1 x2 hH hj hN D hl k m (t+1) C x _ _ _ (by omega) (by omega) (by omega) (by omega) hv2 (by simp[I]) (by simp[L]) (by simp[T]) (n2.set hd) (n3.set he)
  rw[vA];unfold sv
  have hs:j+t<H:=by omega
  have ll:=(zK.1 p.1).1
  rw[decide_eq_true (show((j+t:Nat):Int)<=((j+i:Nat):Int) by omega),ct,Aa hs,ct,gI p.1,ct,gI p.2]
  cases t with
  | zero =>
   rw[decide_eq_false (show ¬ ((j+0:Nat):Int)>(j:Int) by omega),cf]
   have ev:=hv0 rfl
   refine ti G (by omega) Y (fun _ hc=>?_) (fun hc=>?_) hN I L T hs hH D fun x z d e' q1 q2=>next x z d e' q1 q2
   ·have:=ok.2.2
    unfold Dn at this;rw[if_neg (by rw[hc];simp)]at this;exact this
   ·have:=ok.2.2
    unfold Dn at this;rw[if_pos (hc rfl)]at this
    rw[ev];exact this
  | succ t0 =>
   obtain⟨c1,c2⟩:=hv1 t0 rfl
   have ei:i - t0=i - (t0+1)+1:=by omega
   have en:MY (un u) j i e (i - t0)=(Ov (Bz (un u) j t0) ((MY (un u) j i e (i - (t0+1))).1 - u.rampUp),E3 (Dn (un u) j t0) ((MY (un u) j i e (i - (t0+1))).2+u.rampDown)):=by
    rw[ei]
    show(Ov (Bz (un u) j (i - (i - (t0+1)+1))) _,E3 (Dn (un u) j (i - (i - (t0+1)+1))) _)=_
    rw[show i - (i - (t0+1)+1)=t0 by omega];rfl
   rw[en]at c1 c2
   have c1:(MY (un u) j i e (i - (t0+1))).1 - u.rampUp<=v:=by revert c1;show Ov _ _<=v->_;unfold Ov;split<;>omega
   have c2:v<=(MY (un u) j i e (i - (t0+1))).2+u.rampDown:=by revert c2;show v<=E3 _ _->_;unfold E3;split<;>omega
   rw[decide_eq_true (show((j+(t0+1):Nat):Int)>(j:Int) by omega),ct,u7,u6,Aq (v - u.rampDown) (by omega),Aq (v+u.rampUp) (by omega),Zf,Ho]
   generalize (MY (un u) j i e (i - (t0+1))).1=P at *
   generalize (MY (un u) j i e (i - (t0+1))).2=Q at *
   have m1:P<=Ov P (v - u.rampDown)/\Ov P (v - u.rampDown)<=E3 Q (v+u.rampUp)/\E3 Q (v+u.rampUp)<=Q/\E3 Q (v+u.rampUp)<=v+u.rampUp:=by
    unfold Ov E3;split<;>split<;>omega
   refine ti G (by omega) Y (fun e _=>by omega) (fun _=>?_) hN I L T hs hH D fun x z d e' q1 q2=>next x z d e' (by omega) (by omega)
   unfold E3 at m1 ⊢;split<;>split at m1<;>omega
end
end
end Gx.Uo
namespace Gx.Uo
open Go Go.Proofs
noncomputable section
variable{R:Type}{N:Nat}{X:O R}
section
variable{r0:LA->Bool->O R}{a c d:Int}{g:Bool}{b:LA}
def rn(k:Int):Ab k 0=false:=by
 unfold Ab
 by_cases h:0<=k
 ·rw[decide_eq_false (show ¬ k<((0:Nat):Int) by omega),Acr]
 ·rw[decide_eq_false h];rfl
def wi{Ex:Nat->Nat->LA->LA->O R}(hE:Ex=fun h f ac ad=>Hm N r0 a c d h f g b N d ac ad):∀ n,F6 N r0 a c d g b n=uz a c d b (r0 rj false) Ex n
|0=>rfl
|n+1=>by rw[F6,wi hE n];subst hE;rfl
def ro(a:Int)(z:Nat):Bool:=(decide (0<=a))&&((decide (a<=a))&&((decide (a<=140737488355328))&&(decide ((a*(z:Int))<=140737488355328))))
def mG{H z:Nat}(hH:H<=1000)(k:z<=1000):ro (H:Int) z=true:=by
 unfold ro
 have:H*z<=1000*1000:=Aa4 hH k
 have:((H*z:Nat):Int)<=140737488355328:=by omega
 rw[Int.natCast_mul]at this
 rw[decide_eq_true (show(0:Int)<=(H:Int) by omega),decide_eq_true (show(H:Int)<=(H:Int) by omega),decide_eq_true (show(H:Int)<=140737488355328 by omega),decide_eq_true this];rfl
def wk{h f:Nat}{Ex:LA->LA->O R}(hE:Ex=fun i j=>cond (ro a 8) (cond (ro a 56) (cond (ro a 56) (Am .i64 (b.drop 21) fun bx=>Hl N r0 a c d h f g b i j N bx c a.toNat a.toNat a.toNat (replicate a.toNat Ahg) (List.flatten (replicate a.toNat ([.bool false,.nsl,.nsl]:LA))) (List.flatten (replicate a.toNat ([.bool false,.nsl,.nsl]:LA)))) none) none) none):∀ n,Hm N r0 a c d h f g b n=wg c b h f Ex n
|0=>rfl
|n+1=>by rw[Hm,wk hE n];subst hE;rfl
def yF{k5:Int->Int->Nat->Nat->Nat->LA->LA->LA->O R}{h f:Nat}{i j:LA}{l m o:Nat}{p q r:LA}{ao aj t ar:Int}:Ml N k5 r0 a c d h f g b i j l m o p q r ao aj t ar=vX a c b [] 0 k5 N l m o p q r ao aj t ar:=by
 have e8:∀ x ah aq:Int,Y2 N k5 r0 a c d h f x g b i j l m o p q r ah aq=sA a b [] 0 k5 N x l m o p q r ah aq:=fun x ah aq=>by
  unfold sA;rw[rn,cf];rfl
 unfold vX Ml Vn
 rw[rn,cf]
 refine congrArg (cond _ none) ?_
 unfold wh Y3 Vm
 simp only[e8]
def wl{h f:Nat}{i j:LA}:∀ n,Hl N r0 a c d h f g b i j n=vA a c d b [] 0 N r0 h f i j n
|0=>rfl
|n+1=>by
  rw[Hl,wl n,vA]
  funext ak ab l m o p q r
  unfold Vo sv
  simp only[yF]
end
section
variable{r0:LA->Bool->O R}{u:UnitD}{hh:Int}{g:Bool}
def JH(H:Nat):(List.flatten (replicate H ([.bool false,.nsl,.nsl]:LA)))=(replicate H oq).flatMap RatD.av:=by rw[List.flatMap_def,Ae7];rfl
def vB{H j i:Nat}(C:Bc u hh=true)(hH:H<=1000)(D:j+i<H)(hN:4000<=N)(f:Mz (un u) H j i<Bz (un u) j i->r0 rj false=X)
  (k:¬ Mz (un u) H j i<Bz (un u) j i->∀(St:List Int)(En Re:List RatD),St.length=H->En.length=H->Re.length=H->Nums En->Nums Re->r0 (uw St En Re) true=X):W5 N u.av g (H:Int) (j:Int) ((j+i:Nat):Int) r0=X:=by
 have L:=(Db C).2.1.2.2.2.2.2.2.2.2.2.2.2
 rw[GV];unfold Y4
 rw[show((decide (0<=(H:Int)))&&((decide ((H:Int)<=(H:Int)))&&((decide ((H:Int)<=140737488355328))&&(decide (((H:Int)*((8:Nat):Int))<=140737488355328)))))=true from mG hH (by omega),ct,ct,wi rfl,zG]
 have I:(replicate H Ahg:LA)=Ao (replicate H 0):=by unfold Ao;rw[Ae7]
 rw[I]
 have:=tc (Ex:=fun h f ac ad=>Hm N r0 (H:Int) (j:Int) ((j+i:Nat):Int) h f g u.av N ((j+i:Nat):Int) ac ad) (F:=r0 rj false) (X:=X) C hH D f (fun G lo hi l1 l2 T=>?_) (i+1) 0 N (replicate H 0) (replicate H 0) (by omega) (by omega) (by simp) (by simp) (by omega) (fun t' h=>by omega)
 ·exact this
 ·have st:=Eh (a:=fun _=>0) (b:=fun _=>0) (fi:=j) (My C) i
  have x1:Bz (un u) j i<=Mz (un u) H j i:=by omega
  have x2:Mz (un u) H j i<=Dn (un u) j i:=by
   unfold Mz;split
   ·unfold E3;split<;>omega
   ·exact Ab4 _
  rw[wk rfl]
  refine td (e:=Mz (un u) H j i) C x1 x2 hH D (fun Y hi' q1 q2 hq=>?_) i N lo hi (zE _) (by omega) l1 l2 fun t ht=>?_
  ·rw[mG hH (by omega),mG hH (by omega),ct,ct,ct,vO,wl,zG,I,JH]
   have z:Nums (replicate H oq):=fun d hd=>by
    rw[List.eq_of_mem_replicate hd];exact⟨0,UL⟩
   exact tj (raw:=[]) C x1 x2 hH D hN (by simp) hq (k G) (i+1) 0 N u.output _ _ _ (by omega) (by omega) L (fun _=>rfl) (fun t' h=>by omega) (by simp) (by simp) (by simp) z z
  ·have p:=T t ht
   by_cases e:t=i
   ·subst e
    rw[if_pos (zE _),if_pos (zE _),Adp]
    rw[if_pos rfl]at p;exact p
   ·rw[if_neg (by omega),if_neg (by omega)]
    rw[if_neg e]at p;exact p
end
end
end Gx.Uo
namespace Gx
open Go Go.Proofs
set_option maxRecDepth 100000
section
variable{R:Type}
def nP{l:List RatD}(C:∀ x∈l,x.ok)(h:ow l=true):okR l/\l.length<=30:=by
 simp only[ow,zJ,decide_eq_true_eq,Acb]at h
 refine⟨fun x k=>⟨C x k,rfl,?_⟩,h.1⟩
 have:=h.2 x k
 simp only[rR,zJ,decide_eq_true_eq]at this
 unfold RatD.m;omega
end
end Gx
namespace Gx.Uo
open Go Go.Proofs
noncomputable section
variable{R:Type}{N:Nat}{K:Bool->O R}
def vC{e:Int}(k:e≠0)(C:fit 1000000 N):As N K e rj oq.av e=K true:=by
 unfold As
 rw[nO,show(true==true)=true from rfl,ct,show((cond true (e==e) false)==true)=true by simp,ct,show((e==0)==false)=true by simp[k],ct]
 rw[show ∀ f:LA->Nat->O R,D6 1 rj f=f [] 0 from fun _=>rfl,show ∀ f:LA->Nat->O R,D6 3 (drop 1 rj) f=f [] 0 from fun _=>rfl,show ∀ f:LA->Nat->O R,D6 3 (drop 2 rj) f=f [] 0 from fun _=>rfl]
 rw[show(((wrap .i64 ((wrap .i64 (((0:Nat):Int)+((0:Nat):Int)))+((0:Nat):Int)))==0)==true)=true by decide +kernel,ct,Gx.b3,ct,G_,kE (UL (m:=0)).1 (C.le (by have:=(UL (m:=0)).2.2;omega)),(UL (m:=0)).2.1]
 rfl
def wm{p d:LA}:As N K 0 p d 0=K true:=by
 unfold As
 rw[nO];rfl
def wn(A:List RatD)(h:Nat):Rat:=((A[h]?).map RatD.q).getD 0
def rq{A:List RatD}(o:okR A)(h:Nat)(hh:h<A.length):Pr A h (wn A h):=by
 refine⟨hh,?_⟩
 have e:wn A h=(A[h]).q:=by unfold wn;rw[zD hh];rfl
 have:=o.at hh
 rw[e]
 exact⟨this.1,rfl,by have:=this.2.2;omega⟩
section
variable{h:List UInt8}{i j l:Int}{m:List SegD}{ah b:Bool}{n o p q r s t u v w x y z:Int}{aa:List Int}{ai c:Bool}{ab ac ad:Int}{a d e:Int}{A:List RatD}{ap am:Bool}{B:List RatD}{aq ao:Bool}
def rt{U:UnitD}(hU:U=xp h i j l m b n o p q r s t u v w x y z aa c ab ac ad){ag:Int}{ae af:LA}(ha:aa.length<=20)(T:Bc U a=true->a<=6)(hf:fit 1000000 N)
  (fin:∀ k,TX U a d e A.length B.length=k->As N K ag ae af k=K true) :
  Rd N U.av (b||(c||false)) a (fun bd=>cond (!bd) (As N K ag ae af 1) (cond (((A.length:Int) != a)==false) (Bg N K a d e ag h i j l (m.flatMap SegD.av) m.length ah b n o p q r s t u v w x y z (Ao aa) aa.length ai c ab ac ad ae af (cond false true ((B.length:Int) != a))) (Bg N K a d e ag h i j l (m.flatMap SegD.av) m.length ah b n o p q r s t u v w x y z (Ao aa) aa.length ai c ab ac ad ae af true)))=K true:=by
 have hN:100001000<=N:=by have:=hf.1;omega
 have hal:U.away.l.length=aa.length:=by subst hU;rfl
 rw[YQ (by omega) (by omega) (by omega)]
 have q2t:∀ _:Nat,TX U a d e A.length B.length=4->Bg N K a d e ag h i j l (m.flatMap SegD.av) m.length ah b n o p q r s t u v w x y z (Ao aa) aa.length ai c ab ac ad ae af true=K true:=fun _ h4=>by
  unfold Bg Dj
  rw[ct];exact fin _ h4
 cases C:Bc U a with
|false=>rw[show(!false)=true from rfl,ct];exact fin 1 (t8 C)
| true =>
  rw[show(!true)=false from rfl,cf]
  have T:=T C
  by_cases hE:(A.length:Int)=a
  ·rw[show(((A.length:Int) != a)==false)=true by rw[hE];simp,ct]
   by_cases hQ:(B.length:Int)=a
   ·rw[show(cond false true ((B.length:Int) != a))=false by rw[hQ];simp]
    unfold Bg Dj
    rw[cf]
    have r3:(d<0\/e<d\/a<=e)->Ch N K a d e ag h i j l (m.flatMap SegD.av) m.length ah b n o p q r s t u v w x y z (Ao aa) aa.length ai c ab ac ad ae af true=K true:=fun hh=>by
     unfold Ch Di
     rw[ct];exact fin 3 (t_ C hE hQ hh)
    by_cases c1:d<0
    ·rw[decide_eq_true c1,show(true==false)=false from rfl,cf];exact r3 (.inl c1)
    rw[decide_eq_false c1,show(false==false)=true from rfl,ct]
    by_cases G:d>e
    ·rw[decide_eq_true G,show((cond false true true)==false)=false from rfl,cf];exact r3 (.inr (.inl G))
    rw[decide_eq_false G,show((cond false true false)==false)=true from rfl,ct]
    by_cases c3:e>=a
    ·rw[decide_eq_true c3,show(cond false true true)=true from rfl];exact r3 (.inr (.inr c3))
    rw[decide_eq_false c3,show(cond false true false)=false from rfl]
    have Y:=ta (fi:=d) (la:=e) C hE hQ (by omega)
    unfold Ch Di
    rw[cf,rQ,<-hU]
    have hH:a=(a.toNat:Int):=by omega
    have I:d=(d.toNat:Int):=by omega
    have L:e=((d.toNat+(e - d).toNat:Nat):Int):=by omega
    generalize eH:a.toNat=H at *
    generalize ej:d.toNat=j' at *
    generalize ei:(e - d).toNat=i' at *
    have:=vB (N:=N) (u:=U) (hh:=a) (g:=(b||(c||false))) (H:=H) (j:=j') (i:=i') (X:=K true) (r0:=fun bb bc=>cond ((beq 0 0)&&((beq bb.length 3)&&(beq 3 3))) (cond (!bc) (As N K ag ae af 7) (As N K ag ae af 0)) none) C (by omega) (by omega) (by omega) (fun D=>?_) (fun D St En Re _ _ _ _ _=>?_)
    ·rw[<-hH,<-I,<-L]at this;exact this
    ·rw[show((beq 0 0)&&((beq (List.length rj) 3)&&(beq 3 3)))=true from rfl,ct,show(!false)=true from rfl,ct]
     exact fin 7 (by rw[Y,if_pos D])
    ·rw[show((beq 0 0)&&((beq (List.length (uw St En Re)) 3)&&(beq 3 3)))=true from rfl,ct,show(!true)=false from rfl,cf]
     exact fin 0 (by rw[Y,if_neg D])
   ·rw[show(cond false true ((B.length:Int) != a))=true by simp[hQ]]
    exact q2t 0 (nN C (.inr hQ))
  ·rw[show(((A.length:Int) != a)==false)=false by simp[hE],cf]
   exact q2t 0 (nN C (.inl hE))
def AU(G:fit 1000000 N)(h3:∀ x∈A,x.ok)(h4:∀ x∈B,x.ok):
  E8 N h i j l (m.flatMap SegD.av) m.length ah b n o p q r s t u v w x y z (Ao aa) aa.length ai c ab ac ad a d e (A.flatMap RatD.av) A.length ap am (B.flatMap RatD.av) B.length aq ao K=K true:=by
 have hN:100001000<=N:=by have:=G.1;omega
 rw[Jg];unfold Ep
 by_cases Y:aa.length<=20
 ·rw[show((decide ((aa.length:Int)>20))==false)=true by simp;omega,ct]
  by_cases g2:m.length<=20
  ·rw[show((cond false true (decide ((m.length:Int)>20)))==false)=true by simp;omega,ct,kI rfl (by omega)]
   cases r1:ow A with
   |false=>rfl
   | true =>
    rw[show((cond false true (!true))==false)=true from rfl,ct,kI rfl (by omega)]
    cases r2:ow B with
    |false=>rfl
    | true =>
     rw[show((cond false true (!true))==false)=true from rfl,ct]
     have o1:=nP h3 r1
     have o2:=nP h4 r2
     have body:(a<=6\/24<a)->Ci N K a d e (A.flatMap RatD.av) A.length ap am (B.flatMap RatD.av) B.length aq ao h i j l (m.flatMap SegD.av) m.length ah b n o p q r s t u v w x y z (Ao aa) aa.length ai c ab ac ad=K true:=fun h6=>by
      unfold Ci Fo
      rw[rQ]
      generalize hU:xp h i j l m b n o p q r s t u v w x y z aa c ab ac ad=U
      have hal:U.away.l.length=aa.length:=by subst hU;rfl
      have C:Bc U a=true->a<=6:=fun hv=>by
       have:=(Db hv).2.2;omega
      refine w8 (a:=wn A) (b:=wn B) (by omega) C (rq o1.1) (rq o2.1) G (fun k I L=>?_) fun I St En Re dd _ _=>?_
      ·rw[show((beq 0 0)&&((beq (List.length rj) 3)&&(beq 3 3)))=true from rfl,ct,Gx.c3,ct]
       refine rt hU.symm Y C G fun T D=>?_
       obtain rfl:k=T:=I.symm.trans D
       exact vC L G
      ·rw[show((beq 0 0)&&((beq (List.length (uw St En Re)) 3)&&(beq 3 3)))=true from rfl,ct,Gx.c3,ct]
       refine rt hU.symm Y C G fun T D=>?_
       obtain rfl:0=T:=I.symm.trans D
       exact wm
     by_cases c1:a>6
     ·rw[show(decide (a>6)==true)=true by simp[c1],ct]
      by_cases c2:a<=24
      ·rw[show(cond false true (cond true (decide (a<=24)) false))=true by simp[c2],ct]
      ·rw[show(cond false true (cond true (decide (a<=24)) false))=false by simp[c2],cf]
       exact body (.inr (by omega))
     ·rw[show(decide (a>6)==true)=false by simp[c1],cf]
      exact body (.inl (by omega))
  ·rw[show((cond false true (decide ((m.length:Int)>20)))==false)=false by simp;omega];rfl
 ·rw[show((decide ((aa.length:Int)>20))==false)=false by simp;omega];rfl
end
end
end Gx.Uo
namespace Gx
open Go Go.RowKit
def gy{P:Program}{t:TypeId}(C:P.underlying t=some .string)(hc:P.cellsOf t=1):Opens P t (α:={s:Lu // s.length<=maxLen}) (fun s=>[.str s.1]) 1:=by
 refine⟨hc,by omega,fun _=>rfl,fun enc W k cs d ps h=>?_⟩
 obtain⟨s,rfl,_,D⟩:=DataW.trod_string C h
 refine⟨rfl,⟨s.data.toList,D⟩,?_⟩
 simp[RepCs,RepC]
def Opens.map{P:Program}{t:TypeId}{α β:Type}{e:α->LA}{n:Nat}(h:Opens P t e n)(e':β->LA)(g:α->β)(C:∀ a,e a=e' (g a))(D:∀ b,(e' b).length=n):Opens P t e' n:=by
 refine⟨h.size,h.pos,D,fun enc W k cs d ps G=>?_⟩
 obtain⟨I,a,L⟩:=h.read enc W k cs d ps G
 exact⟨I,g a,by rw[<-C];exact L⟩
structure OpensF(P:Program)(fs:List Field)(off:Nat){α:Type}(e:α->List AV)(n:Nat):Prop where
 len:∀ a,(e a).length=n
 read:∀{H:Type}(enc:TypeId×Value->H)(W:World)(fuel:Nat)(cs:List Value),(∀(i:Nat)(f:Field),fs[i]?=some f->∃ d ps,DataW.trod enc P W 0 (fun _=>true) true fuel f.type ((cs.drop f.offset).take (P.cellsOf f.type))=some (d,ps)) ->
  ∃ a,RepCs (fun k=>k<W.heap.size) W (e a) (fun j=>cs[j]?) off
def Zh{P:Program}{off:Nat}:OpensF P [] off (α:=Unit) (fun _=>[]) 0:=⟨fun _=>rfl,fun _ _ _ _ _=>⟨(),by simp[RepCs]⟩⟩
def Ax{P:Program}{f:Field}{fs:List Field}{off:Nat}{α β:Type}{e:α->LA}{n:Nat}{e':β->LA}{m:Nat}(ho:f.offset=off)(C:Opens P f.type e n)(T:OpensF P fs (off+n) e' m):
  OpensF P (f::fs) off (α:=α×β) (fun p=>e p.1++e' p.2) (n+m):=by
 refine⟨fun p=>by rw[zq,C.len,T.len],fun enc W k cs h=>?_⟩
 obtain⟨d,ps,hd⟩:=h 0 f rfl
 obtain⟨hl,a,Y⟩:=C.read enc W k _ _ _ hd
 obtain⟨b,hb⟩:=T.read enc W k cs fun i g hg=>h (i+1) g (by simpa using hg)
 refine⟨(a,b),?_⟩
 rw[Bh]at Y hb ⊢
 intro j x I
 by_cases G:j<n
 ·rw[Ace (by rw[C.len];exact G)]at I
  obtain⟨u,D,L⟩:=Y j x I
  refine⟨u,?_,L⟩
  simp only[zU]at D
  rw[C.size,Acj G,zk,ho]at D
  exact D
 ·rw[Ab5 (by rw[C.len];omega),C.len]at I
  obtain⟨u,D,L⟩:=hb (j - n) x I
  refine⟨u,?_,L⟩
  rw[show off+n+(j - n)=off+j by omega]at D
  exact D
def Qx{P:Program}{t:TypeId}{fs:Array Field}{α:Type}{e:α->LA}{n:Nat}(I:P.underlying t=some (.struct fs))(hc:P.cellsOf t=n)(L:0<n)(h:OpensF P fs.toList 0 e n):Opens P t e n:=by
 refine⟨hc,L,h.len,fun enc W D cs d ps T=>?_⟩
 obtain⟨xs,g,_,_,Y,k,hf⟩:=DataW.trod_struct I T
 refine⟨by rw[Y,hc],?_⟩
 exact h.read enc W g cs fun i f hi=>by
  have G:fs[i]?=some f:=by simpa using hi
  have:=hf i f G
  have C:i<xs.length:=by
   rw[k];exact(Aao.1 G).1
  rw[zD C]at this
  exact⟨_,_,this⟩
end Gx
namespace Gx
open Go Go.RowKit
section
variable{P:Program}{W:World}{H:Type}{enc:TypeId×Value->H}{β:Bt}{h:Ap}
def bG{t:TypeId}{fs:Array Field}{k:Nat}{r:Reach}{v:Value}(C:P.underlying t=some (.struct fs))(h:Value.okWide P W r k t v):∃ cs,v=.agg cs:=by
 unfold Value.okWide at h
 rw[C]at h
 obtain⟨cs,h,_⟩:=h
 exact⟨cs,h⟩
def rx{J:Nat->Prop}:∀{x:AV}{u:Value},RepC J W x u->Rep (fun _=>J) β h W x u
|.int ..,_,h=>by rw[Rep];rw[RepC]at h;exact h
|.bool _,_,h=>by rw[Rep];rw[RepC]at h;exact h
|.str _,_,h=>by rw[Rep];rw[RepC]at h;exact h
|.nsl,_,h=>by rw[Rep];rw[RepC]at h;exact h
|.imm ..,_,h=>by rw[Rep];exact h
|.iptr ..,_,h=>by rw[Rep];exact h
|.nilptr,_,h=>by rw[Rep];rw[RepC]at h;exact h
|.nilfn,_,h=>by rw[Rep];rw[RepC]at h;exact h
|.fn f [],_,h=>by
  rw[Rep];rw[RepC]at h
  exact⟨[],by simpa using h,by rw[Reps]⟩
|.fn _ (_::_),_,h=>by simp[RepC]at h
|.pagg ..,_,h=>by simp[RepC]at h
|.agg _,_,h=>by simp[RepC]at h
|.tup _,_,h=>by simp[RepC]at h
|.own ..,_,h=>by simp[RepC]at h
|.omap _,_,h=>by simp[RepC]at h
|.optr ..,_,h=>by simp[RepC]at h
|.undef,_,h=>by simp[RepC]at h
def nR{J:Nat->Prop}:∀{c:LA}{cs:List Value}{rd:Nat->Option Value}{i:Nat},cs.length=c.length->(∀ j,cs[j]?=rd (i+j))->RepCs J W c rd i->Reps (fun _=>J) β h W c cs
|[],cs,_,_,k,_,_=>by rw[Reps];simpa using k
|x::r,[],_,_,k,_,_=>by simp at k
|x::r,u::us,rd,i,k,D,hc=>by
  rw[RepCs]at hc
  obtain⟨⟨L,C,I⟩,hc⟩:=hc
  have G:=D 0
  simp only[List.getElem?_cons_zero,zg]at G
  rw[<-G]at C
  cases C
  rw[Reps]
  refine⟨u,us,rfl,rx I,nR (by simpa using k) (fun j=>?_) hc⟩
  have:=D (j+1)
  rw[List.getElem?_cons_succ]at this
  rw[this];congr 1;omega
def sx{c:LA}{v:Value}(C:Rep (fun _ k=>k<W.heap.size) β h W (.pagg c false) v):Rep (fun _ k=>k<W.heap.size) β h W (.agg c) v:=by
 rw[Rep]at C
 obtain⟨cs,D,G,hc⟩:=C
 rw[Rep]
 exact⟨cs,D,nR G (fun j=>by rw[zU]) hc⟩
end
end Gx
namespace Gx
open Go Go.Proofs Go.RowKit
def wo{W:World}:GlobOk (fun _ k=>k<W.heap.size) W:=⟨(fun _ C=>by cases C),(fun _ D=>by cases D)⟩
def ry{n:Int}(h:(Lit.int .u32 n).wf=true):0<=n/\n<4294967296:=by simp only[Lit.wf,zJ,decide_eq_true_eq,show IntKind.u32.min=0 from rfl,show IntKind.u32.max=4294967295 from rfl]at h;omega
section
variable{W:World}{H:Type}{enc:TypeId×Value->H}{β:Bt}{h:Ap}
def mH:Opens Tryz.prog 129 (α:={n:Nat // n<4294967296}) (fun n=>[.int .u32 (n.1:Int)]) 1:=(cA Tryz.underlying129 (by kernel_rfl)).map _ (fun n=>⟨n.1.toNat,by have:=ry n.2;omega⟩) (fun n=>by have:=ry n.2;simp;omega) (fun _=>rfl)
def dX:∀ l:List {n:Nat // n<4294967296},l.flatMap (fun n=>[AV.int .u32 (n.1:Int)])=Ad (l.map (·.1))
|[]=>rfl
|a::r=>by rw[Aad,dX r];rfl
def SL:Opens Tryz.prog 32 (α:={l:List Nat // Ag l}) (fun l=>[.imm (Ad l.1) l.1.length 1 false false]) 1:=(Tt Tryz.underlying32 (by kernel_rfl) mH).map _ (fun l=>⟨l.1.map (·.1),fun x k=>by obtain⟨y,_,rfl⟩:=zr.1 k;exact y.2⟩) (fun l=>by show [AV.imm (l.1.flatMap fun n=>[AV.int .u32 (n.1:Int)]) l.1.length 1 false false]=[AV.imm (Ad (l.1.map (·.1))) (l.1.map (·.1)).length 1 false false];rw[dX,Aa5]) (fun _=>rfl)
def pG:Opens Tryz.prog 36 (α:={x:RatD // x.ok}) (fun x=>x.1.av) 3 :=
 (Qx Tryz.underlying36 (by kernel_rfl) (by decide) (Ax rfl (Qx Tryz.underlying34 (by kernel_rfl) (by decide) (Ax rfl (lN Tryz.underlying4 (by kernel_rfl)) (Ax rfl SL Zh)))
  (Ax rfl SL Zh))).map _ (fun p=>⟨⟨p.1.1,.of p.1.2.1.1 false false,.of p.2.1.1 false false⟩,p.1.2.1.2,p.2.1.2⟩) (fun _=>rfl) (fun _=>rfl)
end
end Gx
namespace Gx
open Go Go.Proofs Go.RowKit
section
variable{W:World}{H:Type}{enc:TypeId×Value->H}{β:Bt}{h:Ap}
def Du:Opens Tryz.prog 3 qe 1:=(cA Tryz.underlying3 (by kernel_rfl)).map qe (fun n=>n.1) (fun _=>rfl) (fun _=>rfl)
def pH:Opens Tryz.prog 71 SegD.av 2:=(Qx Tryz.underlying71 (by kernel_rfl) (by decide) (Ax rfl Du (Ax rfl Du Zh))).map SegD.av (fun p=>⟨p.1,p.2.1⟩) (fun _=>rfl) (fun _=>rfl)
def pI{v:Value}{d:DataW H}{p:List MemPlace}(C:∃ cs,v=.agg cs)(D:DataW.Trod enc Tryz.prog W 0 (fun _=>true) true 26 v d p):
  ∃(a:Lu)(b d e:Int)(sg:List SegD)(g i j l m t u w n o x p q:Int)(aw:List Int)(z aa r:Int),Rep (fun _ k=>k<W.heap.size) β h W (.agg [AV.str a,.int .i64 b,.int .i64 d,.int .i64 e,.imm (sg.flatMap SegD.av) sg.length 2 false false,.int .i64 g,.int .i64 i,.int .i64 j,.int .i64 l,.int .i64 m,.int .i64 t,.int .i64 u,.int .i64 w,.int .i64 n,.int .i64 o,.int .i64 x,.int .i64 p,.int .i64 q,.imm (Ao aw) aw.length 1 false false,.int .i64 z,.int .i64 aa,.int .i64 r]) v:=by
 obtain⟨cs,rfl⟩:=C
 obtain⟨⟨⟨a,_⟩,b,d,e,⟨sg,_⟩,g,i,j,l,m,t,u,w,n,o,x,p,q,⟨aw,_⟩,z,aa,r,_⟩,G⟩:=qN (β:=β) (h:=h) (Qx (P:=Tryz.prog) Tryz.underlying26 (by kernel_rfl) (by decide)
   (Ax rfl (gy Tryz.underlying9 (by kernel_rfl)) (Ax rfl Du (Ax rfl Du (Ax rfl Du
   (Ax rfl (Tt Tryz.underlying24 (by kernel_rfl) pH)
   (Ax rfl Du (Ax rfl Du (Ax rfl Du (Ax rfl Du (Ax rfl Du (Ax rfl Du (Ax rfl Du (Ax rfl Du (Ax rfl Du (Ax rfl Du (Ax rfl Du (Ax rfl Du (Ax rfl Du
   (Ax rfl (Tt Tryz.underlying22 (by kernel_rfl) Du)
   (Ax rfl Du (Ax rfl Du (Ax rfl Du Zh))))))))))))))))))))))) D
 refine⟨a,b,d,e,sg,g,i,j,l,m,t,u,w,n,o,x,p,q,aw,z,aa,r,?_⟩
 rw[<-Rc]
 exact sx G
def dY:∀ l:List {x:RatD // x.ok},l.flatMap (fun x=>x.1.av)=(l.map (·.1)).flatMap RatD.av
|[]=>rfl
|a::r=>by rw[Aad,dY r];rfl
def sy(l:List {x:RatD // x.ok}):∀ x∈l.map (·.1),x.ok:=fun x k=>by obtain⟨y,_,rfl⟩:=zr.1 k;exact y.2
def dZ{a:Option Addr}{len cap:Nat}{d:DataW H}{p:List MemPlace}(C:DataW.Trod enc Tryz.prog W 0 (fun _=>true) true 29 (.slice a len cap) d p):
  ∃ l:List RatD,(∀ x∈l,x.ok)/\Rep (fun _ k=>k<W.heap.size) β h W (.imm (l.flatMap RatD.av) l.length 3 false false) (.slice a len cap):=by
 obtain⟨l,_,D⟩:=sN (β:=β) (h:=h) Tryz.underlying29 (by kernel_rfl) pG C
 refine⟨l.map (·.1),sy l,?_⟩
 rw[<-dY,Aa5];exact D
end
end Gx
namespace Gx
open Go
def am{a b:Bool}(k:a=true)(C:b=true):(a&&b)=true:=by rw[k,C];rfl
def vD{P:Program}(h2:laidOutB P=true)(h3:mapsRowed P=true)(h7:(P.stops==[])=true)(h9:(P.stopKnobs==[])=true)(C:P.stopsHeard=true)(D:P.mayEnter=true){f:FuncId}{fn:Func}{s:ChangeSpec}{c:OpenClaim}(G:(c.inPlace==P.inPlace f)=true)(I:(c.unfollowed==P.unfollowed f)=true)(L:(c.recurses==P.recurses f)=true)(T:(c.named==P.varsNamed f)=true)
  (Y:(c.lifted==P.liftsFinal)=true) (h28:(P.make==some c.make)=true) (h23:(c.plainKeys==P.plainKeys)=true)
  (h1:c.wf (OpenSpec.ofChange s)=true) (h4:fn.params.all (P.readableRec ·)=true) (h5:namedTie P c.named s.vars=true) (h6:(c.stops==[])=true) (h8:(c.knobs==[])=true)
  (h14:(c.maps==(fn.params.toList++s.plain.varTypes P).any (P.mapsRec ·))=true) (h15:(c.ifaces==(fn.params.toList++s.plain.varTypes P).any (P.ifacesRec ·))=true) (h16:(c.mapsOut==P.mapsAmong fn.resultTypes.toList)=true)
  (h17:(c.loops==(fn.params.toList++s.plain.varTypes P).any (P.loopsFrom ·))=true) (h18:(c.wideKeys==(fn.params.toList++s.plain.varTypes P++fn.resultTypes.toList).any (P.wideKeysFrom ·))=true)
  (h19:s.vars.all (P.varReadable ·)=true) (h20:fn.resultTypes.all (fun t=>P.readableRec t&&decide (t<P.types.size))=true) (h21:(c.ifacesOut==fn.resultTypes.toList.any (P.ifacesRec ·))=true) (h22:(c.loopsOut==fn.resultTypes.toList.any (P.loopsFrom ·))=true)
  (h24:c.shortTexts.isNone=true) (h29:(c.kinds==(if c.domain.isEmpty then []else fn.params.toList.map fun t=>match P.underlying t with|some (.int k)=>some k|_=>none))=true) (h30:(c.pinned==c.pinnedBy)=true)
  (h31:(c.veiled==(fn.params.toList++s.plain.varTypes P++fn.resultTypes.toList).any (P.veiledRec ·))=true) (h32:c.veiledFits P fn.params.toList (fn.params.toList++s.plain.varTypes P++fn.resultTypes.toList)=true):joinedFacts P f fn s c=true:=by
 unfold joinedFacts
 exact am (am (am (am (am (am (am (am (am (am (am (am (am (am (am (am (am (am (am (am (am (am (am (am (am (am (am (am (am (am (am h1 h2) h3) h4) h5) h6) h7) h8) h9) G) I) L) T) h14) h15) h16) h17) h18) h19) h20) h21) h22) h23) h24) C) D) Y) h28) h29) h30) h31) h32
end Gx
