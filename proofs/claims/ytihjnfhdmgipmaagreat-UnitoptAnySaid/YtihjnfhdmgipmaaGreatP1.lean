/- A part of the proof; each theorem says what it holds. -/
import Derived.Scope
import Derived.ProofKit
import Derived.OpenShut
import Derived.ChangeOld
import Derived.Below
import Derived.Lib.LaidTab
import Derived.Test.YtihjnfhdmgipmaaGreatProg
import Derived.IntWalk
import Derived.Test.YtihjnfhdmgipmaaGreatP0
set_option linter.unusedVariables false
set_option linter.defProp false
set_option linter.unusedSimpArgs false
open Nat (ble beq)
open List (take drop replicate)
open Go.IntKind (wrap)
namespace Gx
open Go
def cF(ρ:Nat->Nat):∀ c:LA,(Qd ρ c).length=c.length
|[]=>rfl
|x::r=>by rw[Qd,A3a,A3a,cF ρ r]
def Mf(ρ:Nat->Nat)(x:Blk):(Km ρ x).cells.length=x.cells.length:=by
 unfold Km;cases x.pure
 ·simp;exact cF _ _
 ·rfl
def xM{ρ:Nat->Nat}:∀{c:LA}{j:Nat}{y:AV},(Qd ρ c)[j]?=some y->∃ x,c[j]?=some x/\y=Qw ρ x
|[],j,y,k=>by simp[Qd]at k
|x::r,j,y,k=>by
  rw[Qd]at k
  cases j with
  |zero=>simp at k;exact⟨x,by simp,k.symm⟩
  |succ j=>obtain⟨x',D,G⟩:=xM (c:=r) (j:=j) (by simpa using k);exact⟨x',by simpa using D,G⟩
section
variable{R:Type}{r:R}{J J':Bool->Nat->Prop}{β β':Cr}{h h':Ap}{w w':World}{ids:List Nat}{ρ:Nat->Nat}
def Nh{g:Bp}:∀{ids:List Nat},(ids.map ρ).Nodup->∀ c y,Ai (sub g ρ ids) c=some y->∃ b x,b∈ids/\ρ b=c/\g b=some x/\y=Km ρ x
|[],_,c,y,hc=>by simp[sub,Ai]at hc
| b::r,k,c,y,hc=>by
  rw[A3o,A4b]at k
  rw[sub]at hc
  split at hc
  ·rename_i x Y
   rw[Ah]at hc
   by_cases e:c=ρ b
   ·rw[if_pos e]at hc;simp at hc
    exact⟨b,x,by simp,e.symm,Y,hc.symm⟩
   ·rw[if_neg e]at hc
    obtain⟨D,x',G,I,L,T⟩:=Nh k.2 c y hc
    exact⟨D,x',by simp[G],I,L,T⟩
  ·obtain⟨D,x',G,I,L,T⟩:=Nh k.2 c y hc
   exact⟨D,x',by simp[G],I,L,T⟩
def Xz{g:Bp}:∀{ids:List Nat},(ids.map ρ).Nodup->∀ b x,b∈ids->g b=some x->Ai (sub g ρ ids) (ρ b)=some (Km ρ x)
|[],_,b,x,D,_=>by simp at D
| L::r,k,b,x,D,G=>by
  rw[A3o,A4b]at k
  rw[sub]
  by_cases e:b=L
  ·subst e
   rw[G]
   simp only
   rw[Ah,if_pos rfl]
  ·have I:b∈r:=by simpa[e]using D
   have ne:ρ b≠ρ L:=fun h=>k.1 (by rw[<-h];exact A3w.2 ⟨b,I,rfl⟩)
   split
   ·rw[Ah,if_neg ne];exact Xz k.2 b x I G
   ·exact Xz k.2 b x I G
def Ao9(ρ:Nat->Nat)(ids:List Nat)(c:Nat):Option Nat:=ids.find? fun b=>beq (ρ b) c
def Apa(k:(ids.map ρ).Nodup){b:Nat}(D:b∈ids):Ao9 ρ ids (ρ b)=some b:=by
 induction ids with
|nil=>simp at D
| cons i r G =>
  rw[A3o,A4b]at k
  unfold Ao9 at G ⊢
  rw[A7x]
  by_cases e:b=i
  ·subst e;simp
  ·have I:b∈r:=by simpa[e]using D
   have ne:ρ i≠ρ b:=fun h=>k.1 (by rw[h];exact A3w.2 ⟨b,I,rfl⟩)
   rw[PX ne];exact G k.2 I
def NK(ρ:Nat->Nat)(ids:List Nat)(β:Cr):Cr:=fun c=>(Ao9 ρ ids c).bind β
def G2(k:(ids.map ρ).Nodup){b:Nat}(D:b∈ids):NK ρ ids β (ρ b)=β b:=by unfold NK;rw[Apa k D];rfl
mutual
def Rep.ren(hn:(ids.map ρ).Nodup):∀{x:AV}{v:Value},(∀ b∈Em x,b∈ids)->Rep J β h w x v->Rep J (NK ρ ids β) (sub (Ai h) ρ ids) w (Qw ρ x) v
|.own b off n,v,hm,hr=>by
  rw[Rep]at hr
  obtain⟨x,A,cap,⟨hx,hmp⟩,h1,h2,h3⟩:=hr
  have hb:=hm b (by simp[Em])
  rw[Qw,Rep]
  refine⟨Km ρ x,A,cap,⟨Xz hn b x hb hx,hmp⟩,h1,h2,?_⟩
  rw[Mf,G2 hn hb]
  exact h3
|.optr b off,v,hm,hr=>by
  rw[Rep]at hr
  obtain⟨x,k,o,⟨hx,hmp⟩,h1,h2⟩:=hr
  have hb:=hm b (by simp[Em])
  rw[Qw,Rep]
  refine⟨Km ρ x,k,o,⟨Xz hn b x hb hx,hmp⟩,h1,?_⟩
  rw[G2 hn hb]
  exact h2
|.omap b,v,hm,hr=>by
  rw[Rep]at hr
  obtain⟨x,k,⟨hx,hmp⟩,h2⟩:=hr
  have hb:=hm b (by simp[Em])
  rw[Qw,Rep]
  refine⟨Km ρ x,k,⟨Xz hn b x hb hx,hmp⟩,?_⟩
  rw[G2 hn hb]
  exact h2
|.agg c,v,hm,hr=>by
  rw[Rep]at hr
  obtain⟨cs,h1,h2⟩:=hr
  rw[Qw,Rep]
  exact⟨cs,h1,Reps.ren hn (by simpa[Em]using hm) h2⟩
|.tup c,v,hm,hr=>by
  rw[Rep]at hr
  obtain⟨cs,h1,h2⟩:=hr
  rw[Qw,Rep]
  exact⟨cs,h1,Reps.ren hn (by simpa[Em]using hm) h2⟩
|.fn f c,v,hm,hr=>by
  rw[Rep]at hr
  obtain⟨cs,h1,h2⟩:=hr
  rw[Qw,Rep]
  exact⟨cs,h1,Reps.ren hn (by simpa[Em]using hm) h2⟩
|.pagg c o,v,hm,hr=>by show Rep J _ _ w (.pagg c o) v;rw[Rep]at hr ⊢;exact hr
|.undef,v,hm,hr=>by show Rep J _ _ w .undef v;rw[Rep]at hr ⊢;exact hr
|.imm c n sz t o,v,hm,hr=>by show Rep J _ _ w (.imm c n sz t o) v;rw[Rep]at hr ⊢;exact hr
|.iptr c o,v,hm,hr=>by show Rep J _ _ w (.iptr c o) v;rw[Rep]at hr ⊢;exact hr
|.int k n,v,hm,hr=>by show Rep J _ _ w (.int k n) v;rw[Rep]at hr ⊢;exact hr
|.bool b,v,hm,hr=>by show Rep J _ _ w (.bool b) v;rw[Rep]at hr ⊢;exact hr
|.str s,v,hm,hr=>by show Rep J _ _ w (.str s) v;rw[Rep]at hr ⊢;exact hr
|.nsl,v,hm,hr=>by show Rep J _ _ w .nsl v;rw[Rep]at hr ⊢;exact hr
|.nilptr,v,hm,hr=>by show Rep J _ _ w .nilptr v;rw[Rep]at hr ⊢;exact hr
|.nilfn,v,hm,hr=>by show Rep J _ _ w .nilfn v;rw[Rep]at hr ⊢;exact hr
def Reps.ren(hn:(ids.map ρ).Nodup):∀{c:List AV}{cs:List Value},(∀ b∈Fv c,b∈ids)->Reps J β h w c cs->Reps J (NK ρ ids β) (sub (Ai h) ρ ids) w (Qd ρ c) cs
|[],cs,hm,hr=>by rw[Reps]at hr;rw[Qd,Reps];exact hr
|x::r,cs,hm,hr=>by
  rw[Reps]at hr
  obtain⟨u,us,h1,h2,h3⟩:=hr
  rw[Qd,Reps]
  exact⟨u,us,h1,Rep.ren hn (fun b hb=>hm b (by simp[Fv,hb])) h2,Reps.ren hn (fun b hb=>hm b (by simp[Fv,hb])) h3⟩
end
def SimH.ren(S:SimH J β h w)(G:(ids.map ρ).Nodup)(hin:∀ b∈Kl (Ai h) ids,b∈ids):SimH J (NK ρ ids β) (sub (Ai h) ρ ids) w:=by
 refine⟨S.jlt,S.jft,S.gl,fun c y hy hd hm=>?_,fun c y hy hd hm=>by
   obtain⟨b,x,I,rfl,T,rfl⟩:=Nh G c y hy
   obtain⟨Y,g2,k,ob,g3,g4,g5,g6⟩:=S.mblk b x T hd hm
   have:(Km ρ x).cells=x.cells:=by unfold Km;rw[Y];rfl
   exact⟨Y,g2,k,ob,by rw[G2 G I];exact g3,g4,by rw[ObjIs,show(Km ρ x).sz=x.sz from rfl,this];exact g5,g6⟩,?_⟩
 ·obtain⟨b,x,I,rfl,T,rfl⟩:=Nh G c y hy
  rcases S.blk b x T hd hm with⟨Y,g2⟩|⟨k,o,cs,ty,fr,Y,g2,g3,g4,g5,g6,g7⟩
  ·refine .inl ⟨by rw[G2 G I];exact Y,?_⟩
   have:=Mf ρ x;rw[g2]at this;simpa using this
  ·refine .inr ⟨k,o,cs,ty,fr,by rw[G2 G I];exact Y,g2,g3,by rw[Mf];exact g4,⟨fun hp=>?_,fun hp j q hj=>?_⟩,g6,g7⟩
   ·have D:x.pure=true:=hp
    have:(Km ρ x).cells=x.cells:=by unfold Km;rw[D];rfl
    rw[this];exact g5.1 D
   ·have D:x.pure=false:=hp
    have:(Km ρ x).cells=Qd ρ x.cells:=by unfold Km;rw[D];rfl
    rw[this]at hj
    obtain⟨q',hq,rfl⟩:=xM hj
    obtain⟨u,hu,hr,ho⟩:=g5.2 D j q' hq
    exact⟨u,hu,Rep.ren G (fun b' L=>hin b' (UF I T D b' (iE hq b' L))) hr,ho⟩
 ·intro c c' y y' k o o' hy hy' hd hd' hs hβ hβ'
  obtain⟨b,x,I,rfl,T,rfl⟩:=Nh G c y hy
  obtain⟨b',x',L,rfl,hx',rfl⟩:=Nh G c' y' hy'
  rw[G2 G I]at hβ
  rw[G2 G L]at hβ'
  rw[S.sep b b' x x' k o o' T hx' hd hd' hs hβ hβ']
def zR(D:(ids.map ρ).Nodup){k:Nat}(I:Ace (NK ρ ids β) (sub (Ai h) ρ ids) k):Ace β h k:=by
 obtain⟨c,y,o,L,T,hs,G⟩:=I
 obtain⟨b,x,Y,rfl,hx,rfl⟩:=Nh D c y L
 rw[G2 D Y]at G
 exact⟨b,x,o,hx,T,hs,G⟩
end
end Gx
namespace Gx
open Go
def O1{ids:List Nat}:∀{l:List Nat},NB ids l=true->∀ b∈l,b∈ids
|[],_,b,k=>by simp at k
|i::r,h,b,k=>by
  rw[NB]at h
  simp at h
  rcases A28.1 k with rfl|k
  ·exact Ht.1 h.1
  ·exact O1 h.2 b k
def Zo{d:Nat}:∀{l:List Nat}{base b:Nat},b∈l->base<=Gz d (An base l) b/\Gz d (An base l) b<base+l.length
|[],base,b,k=>by simp at k
| i::r,base,b,k=>by
  rw[An,Gz]
  cases hi:beq i b with
  |true=>simp
  | false =>
   have D:=W1 hi
   have G:b∈r:=by
    rcases A28.1 k with h|h
    ·exact absurd h.symm D
    ·exact h
   have:=Zo (d:=d) (base:=base+1) G
   simp only[cond_false,A3a]
   omega
def Acz{free ids:List Nat}{b:Nat}(h:GD free b=true):Zh free ids b=b:=by unfold Zh;rw[h];rfl
def zT{free ids:List Nat}{b:Nat}(h:GD free b=false)(k:b∈ids):300000<=Zh free ids b:=by
 unfold Zh Ao1;rw[h]
 exact(Zo (A5g.2 ⟨k,by simp[h]⟩)).1
def qr{b:Nat}:qF b=true↔100000<=b/\b<200000:=by unfold qF;simp
def lU{free ids:List Nat}{b c:Nat}(D:b∈ids)(hc:100000<=c/\c<200000)(k:Zh free ids b=c):b=c:=by
 cases hr:GD free b with
|true=>rw[Acz hr]at k;exact k
|false=>have:=zT hr D;omega
def GI{ρ:Nat->Nat}{K:List Nat}:∀{s:Gv}{i:Nat},Fu (Ao2 ρ K s) i=if Dj K i=true then Qw ρ (Fu s i)else .undef
|[],i=>by
  show AV.undef=if Dj K i=true then Qw ρ .undef else AV.undef
  simp[Qw]
| (t,v)::r,i=>by
  rw[Ao2]
  by_cases e:t=i
  ·subst e
   cases k:Dj K t with
   |true=>simp[Fu]
   |false=>simp only[cond_false];rw[GI];simp[k]
  ·have D:beq t i=false:=PX e
   cases k:Dj K t with
   |true=>simp only[cond_true,Fu,D,cond_false];exact GI
   |false=>simp only[cond_false,Fu,D];exact GI
def Ac0{g:Bp}{l:List Nat}{b:Nat}(h:b∈CD g l):∃ x,g b=some x/\x.dead=false:=by
 unfold CD at h
 obtain⟨_,k⟩:=A5g.1 h
 unfold Iu at k
 cases D:g b with
|none=>simp[D]at k
|some x =>
  cases G:x.dead with
  |false=>exact⟨x,rfl,G⟩
  |true=>simp[D,G]at k
section
variable{Z:Start}{nt:Nat}{J:Bool->Nat->Prop}{β:Cr}{st st':St}{a:Act}{w:World}
def AV.isz:AV->Nat
|.imm _ _ s _ _=>s
|_=>0
def Ni{live:List Nat}:∀(nils:List (Nat×Nat)){st:St}{J:Bool->Nat->Prop}{β:Cr},Inv Z nt J β st a w->IS live nils st=some st'->∃ J' β',Inv Z nt J' β' st' a w
|[],st,J,β,I,hh=>by simp[IS]at hh;subst hh;exact⟨J,β,I⟩
| (t,sz)::r,st,J,β,I,hh=>by
  rw[IS]at hh
  cases T:ble 1000000 sz with
  | true =>
   rw[T,cond_true]at hh
   split at hh
   ·rename_i hm hs
    refine Ni r (J:=J) (β:=β) (st:={s:=PO st.s t (.imm [] 0 (sz - 1000000) false false),h:=st.h}) ?_ hh
    refine {I with ss:=⟨fun i v D=>?_,fun i hi=>?_⟩}
    ·rw[K7]
     by_cases e:i=t
     ·subst e
      have:=I.ss.slot i v D
      rw[hs,Rep]at this
      subst this
      rw[if_pos rfl,Rep,RepC]
      exact⟨by simp,none,0,rfl,A2s _,fun _=>rfl,.inl rfl⟩
     ·rw[if_neg e];exact I.ss.slot i v D
    ·rw[K7]
     by_cases e:i=t
     ·subst e
      have:=I.ss.out i hi
      rw[hs]at this;cases this
     ·rw[if_neg e];exact I.ss.out i hi
   ·rename_i b off n hm hs
    obtain⟨⟨v',ups,org⟩,Y,h1⟩:=ub hh
    by_cases hti:∃ v,a.tmps[t]?=some v
    ·obtain⟨v0,hv0⟩:=hti
     have hr:=I.ss.slot t v0 hv0
     rw[hs]at hr
     obtain⟨J1,A,G,_⟩:=PY I.sim (fun b x hb=>⟨x,hb,rfl⟩) Y hr
     have I1:=I.step A (fun c x L hn=>by
      exfalso
      unfold WL at Y
      obtain⟨y,hy,k⟩:=ub Y
      obtain⟨_,k⟩:=uc k
      simp at k
      obtain⟨_,k,_⟩:=k
      subst k
      simp only[Al,Ah]at L
      unfold Iu at hy
      obtain⟨y0,hy0,_⟩:=ub hy
      by_cases e:c=b
      ·subst e;rw[hn]at hy0;cases hy0
      ·rw[if_neg e,hn] at L;cases L)
     refine Ni r (J:=J1) (β:=β) (st:={s:=PO st.s t v',h:=Al ups st.h}) ?_ h1
     have him:∃ c,v'=.imm c n v'.isz false org:=by
      unfold WL at Y
      obtain⟨y,hy,k⟩:=ub Y
      obtain⟨_,k⟩:=uc k
      simp at k
      obtain⟨k,_,h3⟩:=k
      subst k h3
      exact⟨_,rfl⟩
     refine {I1 with ss:=⟨fun i v D=>?_,fun i hi=>?_⟩}
     ·rw[K7]
      by_cases e:i=t
      ·subst e
       rw[if_pos rfl]
       rw[hv0]at D;simp at D;subst D
       obtain⟨c,hc⟩:=him
       rw[hc]at G ⊢
       rw[Rep];exact G
      ·rw[if_neg e];exact I1.ss.slot i v D
     ·rw[K7]
      by_cases e:i=t
      ·subst e
       have:=I.ss.out i hi
       rw[hs]at this;cases this
      ·rw[if_neg e];exact I1.ss.out i hi
    ·exfalso
     have:=I.ss.out t (by
      cases h:a.tmps[t]? with
      |none=>simp at h;omega
      | some v=>exact absurd ⟨v,h⟩ hti)
     rw[hs]at this;cases this
   ·exact Ni r I hh
  | false =>
   rw[T,cond_false]at hh
   split at hh
   ·rename_i hm hs
    cases hf:Ai st.h (nid t+15)with
    |some x=>simp[hf]at hh
    | none =>
     simp[hf]at hh
     have A:=Step.newNone I.sim (d:=nid t+15) (x:=F7 sz) hf rfl
     have I1:=I.step A (fun b x L hn=>by
      rw[Ah]at L
      by_cases e:b=nid t+15
      ·subst e;unfold nid Hh;omega
      ·rw[if_neg e,hn] at L;cases L)
     refine Ni r (J:=J) (β:=fun b=>if b=nid t+15 then none else β b) (st:={s:=PO st.s t (.own (nid t+15) 0 0),h:=Hr st.h (nid t+15) (F7 sz)}) ?_ hh
     refine {I1 with ss:=⟨fun i v D=>?_,fun i hi=>?_⟩}
     ·rw[K7]
      by_cases e:i=t
      ·subst e
       rw[if_pos rfl,Rep]
       have:=I.ss.slot i v D
       rw[hs,Rep]at this
       subst this
       exact⟨F7 sz,none,0,⟨by rw[Ah,if_pos rfl],rfl⟩,rfl,A2s _,.inl rfl⟩
      ·rw[if_neg e];exact I1.ss.slot i v D
     ·rw[K7]
      by_cases e:i=t
      ·subst e
       have:=I.ss.out i hi
       rw[hs]at this;cases this
      ·rw[if_neg e];exact I1.ss.out i hi
   ·exact Ni r I hh
def QE{E:Env}{live roots:List Nat}(I:Inv Z nt J β st a w)(hh:ND E live roots st=some st'):∃ J' β',Inv Z nt J' β' st' a w:=by
 unfold ND at hh
 obtain⟨s1,h1,h2⟩:=ub hh
 obtain⟨J1,β1,I1⟩:=Ni _ I h1
 obtain⟨hc,Y⟩:=uc h2
 simp at hc Y
 subst Y
 obtain⟨D,hs,hi,_⟩:=hc
 have D:=Tl D
 have L:∀ b∈Kl (Ai s1.h) (CD (Ai s1.h) (Ze (Ai s1.h) (qC live s1.s++roots))),b∈CD (Ai s1.h) (Ze (Ai s1.h) (qC live s1.s++roots)):=O1 hi
 refine⟨J1,NK _ _ β1,{I1 with sim:=I1.sim.ren D L,ss:=⟨fun i v hv=>?_,fun i hi=>?_⟩,wr:=fun k hm=>I1.wr k (zR D hm),outs:=fun b x0 x T hx hd=>?_}⟩
 ·rw[GI]
  cases hk:Dj live i with
  |false=>simp[Rep]
  |true =>
   simp only[if_true]
   exact Rep.ren D (fun b hb=>O1 hs b (qW hk b hb)) (I1.ss.slot i v hv)
 ·rw[GI,I1.ss.out i hi];simp[Qw]
 ·obtain⟨b',x',G,he,hg,rfl⟩:=Nh D b x hx
  have:=lU G ⟨I1.zge b x0 T,I1.zlt b x0 T⟩ he
  subst this
  obtain⟨⟨e1,em⟩,e2,e3,e4⟩:=I1.outs b' x0 x' T hg hd
  refine⟨⟨?_,em⟩,e2,by rw[Mf];exact e3,e4⟩
  have:=G2 (β:=β1) D G
  rw[he]at this
  rw[this];exact e1
end
end Gx
namespace Gx
open Go
section
variable{R:Type}{r:R}{Z:Start}{E:Env}
def Ac1(hC:YP E)(hm:E.P.follows .mixedOrders=true){roots:List Nat}{N:Nat}:∀(c:Code){H:Hint}{kn:St->O R}{kx:Nat->St->O R}{kr:St->O R}{st:St}{a:Act}{w:World}{J:Bool->Nat->Prop}{β:Cr}{Q:Exit->Act->World->Prop},
  Inv Z E.nt J β st a w->Dw E roots N c H kn kx kr st=some r ->
  (∀ st' a' w' J' β',Inv Z E.nt J' β' st' a' w'->kn st'=some r->Q .normal a' w') ->
  (∀ id st' a' w' J' β',Inv Z E.nt J' β' st' a' w'->kx id st'=some r->Q (.exit id) a' w') ->
  (∀ st' a' w' J' β',Inv Z E.nt J' β' st' a' w'->kr st'=some r->Q .ret a' w')->c.wp E.P Q a w:=by
 intro c
 induction c with
|skip=>intro H kn kx kr st a w J β Q I hh D G hr;exact wp_skip (D _ _ _ _ _ I hh)
|region id ops draw=>intro H kn kx kr st a w J β Q I hh D G hr;exact vI hC hm I hh D
| seq x y T L =>
  intro H kn kx kr st a w J β Q I hh D G hr
  rw[Dw]at hh
  refine wp_seq (T I hh (fun st' a' w' J' β' I' h'=>?_) (fun id st' a' w' J' β' I' h'=>G id st' a' w' J' β' I' h') (fun st' a' w' J' β' I' h'=>hr st' a' w' J' β' I' h'))
  unfold Aca at h'
  cases Y:H.isJoin with
  |true =>
   rw[Y,cond_true,Uk]at h'
   obtain⟨s2,h2,h3⟩:=ub h'
   obtain⟨J2,β2,I2⟩:=QE I' h2
   exact L I2 h3 D G hr
  |false=>rw[Y]at h';exact L I' h' D G hr
| cond c x y T L =>
  intro H kn kx kr st a w J β Q I hh D G hr
  rw[Dw]at hh
  split at hh
  ·rename_i t ht
   have h1:=Bv I.ss c
   rw[ht,Rep]at h1
   refine wp_cond h1 ?_
   cases t with
   |true=>exact T I hh D G hr
   |false=>exact L I hh D G hr
  ·simp at hh
| block id c ih =>
  intro H kn kx kr st a w J β Q I hh D G hr
  rw[Dw]at hh
  refine wp_block (ih I hh (fun st' a' w' J' β' I' h'=>D _ _ _ _ _ I' h') (fun j st' a' w' J' β' I' h'=>?_) (fun st' a' w' J' β' I' h'=>hr _ _ _ _ _ I' h'))
  cases Y:beq j id with
  |true =>
   rw[Y]at h'
   have:=A26 Y
   subst this
   simp only[Exit.inBlock,if_true]
   exact D _ _ _ _ _ I' h'
  |false =>
   rw[Y]at h'
   simp only[Exit.inBlock]
   rw[if_neg (W1 Y)]
   exact G _ _ _ _ _ _ I' h'
| loop c ih =>
  intro H kn kx kr st a w J β Q I hh D G hr
  rw[Dw,Uk]at hh
  refine wp_loop_rounds N ?_
  have key:∀(n:Nat){st:St}{a:Act}{w:World}{J:Bool->Nat->Prop}{β:Cr},Inv Z E.nt J β st a w->NE (ND E H.live roots) (fun k st=>Dw E roots N c H.a k kx kr st) n st=some r->Code.rounds E.P c Q n a w:=by
   intro n
   induction n with
   |zero=>intro st a w J β I h';simp[NE]at h'
   |succ n ihn =>
    intro st a w J β I h'
    rw[NE]at h'
    rw[rounds_succ]
    refine ih I h' (fun st' a' w' J' β' I' h''=>?_) (fun id st' a' w' J' β' I' h''=>G _ _ _ _ _ _ I' h'') (fun st' a' w' J' β' I' h''=>hr _ _ _ _ _ I' h'')
    obtain⟨s2,h2,h3⟩:=ub h''
    obtain⟨J2,β2,I2⟩:=QE I' h2
    exact ihn I2 h3
  obtain⟨s2,h2,h3⟩:=ub hh
  obtain⟨J2,β2,I2⟩:=QE I h2
  exact key N I2 h3
|exit id=>intro H kn kx kr st a w J β Q I hh D G hr;exact wp_exit (G _ _ _ _ _ _ I hh)
|ret=>intro H kn kx kr st a w J β Q I hh D G hr;exact wp_ret (hr _ _ _ _ _ I hh)
|rangeFunc=>intro H kn kx kr st a w J β Q I hh;simp[Dw]at hh
|scope c ih =>
  intro H kn kx kr st a w J β Q I hh D G hr
  rw[Dw]at hh
  exact wp_scope_straight (ih I hh (fun st' a' w' J' β' I' h'=>D _ _ _ _ _ I' h') (fun id st' a' w' J' β' I' h'=>G _ _ _ _ _ _ I' h') (fun st' a' w' J' β' I' h'=>hr _ _ _ _ _ I' h'))
|label =>
  intro H kn kx kr st a w J β Q I hh D G hr
  rw[Dw]at hh
  exact wp_label (D _ _ _ _ _ I hh)
|goto=>intro H kn kx kr st a w J β Q I hh;simp[Dw]at hh
|refuse=>intro H kn kx kr st a w J β Q I hh;simp[Dw]at hh
end
end Gx
namespace Gx
open Go
structure FDone(Z:Start)(J:Bool->Nat->Prop)(β:Cr)(h:Ap)(w:World):Prop where
 sim:SimH J β h w
 os:w.os=Z.w.os
 tape:w.tape=Z.w.tape
 output:w.output=Z.w.output
 size:Z.w.heap.size<=w.heap.size
 frame:∀ k,k<Z.w.heap.size->¬ Ace Z.β Z.h k->w.heap[k]?=Z.w.heap[k]?
 wr:∀ k,Ace β h k->k<Z.w.heap.size->Ace Z.β Z.h k
 jsub:∀ o k,Z.J o k->J o k
 jup:∀ o k,J o k->Z.J o k\/Ace Z.β Z.h k\/Z.w.heap.size<=k
 sizes:∀ k,Ba Z.w k<=Ba w k
 outs:∀ b x0 x,Ai Z.h b=some x0->Ai h b=some x->x.dead=false->(β b=Z.β b/\x.mp=x0.mp)/\x.sz=x0.sz/\(x0.mp=false->x.cells.length=x0.cells.length)/\x0.dead=false
 live:∀ b x,Ai h b=some x->x.dead=false
def Asy(P:Program)(f:Nat)(args:LA)(h:Ap)(res:AV)(h':Ap):Prop :=
 ∀(J:Bool->Nat->Prop)(β:Cr)(w:World)(vs:List Value),SimH J β h w->Reps J β h w args vs ->
  Calls P f vs.toArray w fun e w'=>∃ vc J' β',e=.returned vc/\FDone ⟨J,β,h,w⟩ J' β' h' w'/\Rep J' β' h' w' res vc
def qu(P:Program)(f:Nat)(t:Tw):Prop:=∀ args h res h',(t.runK args h fun v h'=>some (v,h'))=some (res,h')->Asy P f args h res h'
def WU(P:Program):List (Nat×Tw)->Prop
|[]=>True
|p::r=>qu P p.1 p.2/\WU P r
def Ac2{P:Program}{R:Type}{r:R}:∀{T:List (Nat×Tw)},WU P T->∀{f:Nat}{D:LA}{h:Ap}{k:AV->Ap->O R},bU T f D h k=some r ->
  ∃ res h',Asy P f D h res h'/\k res h'=some r/\∀ b,Dj (IN T f) b=true->Ai h' b=Ai h b
|[],_,f,D,h,k,hh=>by simp[bU]at hh
| (g,t)::T,hT,f,D,h,k,hh=>by
  rw[bU]at hh
  cases G:beq g f with
  |false=>rw[G]at hh;rw[IN,G];exact Ac2 hT.2 hh
  |true =>
   rw[G]at hh
   have:=A26 G
   subst this
   simp only[cond_true]at hh
   rw[t.eq]at hh
   obtain⟨⟨res,h'⟩,I,L⟩:=ub hh
   exact⟨res,h',hT.1 D h res h' I,L,by rw[IN,G];exact t.keq D h res h' I⟩
section
variable{R:Type}{r:R}{Z:Start}{nt:Nat}{J:Bool->Nat->Prop}{β:Cr}{st:St}{a:Act}{w:World}
def cG(tmps:Array Value):ResultVar->Sem Value
|.tmp t=>pure (tmps.getD t undef)
|.cell a t=>do loadVar t (<-Go.asAddr (tmps.getD a undef))
def Apb{α β:Type}(f:α->Sem β)(xs:Array α):xs.mapM f=(List.toArray <$> xs.toList.mapM f):=by rw[<-List.mapM_toArray]
def Ahi(fn:Func)(tmps:Array Value):results fn tmps=(do let vs <-fn.results.mapM (cG tmps);pure (if h:vs.size=1 then vs[0]else .tuple vs)):=by
 unfold results
 congr 1
def Ac3(l:List Value):Value:=match l with|[v]=>v|l=>.tuple l.toArray
def Ac4{P:Program}(fn:Func)(tmps:Array Value){vs:List Value}(h:(fn.results.toList.mapM (cG tmps)).run P w=.ok vs w):(results fn tmps).run P w=.ok (Ac3 vs) w:=by
 rw[Ahi,Apb]
 simp only[map_eq_pure_bind,Sem.run_bind,h,Result.andThen_ok,Sem.run_pure]
 congr 1
 match vs with
|[]=>rfl
|[v]=>rfl
|v::u::r=>simp[Ac3]
def Ac5{P:Program}{t:TypeId}{v vc:Value}(h:(Instr.loadAt t v).run P w=.ok vc w):(do loadVar t (<-Go.asAddr v):Sem Value).run P w=.ok vc w:=by
 unfold Instr.loadAt at h
 cases v with
|pointer a =>
  cases a with
  |some a=>exact h
  |none=>simp[Instr.sureAddr]at h
|_=>simp[Instr.sureAddr]at h
def FE{E:Env}(S:SimH J β st.h w)(SS:SimS J β st.h w st.s a.tmps):∀(l:List ResultVar){D:LA}{k:LA->O R},Nc E st l D k=some r ->
  ∃ vals vs,k (D.reverse++vals)=some r/\(l.mapM (cG a.tmps)).run E.P w=.ok vs w/\Reps J β st.h w vals vs
|[],D,k,hh=>⟨[],[],by simpa[Nc]using hh,by simp,by rw[Reps]⟩
|.tmp t::l,D,k,hh=>by
  rw[Nc]at hh
  obtain⟨vals,vs,G,I,L⟩:=FE S SS l hh
  refine⟨Fu st.s t::vals,a.tmps.getD t undef::vs,by simpa using G,?_,by rw[Reps];exact⟨_,_,rfl,Bv SS (.tmp t),L⟩⟩
  simp only[A9a,cG,Sem.run_bind,Sem.run_pure,Result.andThen_ok,I]
|.cell ad t::l,D,k,hh=>by
  rw[Nc]at hh
  obtain⟨v,vc,T,G,I⟩:=lH S (fun _ _ h=>h) hh (Bv SS (.tmp ad))
  obtain⟨vals,vs,L,Y,h5⟩:=FE S SS l T
  refine⟨v::vals,vc::vs,by simpa using L,?_,by rw[Reps];exact⟨_,_,rfl,I,h5⟩⟩
  have:(cG a.tmps (.cell ad t)).run E.P w=.ok vc w:=Ac5 G
  simp only[A9a,Sem.run_bind,this,Sem.run_pure,Result.andThen_ok,Y]
def Ahj{i:Nat}{m:Nat×Nat}{v v':AV}{ups:Gw}{vc:Value}{h:Ap}(S:SimH J β h w)(hh:Avo (Ai h) i m v=some (v',ups))(k:Rep J β h w v vc):
  ∃ J' β',Step J β h w J' β' (Al ups h) w/\Rep J' β' (Al ups h) w v' vc/\(∀ b x,Ai (Al ups h) b=some x->Ai h b=none->Hh<=b):=by
 have old:∀{ups:Gw},(∀ b,A6 ups b=true->∃ x,Ai h b=some x)->∀ b x,Ai (Al ups h) b=some x->Ai h b=none->Hh<=b:=by
  intro ups hu b x D T
  cases hi:A6 ups b with
  |true=>obtain⟨y,hy⟩:=hu b hi;rw[hy]at T;cases T
  |false=>rw[B3 _ _ _ hi,T]at D;cases D
 unfold Avo at hh
 cases h0:beq m.1 0 with
|true =>
  rw[h0]at hh;simp at hh
  obtain⟨rfl,rfl⟩:=hh
  exact⟨J,β,Step.refl S,k,old (by simp[A6])⟩
| false =>
  rw[h0,cond_false]at hh
  cases h1:beq m.1 1 with
  | true =>
   rw[h1,cond_true]at hh
   split at hh
   ·simp at hh;obtain⟨rfl,rfl⟩:=hh
    rw[Rep]at k;subst k
    refine⟨J,β,Step.refl S,?_,old (by simp[A6])⟩
    rw[Rep,RepC]
    exact⟨by simp,none,0,rfl,A2s _,by simp,.inl rfl⟩
   ·simp at hh;obtain⟨rfl,rfl⟩:=hh
    refine⟨J,β,Step.refl S,?_,old (by simp[A6])⟩
    rw[Rep,RepC]at k ⊢
    obtain⟨e1,A,cap,e2,e3,e4,e5⟩:=k
    exact⟨e1,A,cap,e2,e3,by simp,e5⟩
   ·obtain⟨⟨q1,q2,q3⟩,hq,I⟩:=ub hh
    simp at I;obtain⟨rfl,rfl⟩:=I
    obtain⟨J',A,hA,_⟩:=PY S (Looks.s fun _ _ h=>h) hq k
    refine⟨J',β,A,?_,old (xF hq)⟩
    unfold WL at hq
    obtain⟨x,D,G⟩:=ub hq
    obtain⟨_,h4⟩:=uc G
    simp at h4
    obtain⟨rfl,rfl,rfl⟩:=h4
    rw[Rep];exact hA
   ·simp at hh
  | false =>
   rw[h1,cond_false]at hh
   cases I:beq m.1 2 with
   | true =>
    rw[I,cond_true]at hh
    split at hh
    ·obtain⟨T,G⟩:=Ag4 hh
     simp at G;obtain⟨rfl,rfl⟩:=G
     have Y:Ai h (nid 90000+i)=none:=by cases D:Ai h (nid 90000+i)<;>simp_all
     have A:=Step.newNone S (x:=F7 m.2) Y rfl
     refine⟨J,fun b=>if b=nid 90000+i then none else β b,A,?_,fun b x D hb=>?_⟩
     ·rw[Rep]at k;subst k;rw[Rep]
      exact⟨F7 m.2,none,0,⟨by simp only[Al];rw[Ah,if_pos rfl],rfl⟩,rfl,A2s _,.inl rfl⟩
     ·simp only[Al]at D
      rw[Ah]at D
      by_cases e:b=nid 90000+i
      ·subst e;unfold nid Hh;omega
      ·rw[if_neg e,hb]at D;cases D
    ·simp at hh;obtain⟨rfl,rfl⟩:=hh
     exact⟨J,β,Step.refl S,k,old (by simp[A6])⟩
   | false =>
    rw[I,cond_false]at hh
    split at hh
    ·rename_i c
     obtain⟨⟨q1,q2,q3⟩,hq,G⟩:=ub hh
     simp at G;obtain⟨rfl,rfl⟩:=G
     rw[Rep]at k
     obtain⟨cs,rfl,hc⟩:=k
     obtain⟨J',A,hA,L,_⟩:=Qy S (Looks.s fun _ _ h=>h) hq hc
     refine⟨J',β,A,?_,old (Zj hq)⟩
     rw[Rep]
     exact⟨cs,rfl,L.symm,hA⟩
    ·simp at hh;obtain⟨rfl,rfl⟩:=hh
     exact⟨J,β,Step.refl S,k,old (by simp[A6])⟩
    ·simp at hh
def lV{s:Gv}:∀(vals:LA){i:Nat}{ms:List (Nat×Nat)}{h h':Ap}{vals':LA}{vs:List Value}{J:Bool->Nat->Prop}{β:Cr},
  Inv Z nt J β {s:=s,h:=h} a w->Acb h i ms vals=some (vals',h')->Reps J β h w vals vs ->
  ∃ J' β',Inv Z nt J' β' {s:=s,h:=h'} a w/\Reps J' β' h' w vals' vs/\∀ x v,Rep J β h w x v->Rep J' β' h' w x v
|[],i,ms,h,h',vals',vs,J,β,I,hh,D=>by
  simp[Acb]at hh;obtain⟨rfl,rfl⟩:=hh
  exact⟨J,β,I,D,fun _ _ h=>h⟩
|v::r,i,ms,h,h',vals',vs,J,β,I,hh,D=>by
  rw[Acb]at hh
  obtain⟨⟨v1,u1⟩,h1,h2⟩:=ub hh
  obtain⟨⟨r2,hr⟩,h3,T⟩:=ub h2
  simp at T;obtain⟨rfl,rfl⟩:=T
  rw[Reps]at D
  obtain⟨u,us,rfl,G,L⟩:=D
  obtain⟨J1,β1,A,hA,k⟩:=Ahj I.sim h1 G
  have I1:=I.step A k
  obtain⟨J2,β2,I2,hB,Y⟩:=lV r I1 h3 (Reps.ext A.ext L)
  refine⟨J2,β2,I2,?_,fun x v h=>Y x v (Rep.ext A.ext h)⟩
  rw[Reps]
  exact⟨u,us,rfl,Y _ _ hA,hB⟩
def vJ{E:Env}{fn:Func}{modes:List (Nat×Nat)}{outs:List Nat}{k:AV->Ap->O R}(I:Inv Z nt J β st a w)(hh:Ul E fn modes outs k st=some r):
  ∃ res h' vc J' β',k res h'=some r/\(results fn a.tmps).run E.P w=.ok vc w/\FDone Z J' β' h' w/\Rep J' β' h' w res vc:=by
 unfold Ul at hh
 obtain⟨vals,vs,h1,h2,h3⟩:=FE I.sim I.ss _ hh
 simp only[List.reverse_nil,A5z]at h1
 obtain⟨⟨vals',h'⟩,h4,h5⟩:=ub h1
 obtain⟨J1,β1,I1,hR,_⟩:=lV (s:=st.s) vals I h4 h3
 obtain⟨hc,h6⟩:=uc h5
 simp at hc
 obtain⟨L,hs,hi,_⟩:=hc
 have L:=Tl L
 have T:=O1 hi
 have hs:=O1 hs
 refine⟨_,_,Ac3 vs,J1,NK _ _ β1,h6,Ac4 fn a.tmps h2,?_,Rep.ren L hs ?_⟩
 ·exact⟨I1.sim.ren L T,I1.os,I1.tape,I1.output,I1.size,I1.frame,fun k hm=>I1.wr k (zR L hm),I1.jsub,I1.jup,I1.sizes,fun b x0 x Y hx hd=>by
   obtain⟨b',x',G,he,hg,rfl⟩:=Nh L b x hx
   have:=lU G ⟨I1.zge b x0 Y,I1.zlt b x0 Y⟩ he
   subst this
   obtain⟨⟨e1,em⟩,e2,e3,e4⟩:=I1.outs b' x0 x' Y hg hd
   refine⟨⟨?_,em⟩,e2,by rw[Mf];exact e3,e4⟩
   have:=G2 (β:=β1) L G
   rw[he]at this
   rw[this];exact e1,fun b x hx=>by
   obtain⟨b',x',G,he,hg,rfl⟩:=Nh L b x hx
   obtain⟨x2,h7,h8⟩:=Ac0 G
   rw[hg] at h7;simp at h7;subst h7;exact h8⟩
 ·match vals',vs,hR with
  |[],vs,hR=>rw[Reps]at hR;subst hR;simp only[Ac3,Avp];rw[Rep];exact⟨[],rfl,by rw[Reps]⟩
  |[v],vs,hR =>
   rw[Reps]at hR
   obtain⟨u,us,rfl,hu,D⟩:=hR
   rw[Reps]at D;subst D
   exact hu
  |v::v2::l,vs,hR =>
   have hR':=hR
   rw[Reps]at hR
   obtain⟨u,us,rfl,hu,D⟩:=hR
   rw[Reps]at D
   obtain⟨u2,us2,rfl,_,_⟩:=D
   simp only[Ac3,Avp]
   rw[Rep]
   exact⟨_,rfl,hR'⟩
end
end Gx
namespace Gx
open Go
section
variable{J J':Bool->Nat->Prop}{β:Cr}{h:Ap}{w:World}
mutual
def Rep.noOrg:∀{x:AV}{v:Value},Wh x=false->Rep J β h w x v->Rep (fun _=>J false) β h w x v
|.own ..,v,_,hr=>by rw[Rep]at hr ⊢;exact hr
|.optr ..,v,_,hr=>by rw[Rep]at hr ⊢;exact hr
|.omap ..,v,_,hr=>by rw[Rep]at hr ⊢;exact hr
|.pagg c o,v,ho,hr=>by
  rw[Wh]at ho;subst ho
  rw[Rep]at hr ⊢;exact hr
|.agg c,v,ho,hr=>by
  rw[Wh]at ho
  rw[Rep]at hr ⊢
  obtain⟨cs,h1,h2⟩:=hr
  exact⟨cs,h1,Reps.noOrg ho h2⟩
|.tup c,v,ho,hr=>by
  rw[Wh]at ho
  rw[Rep]at hr ⊢
  obtain⟨cs,h1,h2⟩:=hr
  exact⟨cs,h1,Reps.noOrg ho h2⟩
|.fn f c,v,ho,hr=>by
  rw[Wh]at ho
  rw[Rep]at hr ⊢
  obtain⟨cs,h1,h2⟩:=hr
  exact⟨cs,h1,Reps.noOrg ho h2⟩
|.undef,_,_,_=>by rw[Rep];trivial
|.imm c n sz t o,v,ho,hr=>by
  rw[Wh]at ho;subst ho
  rw[Rep]at hr ⊢;exact hr
|.iptr c o,v,ho,hr=>by
  rw[Wh]at ho;subst ho
  rw[Rep]at hr ⊢;exact hr
|.int ..,v,_,hr=>by rw[Rep]at hr ⊢;exact hr
|.bool _,v,_,hr=>by rw[Rep]at hr ⊢;exact hr
|.str _,v,_,hr=>by rw[Rep]at hr ⊢;exact hr
|.nsl,v,_,hr=>by rw[Rep]at hr ⊢;exact hr
|.nilptr,v,_,hr=>by rw[Rep]at hr ⊢;exact hr
|.nilfn,v,_,hr=>by rw[Rep]at hr ⊢;exact hr
def Reps.noOrg:∀{c:List AV}{cs:List Value},Uj c=false->Reps J β h w c cs->Reps (fun _=>J false) β h w c cs
|[],_,_,hr=>by rw[Reps]at hr ⊢;exact hr
|x::r,cs,ho,hr=>by
  rw[Uj]at ho
  simp at ho
  rw[Reps]at hr ⊢
  obtain⟨u,us,h1,h2,h3⟩:=hr
  exact⟨u,us,h1,Rep.noOrg ho.1 h2,Reps.noOrg ho.2 h3⟩
end
def qw:∀{c:LA}{j:Nat}{x:AV},Uj c=false->c[j]?=some x->Wh x=false
|[],j,x,_,k=>by simp at k
|y::r,j,x,D,k=>by
  rw[Uj]at D
  simp at D
  cases j with
  |zero=>simp at k;subst k;exact D.1
  |succ j=>exact qw D.2 (by simpa using k)
def qx:∀{h:Ap}{b:Nat}{x:Blk},bV h=false->Ai h b=some x->x.taint=false/\(x.pure=false->Uj x.cells=false)
|[],b,x,_,k=>by simp[Ai]at k
| (i,y)::r,b,x,D,k=>by
  rw[bV]at D
  simp at D
  rw[Ai]at k
  cases hi:beq i b with
  |true =>
   rw[hi]at k;simp at k;subst k
   refine⟨D.1.1,fun G=>?_⟩
   have:=D.1.2
   rw[G]at this;simpa using this
  |false=>rw[hi]at k;exact qx D.2 (by simpa using k)
def SimH.noOrg(S:SimH J β h w)(ho:bV h=false):SimH (fun _=>J false) β h w:=by
 refine⟨fun _ k D=>S.jlt _ k D,fun k D=>D,S.gl.to (fun _ h=>h) (fun _ _=>rfl),fun b x G L T=>?_,fun b x G L T=>by
   obtain⟨Y,g2,k,ob,g3,g4,g5,g6⟩:=S.mblk b x G L T
   exact⟨Y,g2,k,ob,g3,g4,g5,fun _ hg=>g6 false hg⟩,S.sep⟩
 obtain⟨ht,hc⟩:=qx ho G
 rcases S.blk b x G L T with h1|⟨k,o,cs,ty,fr,h1,h2,h3,h4,h5,h6,h7⟩
 ·exact .inl h1
 ·refine .inr ⟨k,o,cs,ty,fr,h1,h2,h3,h4,⟨fun I=>?_,fun I j c D=>?_⟩,fun hs _=>h6 hs _,fun hs=>?_⟩
  ·have:=h5.1 I;rw[ht]at this;exact this
  ·obtain⟨u,Y,g2,g3⟩:=h5.2 I j c D
   exact⟨u,Y,Rep.noOrg (qw (hc I) D) g2,g3⟩
  ·have:=h7 hs;rw[ht]at this;exact this
def Ext.grow(hJ:∀ o k,J o k->J' o k):Ext J β h w J' β h w:=⟨hJ,fun _ _ _=>rfl,fun b x D=>⟨x,⟨D,rfl⟩,by cases G:x.dead<;>simp⟩,fun _ _ _ _=>A2s _⟩
def SimH.grow(S:SimH J β h w)(hJ:∀ o k,J o k->J' o k)(T:∀ o k,J' o k->k<w.heap.size)(Y:∀ k,J' false k->J' true k)
  (D:∀ b x k o,Ai h b=some x->x.dead=false->x.sealed=false->β b=some (k,o)->∀ g,¬ J' g k):SimH J' β h w:=by
 refine⟨T,Y,S.gl.to (hJ false) (fun _ _=>rfl),fun b x G I hm=>?_,fun b x G I hm=>by
   obtain⟨g1,g2,k,ob,g3,g4,g5,g6⟩:=S.mblk b x G I hm
   exact⟨g1,g2,k,ob,g3,g4,g5,D b x k 0 G I g2 g3⟩,S.sep⟩
 rcases S.blk b x G I hm with L|⟨k,o,cs,ty,fr,L,h2,h3,h4,h5,h6,h7⟩
 ·exact .inl L
 ·exact .inr ⟨k,o,cs,ty,fr,L,h2,h3,h4,h5.ext (Ext.grow hJ),fun hs=>D b x k o G I hs L,fun hs=>hJ _ _ (h7 hs)⟩
def Axz(β:Cr)(h:Ap)(fz:List Nat)(k:Nat):Prop:=∃ b x o,b∈fz/\Ai h b=some x/\x.dead=false/\x.sealed=false/\β b=some (k,o)
def JS(J:Bool->Nat->Prop)(β:Cr)(h:Ap)(fz:List Nat):Bool->Nat->Prop:=fun o k=>J o k\/(o=true/\Axz β h fz k)
def qy{g:Bp}{b off n:Nat}{x:Blk}{vc:Value}{fz:List Nat}(S:SimH J β h w)(hl:Looks g h)(D:Iu g b=some x)(hp:x.pure=true)(hf:x.sealed=false->b∈fz)(hv:Rep J β h w (.own b off n) vc):
  Rep (JS J β h fz) β h w (.imm ((x.cells.drop off).take (n*x.sz)) n x.sz false (!x.sealed||x.taint)) vc:=by
 unfold Iu at D
 obtain⟨x0,Y,D⟩:=ub D
 obtain⟨hd,D⟩:=Ag4 D
 simp at D;subst D
 have T:=hl b _ Y
 rw[Rep]
 have key:=(Ajz (J':=fun o k=>o≠x0.taint\/JS J β h fz (!x0.sealed||x0.taint) k) S T hd hp hv (fun k o hβ=>.inr ?_) (fun o k I=>?_) false (!x0.sealed||x0.taint)).2 (by simp)
 ·exact RepC.keep (fun k L=>by rcases L with L|L;exact absurd rfl L;exact L) (fun _ _=>rfl) key
 ·cases hs:x0.sealed with
  |false =>
   simp only[A6o,A8v]
   exact .inr ⟨rfl,b,x0,o,hf hs,T,hd,hs,hβ⟩
  | true =>
   simp only[A5b,A8l]
   rcases S.blk b x0 T hd (Ao4 T hv)with⟨G,_⟩|⟨k',o',cs,ty,fr,G,h2,h3,h4,h5,h6,h7⟩
   ·rw[hβ]at G;cases G
   ·rw[hβ]at G;simp at G;obtain⟨rfl,rfl⟩:=G
    exact .inl (h7 hs)
 ·by_cases e:o=x0.taint
  ·subst e
   right
   cases hs:x0.sealed with
   |false =>
    simp only[A6o,A8v]
    left
    cases ht:x0.taint with
    |false=>rw[ht]at I;exact S.jft k I
    |true=>rw[ht]at I;exact I
   |true=>simp only[A5b,A8l];exact .inl I
  ·exact .inl e
def JS.mono(S:SimH J β h w){fz:List Nat}{a b:Bool}(k:Nat)(D:JS J β h fz a k):JS J β h fz (a||b) k:=by
 cases a
 ·cases b
  ·exact D
  ·rcases D with D|⟨G,_⟩
   ·exact .inl (S.jft k D)
   ·cases G
 ·exact D
def vK{g:Bp}{v v':AV}{o:Bool}{vc:Value}{fz:List Nat}(S:SimH J β h w)(hl:Looks g h)(hh:IM g v=some (v',o))(hf:∀ b off n x,v=.own b off n->g b=some x->x.sealed=false->b∈fz)(G:Rep J β h w v vc):
  RepC (JS J β h fz o) w v' vc:=by
 cases v
 case own b off n =>
  rw[IM]at hh
  obtain⟨x,D,h1⟩:=ub hh
  obtain⟨hp,Y⟩:=uc h1
  simp at Y
  obtain⟨rfl,rfl⟩:=Y
  have:=qy S hl D hp (fun hs=>by
   unfold Iu at D
   obtain⟨x0,I,D⟩:=ub D
   obtain⟨hd,D⟩:=Ag4 D
   simp at D;subst D
   exact hf b off n x0 rfl I hs) G
  rw[Rep]at this;exact this
 case imm c n sz t org =>
  simp[IM]at hh;obtain⟨rfl,rfl⟩:=hh
  rw[Rep,RepC]at G
  rw[RepC]
  obtain⟨e1,A,cap,e2,e3,e4,L⟩:=G
  refine⟨e1,A,cap,e2,e3,by simp,?_⟩
  rcases L with L|⟨a,e6,e7,e8⟩
  ·exact .inl L
  ·exact .inr ⟨a,e6,.inl e7,RepCs.keep (fun k T=>.inl T) (fun _ _=>rfl) (fun _=>rfl) e8⟩
 case iptr c org =>
  simp[IM]at hh;obtain⟨rfl,rfl⟩:=hh
  rw[Rep]at G
  exact RepC.keep (fun k T=>.inl T) (fun _ _=>rfl) G
 all_goals first
  |(simp[IM]at hh;done)
  |(simp[IM]at hh;obtain⟨rfl,rfl⟩:=hh;rw[Rep]at G;rw[RepC];exact G)
def Zp{g:Bp}{fz:List Nat}(S:SimH J β h w)(hl:Looks g h):∀{c c':LA}{o:Bool}{cs:List Value},F' g c=some (c',o)->(∀ b∈Ic g c,b∈fz)->Reps J β h w c cs ->
  cs.length=c'.length/\∀(j:Nat)(x:AV),c'[j]?=some x->∃ u,cs[j]?=some u/\RepC (JS J β h fz o) w x u
|[],c',o,cs,hh,I,D=>by
  simp[F']at hh;obtain⟨rfl,rfl⟩:=hh
  rw[Reps]at D;subst D
  exact⟨rfl,fun j x G=>by simp at G⟩
| v::r,c',o,cs,hh,I,D=>by
  rw[F']at hh
  obtain⟨⟨v1,o1⟩,h1,hh⟩:=ub hh
  obtain⟨⟨r1,o2⟩,h2,hh⟩:=ub hh
  simp at hh;obtain⟨rfl,rfl⟩:=hh
  rw[Reps]at D
  obtain⟨u,us,rfl,g1,g2⟩:=D
  have L:∀ b ∈ Ic g r,b ∈ fz:=fun b T=>I b (by
   cases v<;>simp only[Ic]<;>try exact T
   split
   ·rename_i x _;cases x.sealed<;>simp[T]
   ·exact T)
  have a1:=vK (fz:=fz) S hl h1 (fun b off n x e hx hs=>I b (by subst e;simp[Ic,hx,hs])) g1
  obtain⟨b1,b2⟩:=Zp S hl h2 L g2
  refine⟨by simp[b1],fun j x G=>?_⟩
  cases j with
  |zero=>simp at G;subst G;exact⟨u,by simp,RepC.keep (fun k Y=>JS.mono S k Y) (fun _ _=>rfl) a1⟩
  |succ j =>
   obtain⟨u',e1,e2⟩:=b2 j x (by simpa using G)
   exact⟨u',by simpa using e1,RepC.keep (fun k Y=>by rw[A8u];exact JS.mono S k Y) (fun _ _=>rfl) e2⟩
def Aj5{rd:Nat->Option Value}:∀{c:LA} ,(∀ j x,c[j]?=some x->∃ u,rd j=some u/\Rep J β h w x u)->∃ us,Reps J β h w c us/\∀ j,j<us.length->us[j]?=rd j
|[],_=>⟨[],by rw[Reps],fun j k=>by simp at k⟩
|x::r,hc=>by
  obtain⟨u,D,G⟩:=hc 0 x (by simp)
  obtain⟨us,I,L⟩:=Aj5 (rd:=fun j=>rd (j+1)) (c:=r) (fun j y k=>hc (j+1) y (by simpa using k))
  refine⟨u::us,by rw[Reps];exact⟨u,us,rfl,G,I⟩,fun j k=>?_⟩
  cases j with
  |zero=>simp[D]
  |succ j=>simpa using L j (by simpa using k)
def vL{g:Bp}{v v':AV}{q:Bool}{vc:Value}{fz:List Nat}(S:SimH J β h w)(hl:Looks g h)(hh:yw g v=some (v',q))(hf:∀ b∈Yx g v,b∈fz)(L:Rep J β h w v vc):
  Rep (JS J β h fz) β h w v' vc/\Em v'=[]:=by
 unfold yw at hh
 split at hh
 ·rename_i b off n
  obtain⟨x,D,Y⟩:=ub hh
  obtain⟨hp,h2⟩:=uc Y
  simp at h2
  obtain⟨rfl,_⟩:=h2
  exact⟨qy S hl D hp (fun hs=>by
   unfold Iu at D
   obtain⟨x0,T,D⟩:=ub D
   obtain⟨hd,D⟩:=Ag4 D
   simp at D;subst D
   exact hf b (by simp[Yx,T,hs])) L,by simp[Em]⟩
 ·simp at hh;obtain⟨rfl,_⟩:=hh
  refine⟨?_,by simp[Em]⟩
  rw[Rep,RepC]at L ⊢
  obtain⟨e1,A,cap,e2,e3,e4,e5⟩:=L
  refine⟨e1,A,cap,e2,e3,by simp,?_⟩
  rcases e5 with e5|⟨a,e6,e7,e8⟩
  ·exact .inl e5
  ·exact .inr ⟨a,e6,.inl e7,RepCs.keep (fun k hk=>.inl hk) (fun _ _=>rfl) (fun _=>rfl) e8⟩
 ·rename_i b off
  obtain⟨x,D,Y⟩:=ub hh
  unfold Iu at D
  obtain⟨x0,T,D⟩:=ub D
  obtain⟨hd,D⟩:=Ag4 D
  simp at D;subst D
  have hy:=hl b _ T
  rw[Rep]at L
  obtain⟨x1,k,o,⟨g1,gm⟩,g2,g3⟩:=L
  rw[hy]at g1;simp at g1;subst g1
  rcases g3 with g3|g3
  ·simp[hd]at g3
  rcases S.blk b x0 hy hd gm with⟨I,_⟩|⟨k',o',cs,ty,fr,I,h2,h3,h4,h5,h6,h7⟩
  ·rw[g3]at I;cases I
  rw[g3]at I;simp at I;obtain⟨rfl,rfl⟩:=I
  have hk:JS J β h fz (!x0.sealed||x0.taint) k:=by
   cases hs:x0.sealed with
   |false =>
    simp only[A6o,A8v]
    exact .inr ⟨rfl,b,x0,o,hf b (by simp[Yx,T,hs]),hy,hd,hs,g3⟩
   |true =>
    simp only[A5b,A8l]
    exact .inl (h7 hs)
  cases hp:x0.pure with
  | true =>
   rw[hp,cond_true]at Y
   simp at Y
   obtain⟨rfl,_⟩:=Y
   refine⟨?_,by simp[Em]⟩
   have hin:∀ k2,J x0.taint k2->JS J β h fz (!x0.sealed||x0.taint) k2:=by
    intro k2 G
    left
    cases hs:x0.sealed with
    |false =>
     simp only[A6o,A8v]
     cases ht:x0.taint with
     |false=>rw[ht]at G;exact S.jft k2 G
     |true=>rw[ht]at G;exact G
    |true=>simp only[A5b,A8l];exact G
   rw[Rep,RepC]
   refine⟨_,g2,hk,?_⟩
   refine RepCs.keep hin (fun _ _=>rfl) (fun j=>?_) ((h5.1 hp).drop off)
   rw[Addr.add_mid,Oy h2,A4d]
  | false =>
   rw[hp,cond_false]at Y
   obtain⟨⟨c1,o1⟩,h8,h9⟩:=ub Y
   simp at h9;obtain⟨rfl,_⟩:=h9
   refine⟨?_,by simp[Em]⟩
   obtain⟨us,e1,e2⟩:=Aj5 (c:=x0.cells.drop off) (rd:=fun j=>cs[o+off+j]?) (fun j c G=>by
    obtain⟨u,q1,q2,_⟩:=h5.2 hp (off+j) c (by rw[A3z]at G;exact G)
    exact⟨u,by rw[<-q1,A4d],q2⟩)
   obtain⟨b1,b2⟩:=Zp (fz:=fz) S hl h8 (fun b' hb=>hf b' (by simp[Yx,T,hp,hb])) e1
   rw[Rep,RepC]
   refine⟨_,g2,?_,?_⟩
   ·have:=JS.mono S (b:=true) k hk;rwa [A68]at this
   ·rw[Cm]
    intro j x G
    obtain⟨u,e3,e4⟩:=b2 j x G
    refine⟨u,?_,RepC.keep (fun k hk=>by have:=JS.mono S (b:=true) k hk;rwa [A68]at this) (fun _ _=>rfl) e4⟩
    rw[Addr.add_mid,Oy h2,A22]
    rw[<-e2 j (by have:=(A29.1 e3).1;exact this)];exact e3
 ·rename_i c
  obtain⟨⟨c1,o1⟩,Y,h2⟩:=ub hh
  simp at h2;obtain⟨rfl,_⟩:=h2
  rw[Rep]at L
  obtain⟨cs,rfl,L⟩:=L
  obtain⟨b1,b2⟩:=Zp (fz:=fz) S hl Y (by simpa[Yx]using hf) L
  refine⟨?_,by simp[Em]⟩
  rw[Rep]
  refine⟨cs,rfl,b1,?_⟩
  rw[Cm]
  intro j x G
  obtain⟨u,e1,e2⟩:=b2 j x G
  exact⟨u,by simpa using e1,e2⟩
 ·simp at hh;obtain⟨rfl,_⟩:=hh
  exact⟨Rep.ext (Ext.grow fun _ _ G=>.inl G) L,by simp[Em,Fv]⟩
 ·simp at hh
 ·simp at hh
 ·simp at hh
 ·simp at hh
 ·simp at hh;obtain⟨rfl,_⟩:=hh
  refine⟨Rep.ext (Ext.grow fun _ _ G=>.inl G) L,?_⟩
  cases v<;>first|rfl|simp_all
def Zq{g:Bp}{fz:List Nat}(S:SimH J β h w)(hl:Looks g h):∀{G:LA}{ms:List Bool}{args':LA}{im D:List Nat}{vs:List Value},
  GA g ms G=some (args',im,D)->(∀ b∈D,b∈fz)->Reps J β h w G vs->Reps (JS J β h fz) β h w args' vs/\∀ b∈Fv args',b∈im
|[],ms,args',im,D,vs,hh,hf,I=>by
  simp[GA]at hh;obtain⟨rfl,rfl,rfl⟩:=hh
  rw[Reps]at I;subst I
  exact⟨by rw[Reps],by simp[Fv]⟩
| v::r,ms,args',im,D,vs,hh,hf,I=>by
  rw[GA]at hh
  rw[Reps]at I
  obtain⟨u,us,rfl,L,T⟩:=I
  cases hm:ms.headD false with
  |true =>
   rw[hm,cond_true]at hh
   obtain⟨⟨a2,i2,f2⟩,h1,Y⟩:=ub hh
   simp at Y;obtain⟨rfl,rfl,rfl⟩:=Y
   obtain⟨g1,g2⟩:=Zq S hl h1 hf T
   refine⟨by rw[Reps];exact⟨u,us,rfl,Rep.ext (Ext.grow fun _ _ hj=>.inl hj) L,g1⟩,fun b k=>?_⟩
   rw[Fv]at k
   rcases A27.1 k with k|k
   ·exact A27.2 (.inl k)
   ·exact A27.2 (.inr (g2 b k))
  |false =>
   rw[hm,cond_false]at hh
   obtain⟨⟨v1,b1⟩,h0,hh⟩:=ub hh
   obtain⟨⟨a2,i2,f2⟩,h1,Y⟩:=ub hh
   simp at Y;obtain⟨rfl,rfl,rfl⟩:=Y
   obtain⟨e1,e2⟩:=vL S hl h0 (fun b k=>hf b (A27.2 (.inl k))) L
   obtain⟨g1,g2⟩:=Zq S hl h1 (fun b k=>hf b (A27.2 (.inr k))) T
   refine⟨by rw[Reps];exact⟨u,us,rfl,e1,g1⟩,fun b k=>?_⟩
   rw[Fv,e2]at k
   exact g2 b (by simpa using k)
end
end Gx
namespace Gx
open Go
def xN{g g':Bp}{ρ:Nat->Nat}:∀{ids:List Nat},(∀ b∈ids,g b=g' b)->sub g ρ ids=sub g' ρ ids
|[],_=>rfl
|b::r,h=>by rw[sub,sub,h b (by simp),xN (fun c hc=>h c (by simp[hc]))]
def QF{g:Bp}:∀{l:List Nat},PT g l=true->∀ b∈l,∃ x,g b=some x/\x.dead=false
|[],_,b,k=>by simp at k
| i::r,h,b,k=>by
  rw[PT]at h
  simp at h
  rcases A28.1 k with rfl|k
  ·cases D:g b with
   |none=>rw[D]at h;simp at h
   |some x=>rw[D]at h;exact⟨x,rfl,by simpa using h.1⟩
  ·exact QF h.2 b k
def Aj6:∀{l m:List Nat},Ab7 l m=true->∀ b∈l,b∉m
|[],m,_,b,k=>by simp at k
|i::r,m,h,b,k=>by
  rw[Ab7]at h
  simp at h
  rcases A28.1 k with rfl|k
  ·intro D;have:=Ht.2 D;rw[this]at h;simp at h
  ·exact Aj6 h.2 b k
def GJ{d:Nat}:∀{l:List (Nat×Nat)}{b:Nat},b∈l.map (·.1)->Gz d l b∈l.map (·.2)
|[],b,k=>by simp at k
| (i,x)::r,b,k=>by
  rw[Gz]
  cases hi:beq i b with
  |true=>simp
  | false =>
   have D:b∈r.map (·.1):=by
    rw[A3o]at k
    rcases A28.1 k with h|h
    ·exact absurd h.symm (W1 hi)
    ·exact h
   simp only[cond_false,A3o]
   exact A4w _ (GJ D)
def X0{d:Nat}:∀{l m:List (Nat×Nat)}{b:Nat},Gz d (l++m) b=if b∈l.map (·.1)then Gz d l b else Gz d m b
|[],m,b=>by simp
| (i,x)::r,m,b=>by
  rw[A4e,Gz,Gz,X0]
  cases hi:beq i b with
  |true=>have:=A26 hi;subst this;simp
  |false =>
   have:=W1 hi
   simp only[cond_false,A3o,A28]
   by_cases k:b∈r.map (·.1)
   ·rw[if_pos k,if_pos (.inr k)]
   ·rw[if_neg k,if_neg (by rintro(h|h);exact this h.symm;exact k h)]
def J4:∀{base:Nat}{l:List Nat},(An base l).map (·.1)=l
|_,[]=>rfl
|base,i::r=>by rw[An,A3o,J4]
def qz{d d':Nat}:∀{l:List Nat}{base b:Nat},b∈l->Gz d' ((An base l).map fun p=>(p.2,p.1)) (Gz d (An base l) b)=b
|[],base,b,k=>by simp at k
| i::r,base,b,k=>by
  rw[An,Gz,A3o,Gz]
  cases hi:beq i b with
  |true=>have:=A26 hi;subst this;simp
  | false =>
   have D:b∈r:=by
    rcases A28.1 k with h|h
    ·exact absurd h.symm (W1 hi)
    ·exact h
   simp only[cond_false]
   have G:=Zo (d:=d) (base:=base+1) D
   rw[PX (show base≠Gz d (An (base+1) r) b by omega)]
   exact qz D
def Tn:∀{base:Nat}{l:List Nat}{c:Nat},c∈(An base l).map (·.2)->base<=c/\c<base+l.length
|_,[],c,hc=>by simp[An]at hc
|base,i::r,c,hc=>by
  rw[An,A3o]at hc
  rcases A28.1 hc with h|h
  ·simp at h;subst h;simp
  ·have:=Tn h;simp only[A3a];omega
def Zr:∀{base:Nat}{l:List Nat},((An base l).map (·.2)).Nodup
|_,[]=>by simp[An]
|base,i::r=>by
  rw[An,A3o,A4b]
  exact⟨fun h=>by have:=Tn h;simp at this;omega,Zr⟩
def QG:∀{base:Nat}{l:List Nat}{b:Nat},b∈l->(b,Gz 0 (An base l) b)∈An base l
|_,[],b,k=>by simp at k
| base,i::r,b,k=>by
  rw[An,Gz]
  cases hi:beq i b with
  |true=>have:=A26 hi;subst this;simp
  | false =>
   have D:b∈r:=by
    rcases A28.1 k with h|h
    ·exact absurd h.symm (W1 hi)
    ·exact h
   simp only[cond_false]
   exact A4w _ (QG D)
def Ahk(x:Blk):Blk:={x with dead:=true,pure:=true,cells:=[]}
def Gm:∀{ups:Gw}{h:Ap}{b:Nat}{o:Option Blk},(ups.map (·.1)).Nodup->(b,o)∈ups->Ai (Al ups h) b=match o with|some x=>some x|none=>(Ai h b).map Ahk
|[],h,b,o,_,L=>by simp at L
| (i,y)::r,h,b,o,D,L=>by
  rw[A3o,A4b]at D
  rcases A28.1 L with T|k
  ·simp at T
   obtain⟨rfl,rfl⟩:=T
   have G:A6 r b=false:=by
    have:∀{r:Gw},b∉r.map (·.1)->A6 r b=false:=by
     intro r
     induction r with
     |nil=>intro _;rfl
     |cons p r Y =>
      intro h
      simp only[A3o,A28,not_or]at h
      rw[A6,PX (fun e=>h.1 e.symm)]
      exact Y h.2
    exact this D.1
   cases o with
   |some x=>rw[Al,B3 _ _ _ G,Ah,if_pos rfl]
   |none =>
    rw[Al,B3 _ _ _ G]
    cases hx:Ai h b with
    |none=>simp[hx]
    |some x=>simp only[A71];rw[Ah,if_pos rfl];rfl
  ·have I:b≠i:=fun e=>by subst e;exact D.1 (A3w.2 ⟨_,k,rfl⟩)
   cases y with
   |some x =>
    rw[Al,Gm D.2 k]
    cases o with
    |some _=>rfl
    |none=>simp only;rw[Ah,if_neg I]
   | none =>
    rw[Al,Gm D.2 k]
    cases o with
    |some _=>rfl
    |none =>
     simp only
     split
     ·rw[Ah,if_neg I]
     ·rfl
def Yz:∀{ups:Gw}{b:Nat},A6 ups b=true↔b∈ups.map (·.1)
|[],b=>by simp[A6]
|(i,y)::r,b=>by
  rw[A6,A3o,A28,<-Yz]
  cases hi:beq i b with
  |true=>have:=A26 hi;subst this;simp
  |false=>have:=W1 hi;simp;intro e;exact absurd e.symm this
def rA{β:Cr}{h:Ap}{ρ:Nat->Nat}{ids:List Nat}(D:(ids.map ρ).Nodup){k:Nat}(L:Ace (NK ρ ids β) (sub (Ai h) ρ ids) k):
  ∃ b x o,b∈ids/\Ai h b=some x/\x.dead=false/\x.sealed=false/\β b=some (k,o):=by
 obtain⟨c,y,o,T,Y,hs,G⟩:=L
 obtain⟨b,x,I,rfl,hx,rfl⟩:=Nh D c y T
 rw[G2 D I]at G
 exact⟨b,x,o,I,hx,Y,hs,G⟩
def SimH.unJ{J:Bool->Nat->Prop}{β:Cr}{h:Ap}{w:World}(S:SimH J β h w){b:Nat}{x:Blk}{k o:Nat}(I:Ai h b=some x)(L:x.dead=false)(hs:x.sealed=false)(G:β b=some (k,o)):∀ g,¬ J g k:=by
 cases T:x.mp with
| false =>
  rcases S.blk b x I L T with⟨D,_⟩|⟨k',o2,cs,ty,fr,D,Y,h4,h5,h6,h7,h8⟩
  ·rw[G]at D;cases D
  ·rw[G]at D;simp at D;obtain⟨rfl,rfl⟩:=D
   exact h7 hs
|true =>
  obtain⟨_,_,k',ob,D,_,_,Y⟩:=S.mblk b x I L T
  rw[G]at D;simp at D;obtain⟨rfl,_⟩:=D
  exact Y
def SimH.seJ{J:Bool->Nat->Prop}{β:Cr}{h:Ap}{w:World}(S:SimH J β h w){b:Nat}{x:Blk}{k o:Nat}(G:Ai h b=some x)(I:x.dead=false)(hs:x.sealed=true)(L:β b=some (k,o)):J x.taint k:=by
 cases T:x.mp with
| false =>
  rcases S.blk b x G I T with⟨D,_⟩|⟨k',o2,cs,ty,fr,D,h3,h4,h5,h6,h7,Y⟩
  ·rw[L]at D;cases D
  ·rw[L]at D;simp at D;obtain⟨rfl,rfl⟩:=D
   exact Y hs
|true =>
  have:=(S.mblk b x G I T).2.1
  rw[hs]at this;cases this
def Step.merge{J J0 J1:Bool->Nat->Prop}{β β1:Cr}{h h1 H:Ap}{w w':World}{D ids:List Nat}(S:SimH J β h w)(S1:SimH J0 β1 h1 w')
  (hH:∀ b,b∉D->Ai H b=Ai h b)
  (hD:∀ b x,b∈D->Ai H b=some x->x.dead=false->Ai h1 b=some x)
  (hD1:∀ b x,Ai h1 b=some x->b∈D/\Ai H b=some x)
  (hnew:∀ b x,b∈D->b∉ids->Ai h b≠some x)
  (hold:∀ b x,b∈ids->Ai h b=some x->∃ x',(Ai H b=some x'/\x'.mp=x.mp)/\(x'.dead=true\/(x.dead=false/\β1 b=β b/\x'.sz=x.sz/\(x.mp=false->x'.cells.length=x.cells.length))))
  (hids:∀ b∈ids,b∈D)
  (os:w'.os=w.os) (tape:w'.tape=w.tape) (output:w'.output=w.output) (size:w.heap.size<=w'.heap.size)
  (frame:∀ k,k<w.heap.size->(¬ ∃ b x o,b∈ids/\Ai h b=some x/\x.dead=false/\x.sealed=false/\β b=some (k,o))->w'.heap[k]?=w.heap[k]?)
  (wr:∀ k,Ace β1 h1 k->k<w.heap.size->∃ b x o,b∈ids/\Ai h b=some x/\x.dead=false/\x.sealed=false/\β b=some (k,o))
  (jup:∀ o k,J0 o k->J o k\/(∃ b x o,b∈ids/\Ai h b=some x/\x.dead=false/\x.sealed=false/\β b=some (k,o))\/w.heap.size<=k)
  (sizes:∀ k,Ba w k<=Ba w' k) :
  Step J β h w (fun o k=>J o k\/J0 o k) (fun b=>if b∈D then β1 b else β b) H w'/\Ext J0 β1 h1 w' (fun o k=>J o k\/J0 o k) (fun b=>if b∈D then β1 b else β b) H w':=by
 have E0:Ext J0 β1 h1 w' (fun o k=>J o k\/J0 o k) (fun b=>if b∈D then β1 b else β b) H w':=by
  refine⟨fun _ _ G=>.inr G,fun _ _ _=>rfl,fun b x I=>?_,fun _ _ _ _=>A2s _⟩
  obtain⟨h2,h3⟩:=hD1 b x I
  refine⟨x,⟨h3,rfl⟩,?_⟩
  cases T:x.dead
  ·exact .inr ⟨rfl,by simp[h2],rfl,fun _=>rfl⟩
  ·exact .inl rfl
 have keepJ:∀ o k,J o k->w'.heap[k]?=w.heap[k]?:=by
  intro o k G
  refine frame k (S.jlt o k G) ?_
  rintro⟨b,x,o',_,I,T,hs,hβ⟩
  exact S.unJ I T hs hβ o G
 have E:Ext J β h w (fun o k=>J o k\/J0 o k) (fun b=>if b∈D then β1 b else β b) H w':=by
  refine⟨fun _ _ G=>.inl G,keepJ,fun b x I=>?_,fun b k o _=>sizes k⟩
  by_cases hi:b∈ids
  ·obtain⟨x',h2,h3⟩:=hold b x hi I
   refine⟨x',h2,?_⟩
   simp only[hids b hi,if_true]
   exact h3
  ·have hnd:b∉D:=fun T=>hnew b x T hi I
   refine⟨x,⟨by rw[hH b hnd];exact I,rfl⟩,?_⟩
   cases T:x.dead
   ·exact .inr ⟨rfl,by simp[hnd],rfl,fun _=>rfl⟩
   ·exact .inl rfl
 have out:∀{b x},b∉D->Ai H b=some x->Ai h b=some x:=fun I hx=>by rw[<-hH _ I];exact hx
 refine⟨⟨E,⟨?_,?_,S.gl.ext E,fun b x hx T hm=>?_,fun b x hx T hm=>by
   by_cases I:b∈D
   ·have h2:=hD b x I hx T
    have M:=S1.mblk b x h2 T hm
    refine M.keep (by simp[I]) (fun _ _ _=>rfl) (fun g k o hβ G=>?_)
    rcases G with G|G
    ·exfalso
     by_cases hk:k<w.heap.size
     ·obtain⟨b',x',o',hb',hx',Y,hs',L⟩:=wr k ⟨b,x,o,h2,T,M.2.1,hβ⟩ hk
      exact S.unJ hx' Y hs' L g G
     ·exact hk (S.jlt g k G)
    ·exact G
   ·have h2:=out I hx
    have M:=S.mblk b x h2 T hm
    have hnm:∀ k o,β b=some (k,o)->¬ ∃ b x o,b∈ids/\Ai h b=some x/\x.dead=false/\x.sealed=false/\β b=some (k,o):=by
     rintro k o h3 ⟨b',x',o',hb',hx',Y,hs',L⟩
     have:=S.sep b b' x x' k o o' h2 hx' T Y M.2.1 h3 L
     subst this
     exact I (hids b hb')
    refine M.keep (by simp[I]) (fun k o hβ=>frame k (E' S h2 T hβ) (hnm k o hβ)) (fun g k o hβ G=>?_)
    rcases G with G|G
    ·exact G
    ·rcases jup g k G with G|G|G
     ·exact G
     ·exact absurd G (hnm k o hβ)
     ·have:=E' S h2 T hβ;omega,?_⟩,os,tape,output,size,?_,?_,?_⟩,E0⟩
 ·rintro o k (G|G)
  ·exact A3e (S.jlt o k G) size
  ·exact S1.jlt o k G
 ·rintro k (G|G)
  ·exact .inl (S.jft k G)
  ·exact .inr (S1.jft k G)
 ·by_cases I:b∈D
  ·have h2:=hD b x I hx T
   rcases S1.blk b x h2 T hm with⟨h3,h4⟩|⟨k,o,cs,ty,fr,h3,h4,h5,h6,h7,h8,h9⟩
   ·exact .inl ⟨by simp[I,h3],h4⟩
   ·refine .inr ⟨k,o,cs,ty,fr,by simp[I,h3],h4,h5,h6,h7.ext E0,fun hs g G=>?_,fun hs=>.inr (h9 hs)⟩
    rcases G with G|G
    ·by_cases hk:k<w.heap.size
     ·obtain⟨b',x',o',hb',hx',Y,hs',L⟩:=wr k ⟨b,x,o,h2,T,hs,h3⟩ hk
      exact S.unJ hx' Y hs' L g G
     ·exact hk (S.jlt g k G)
    ·exact h8 hs g G
  ·have h2:=out I hx
   rcases S.blk b x h2 T hm with⟨h3,h4⟩|⟨k,o,cs,ty,fr,h3,h4,h5,h6,h7,h8,h9⟩
   ·exact .inl ⟨by simp[I,h3],h4⟩
   ·have hk:=UC h4
    have hnm:x.sealed=false->¬ ∃ b x o,b∈ids/\Ai h b=some x/\x.dead=false/\x.sealed=false/\β b=some (k,o):=by
     rintro hs ⟨b',x',o',hb',hx',Y,hs',L⟩
     have:=S.sep b b' x x' k o o' h2 hx' T Y hs h3 L
     subst this
     exact I (hids b hb')
    have same:w'.heap[k]?=w.heap[k]?:=by
     cases hs:x.sealed with
     |false=>exact frame k hk (hnm hs)
     |true=>exact keepJ _ k (h9 hs)
    refine .inr ⟨k,o,cs,ty,fr,by simp[I,h3],by rw[same];exact h4,h5,h6,h7.ext E,fun hs g G=>?_,fun hs=>.inl (h9 hs)⟩
    rcases G with G|G
    ·exact h8 hs g G
    ·rcases jup g k G with G|G|G
     ·exact h8 hs g G
     ·exact hnm hs G
     ·omega
 ·intro b b' x x' k o o' hx hx' T Y hs hβ L
  by_cases I:b∈D<;>by_cases hb':b'∈D
  ·simp[I]at hβ;simp[hb']at L
   exact S1.sep b b' x x' k o o' (hD b x I hx T) (hD b' x' hb' hx' Y) T Y hs hβ L
  ·exfalso
   simp[I]at hβ;simp[hb']at L
   have h2:=out hb' hx'
   have hk:=E' S h2 Y L
   obtain⟨b2,x2,o2,hb2,hx2,hd2,hs2,hβ2⟩:=wr k ⟨b,x,o,hD b x I hx T,T,hs,hβ⟩ hk
   have:=S.sep b2 b' x2 x' k o2 o' hx2 h2 hd2 Y hs2 hβ2 L
   subst this
   exact hb' (hids _ hb2)
  ·exfalso
   simp[I]at hβ;simp[hb']at L
   have h2:=out I hx
   have h3:=hD b' x' hb' hx' Y
   have hk:=E' S h2 T hβ
   have hnm:¬ ∃ b x o,b∈ids/\Ai h b=some x/\x.dead=false/\x.sealed=false/\β b=some (k,o):=by
    rintro⟨b2,x2,o2,hb2,hx2,hd2,hs2,hβ2⟩
    have:=S.sep b b2 x x2 k o o2 h2 hx2 T hd2 hs hβ hβ2
    subst this
    exact I (hids _ hb2)
   cases hs':x'.sealed with
   |false=>exact hnm (wr k ⟨b',x',o',h3,Y,hs',L⟩ hk)
   |true =>
    rcases jup _ k (S1.seJ h3 Y hs' L)with G|G|G
    ·exact S.unJ h2 T hs hβ _ G
    ·exact hnm G
    ·omega
  ·simp[I]at hβ;simp[hb']at L
   exact S.sep b b' x x' k o o' (out I hx) (out hb' hx') T Y hs hβ L
 ·intro k hk hm
  exact frame k hk (fun ⟨b,x,o,_,hx,T,hs,hβ⟩=>hm ⟨b,x,o,hx,T,hs,hβ⟩)
 ·rintro k ⟨b,x,o,hx,T,hs,hβ⟩ hk
  by_cases I:b∈D
  ·simp[I]at hβ
   obtain⟨b2,x2,o2,_,hx2,hd2,hs2,hβ2⟩:=wr k ⟨b,x,o,hD b x I hx T,T,hs,hβ⟩ hk
   exact⟨b2,x2,o2,hx2,hd2,hs2,hβ2⟩
  ·simp[I]at hβ
   exact⟨b,x,o,out I hx,T,hs,hβ⟩
 ·rintro o k (G|G)
  ·exact .inl G
  ·rcases jup o k G with G|⟨b,x,o2,_,hx,T,hs,hβ⟩|G
   ·exact .inl G
   ·exact .inr (.inl ⟨b,x,o2,hx,T,hs,hβ⟩)
   ·exact .inr (.inr G)
end Gx
namespace Gx
open Go
def Ahl{l:List Nat}:YK l=true↔l=[]:=by cases l<;>simp[YK]
def IZ{α β:Type}{f:α->β}:∀{l:List α},(l.map f).Nodup->l.Nodup
|[],_=>A9c
|a::r,h=>by
  rw[A3o,A4b]at h
  exact A4b.2 ⟨fun k=>h.1 (A3w.2 ⟨a,k,rfl⟩),IZ h.2⟩
def I_{α:Type}{p:α->Bool}:∀{l:List α},l.Nodup->(l.filter p).Nodup
|[],_=>A9c
|a::r,h=>by
  rw[A4b]at h
  rw[A8o]
  split
  ·exact A4b.2 ⟨fun k=>h.1 (A5g.1 k).1,I_ h.2⟩
  ·exact I_ h.2
def cH{base:Nat}{l:List Nat}{p:Nat×Nat}(k:p∈An base l):p.1∈l:=by
 have:p.1∈(An base l).map (·.1):=A3w.2 ⟨p,k,rfl⟩
 rw[J4]at this;exact this
def Aj7{σ:Nat->Nat}:∀{l:List Nat}{a b:Nat},(l.map σ).Nodup->a∈l->b∈l->σ a=σ b->a=b
|[],a,b,_,I,_,_=>by simp at I
|i::r,a,b,G,I,T,L=>by
  rw[A3o,A4b]at G
  rcases A28.1 I with k|k<;>rcases A28.1 T with D|D
  ·rw[k,D]
  ·subst k;exact absurd (A3w.2 ⟨b,D,L.symm⟩) G.1
  ·subst D;exact absurd (A3w.2 ⟨a,k,L⟩) G.1
  ·exact Aj7 G.2 k D L
mutual
def Apc:∀{a b:AV},Ss a b=true->a=b
|.int k n,b,h=>by cases b<;>simp[Ss,Lo]at h;obtain⟨rfl,rfl⟩:=h;rfl
|.bool x,b,h=>by cases b<;>simp[Ss]at h;subst h;rfl
|.str x,b,h=>by cases b<;>simp[Ss]at h;subst h;rfl
|.nsl,b,h=>by cases b<;>simp[Ss]at h;rfl
|.imm c n z t o,b,h=>by cases b<;>simp[Ss]at h;obtain⟨h1,rfl,rfl,rfl,rfl⟩:=h;rw[Y0 h1]
|.iptr c o,b,h=>by cases b<;>simp[Ss]at h;obtain⟨h1,rfl⟩:=h;rw[Y0 h1]
|.pagg c o,b,h=>by cases b<;>simp[Ss]at h;obtain⟨h1,rfl⟩:=h;rw[Y0 h1]
|.own x f n,b,h=>by cases b<;>simp[Ss]at h;obtain⟨rfl,rfl,rfl⟩:=h;rfl
|.optr x f,b,h=>by cases b<;>simp[Ss]at h;obtain⟨rfl,rfl⟩:=h;rfl
|.agg c,b,h=>by cases b<;>simp[Ss]at h;rw[Y0 h]
|.tup c,b,h=>by cases b<;>simp[Ss]at h
|.fn f c,b,h=>by cases b<;>simp[Ss]at h
|.nilptr,b,h=>by cases b<;>simp[Ss]at h;rfl
|.nilfn,b,h=>by cases b<;>simp[Ss]at h
|.undef,b,h=>by cases b<;>simp[Ss]at h;rfl
|.omap x,b,h=>by cases b<;>simp[Ss]at h
def Y0:∀{a b:List AV},E_ a b=true->a=b
|[],b,h=>by cases b<;>simp[E_]at h;rfl
|a::r,b,h=>by
  cases b with
  |nil=>simp[E_]at h
  |cons x s=>rw[E_,A2y]at h;rw[Apc h.1,Y0 h.2]
end
def Apd{x y:Blk}(h:Ao0 x y=true):x=y:=by
 cases x;cases y
 simp[Ao0]at h
 obtain⟨rfl,rfl,rfl,rfl,rfl,k,rfl,rfl⟩:=h
 rw[Y0 k]
def UI(g:Bp):∀ L:Gw,(NC g L).Sublist L
|[]=>.slnil
|(b,some x)::r=>by
  rw[NC]
  cases Ab8 g b x
  ·exact(UI g r).cons_cons _
  ·exact(UI g r).cons _
|(b,none)::r=>(UI g r).cons_cons _
def iH(g:Bp):∀(L:Gw)(p:Nat×Option Blk),p∈L->p∈NC g L\/∃ x,p.2=some x/\g p.1=some x
|[],p,k=>by simp at k
| (b,some x)::r,p,k=>by
  rw[NC]
  rcases A28.1 k with rfl|k
  ·cases hq:Ab8 g b x with
   |false=>exact .inl (A5v ..)
   |true =>
    refine .inr ⟨x,rfl,?_⟩
    unfold Ab8 at hq
    cases D:g b with
    |none=>rw[D]at hq;simp at hq
    |some y=>rw[D]at hq;rw[Apd hq]
  ·rcases iH g r p k with h|h
   ·left
    cases Ab8 g b x
    ·exact A4w _ h
    ·exact h
   ·exact .inr h
| (b,none)::r,p,k=>by
  show p∈(b,none)::NC g r\/_
  rcases A28.1 k with rfl|k
  ·exact .inl (A5v ..)
  ·rcases iH g r p k with h|h
   ·exact .inl (A4w _ h)
   ·exact .inr h
def vM{T L M:Gw}{h:Ap}(hs:T.Sublist L)(hk:∀ p∈L,p∈T\/∃ x,p.2=some x/\Ai h p.1=some x)(Y:((L++M).map (·.1)).Nodup)(b:Nat):Ai (Al (T++M) h) b=Ai (Al (L++M) h) b:=by
 have k:(T++M).Sublist (L++M):=hs.append (List.Sublist.refl M)
 have hn':((T++M).map (·.1)).Nodup:=(k.map _).nodup Y
 cases hi:A6 (T++M) b with
|true =>
  obtain⟨p,G,rfl⟩:=A3w.1 (Yz.1 hi)
  obtain⟨i,o⟩:=p
  rw[Gm hn' G,Gm Y (k.subset G)]
| false =>
  rw[B3 _ _ _ hi]
  cases hj:A6 (L++M) b with
  |false=>rw[B3 _ _ _ hj]
  | true =>
   obtain⟨p,G,rfl⟩:=A3w.1 (Yz.1 hj)
   have D:p∉T++M:=fun h=>by
    have:=Yz.2 (A3w.2 ⟨p,h,rfl⟩);rw[hi]at this;cases this
   obtain⟨i,o⟩:=p
   rcases A27.1 G with h1|h1
   ·rcases hk _ h1 with I|⟨x,I,h3⟩
    ·exact absurd (A27.2 (.inl I)) D
    ·simp only at I h3
     subst I
     rw[Gm Y G,h3]
   ·exact absurd (A27.2 (.inr h1)) D
mutual
def Al4{σ ρ:Nat->Nat}:∀{x:AV},(∀ b∈Em x,σ (ρ b)=b)->Qw σ (Qw ρ x)=x
|.own b o n,h=>by rw[Qw,Qw,h b (by simp[Em])]
|.optr b o,h=>by rw[Qw,Qw,h b (by simp[Em])]
|.omap b,h=>by rw[Qw,Qw,h b (by simp[Em])]
|.agg c,h=>by rw[Qw,Qw,Zs (x:=c) fun b hb=>h b (by simpa[Em]using hb)]
|.tup c,h=>by rw[Qw,Qw,Zs (x:=c) fun b hb=>h b (by simpa[Em]using hb)]
|.fn f c,h=>by rw[Qw,Qw,Zs (x:=c) fun b hb=>h b (by simpa[Em]using hb)]
|.int ..,_=>rfl
|.bool _,_=>rfl
|.str _,_=>rfl
|.nsl,_=>rfl
|.imm ..,_=>rfl
|.iptr ..,_=>rfl
|.pagg ..,_=>rfl
|.nilptr,_=>rfl
|.nilfn,_=>rfl
|.undef,_=>rfl
def Zs{σ ρ:Nat->Nat}:∀{x:List AV},(∀ b∈Fv x,σ (ρ b)=b)->Qd σ (Qd ρ x)=x
|[],_=>rfl
|v::r,h=>by rw[Qd,Qd,Al4 (x:=v) fun b hb=>h b (by simp[Fv,hb]),Zs (x:=r) fun b hb=>h b (by simp[Fv,hb])]
end
def Al5{σ ρ:Nat->Nat}{x:Blk}(h:x.pure=false->∀ b∈Fv x.cells,σ (ρ b)=b):Km σ (Km ρ x)=x:=by
 obtain⟨d,s,p,t,sz,c,m,ty⟩:=x
 cases p with
|true=>rfl
|false =>
  unfold Km
  simp only[cond_false]
  rw[Zs (h rfl)]
def cI{d:Nat}:∀{l:List Nat}{base:Nat}{p:Nat×Nat},l.Nodup->p∈An base l->p.1∈l/\Gz d (An base l) p.1=p.2
|[],_,_,_,k=>by simp[An]at k
| i::r,base,p,D,k=>by
  rw[A4b]at D
  rw[An]at k
  rcases A28.1 k with rfl|k
  ·exact⟨A5v ..,by rw[An,Gz,A9v];rfl⟩
  ·obtain⟨G,I⟩:=cI (d:=d) D.2 k
   refine⟨A4w _ G,?_⟩
   rw[An,Gz]
   cases L:beq i p.1 with
   |false=>exact I
   |true=>have:=A26 L;rw[this]at D;exact absurd G D.1
def iJ(l:List Nat):∀ L:List (Nat×Nat),(WM l L).Sublist L
|[]=>.slnil
|p::r=>by
  rw[WM]
  cases Dj l p.2
  ·exact(iJ l r).cons_cons _
  ·exact(iJ l r).cons _
def xO(l:List Nat):∀(L:List (Nat×Nat))(p:Nat×Nat),p∈L->p∈WM l L\/Dj l p.2=true
|[],p,k=>by simp at k
| q::r,p,k=>by
  rw[WM]
  rcases A28.1 k with rfl|k
  ·cases hq:Dj l p.2 with
   |false=>exact .inl (A5v ..)
   |true=>exact .inr rfl
  ·rcases xO l r p k with h|h
   ·left
    cases Dj l q.2
    ·exact A4w _ h
    ·exact h
   ·exact .inr h
def Ahm{v:AV}(h:Wh v=false):pM v=v:=by cases v<;>simp_all[Wh,pM]
def Ape {E:Env} (hT:WU E.P E.tbl):YP E:=by
 intro R r k J β h w g d f args vs S hl hh hv
 unfold xC at hh
 obtain⟨⟨args',im,fz⟩,hp,h1⟩:=ub hh
 simp only at h1
 obtain⟨hc,h2⟩:=uc h1
 simp only[A2y]at hc
 obtain⟨hal,him,hin,hdj,L,_⟩:=hc
 generalize hids:Ze g im=ids at *
 generalize hρ:Gz 0 (An 100000 ids)=ρ at *
 have hal:=QF hal
 have him:=O1 him
 have hdj:=Aj6 hdj
 have L:=Tl L
 have hg:∀ b∈ids,g b=Ai h b:=fun b G=>by obtain⟨x,I,_⟩:=hal b G;rw[I,hl b x I]
 rw[CG (g:=Ai h) hg]at hin
 have hin:=O1 hin
 rw[xN (g':=Ai h) hg]at h2
 obtain⟨hA,hB⟩:=Zq (fz:=fz) S hl hp (fun _ h=>h) hv
 have aliveH:∀ b∈ids,∃ x,Ai h b=some x/\x.dead=false:=fun b G=>by obtain⟨x,I,hd⟩:=hal b G;exact⟨x,hl b x I,hd⟩
 have SJ:SimH (JS J β h fz) (NK ρ ids β) (sub (Ai h) ρ ids) w:=by
  refine(S.ren L hin).grow (fun o k Y=>.inl Y) ?_ ?_ ?_
  ·rintro o k (Y|⟨_,b,x,o',_,I,hd,_,hβ⟩)
   ·exact S.jlt o k Y
   ·exact E' S I hd hβ
  ·rintro k (Y|⟨h0,_⟩)
   ·exact .inl (S.jft k Y)
   ·cases h0
  ·intro c y k o hy hd hs hβ q Y
   obtain⟨b,x,G,rfl,I,rfl⟩:=Nh L c y hy
   rw[G2 L G]at hβ
   rcases Y with Y|⟨_,b',x',o',hb',hx',hd',hs',hβ'⟩
   ·exact S.unJ I hd hs hβ _ Y
   ·have:=S.sep b b' x x' k o o' I hx' hd hd' hs hβ hβ'
    subst this
    exact hdj b hb' G
 have RJ:Reps (JS J β h fz) (NK ρ ids β) (sub (Ai h) ρ ids) w (Qd ρ args') vs:=Reps.ren L (fun b G=>him b (hB b G)) hA
 obtain⟨rv,rh,hF,h3,hK⟩:=Ac2 hT h2
 have hcall:=hF _ _ w vs SJ RJ
 obtain⟨horg,h4⟩:=Ag4 h3
 have hdo:cond (YK fz) rv (pM rv)=rv:=by
  cases he:YK fz with
  |true=>rfl
  |false =>
   rw[he]at horg
   simp at horg
   exact Ahm horg.1
 rw[hdo]at h4
 obtain⟨hc2,h5⟩:=uc h4
 simp only[A2y]at hc2
 obtain⟨hnal,hn16,hrv,houts,hrin,hσn⟩:=hc2
 generalize hall:Ze (Ai rh) (Em rv++(An 100000 ids).map (·.2))=all at *
 generalize hnew:all.filter (fun b=>!Dj ((An 100000 ids).map (·.2)) b)=new at *
 generalize hσ:Gz 0 ((An 100000 ids).map (fun p=>(p.2,p.1))++An (nid d) new)=σ at *
 have hnal:=QF hnal
 have hrv:=O1 hrv
 have houts:=O1 houts
 have hrin:=O1 hrin
 have hσn:=Tl hσn
 have hn16:new.length<=16:=by simpa using hn16
 have back:∀ b∈ids,σ (ρ b)=b:=by
  intro b G
  rw[<-hσ,X0,if_pos,<-hρ]
  ·exact qz G
  ·rw[A51]
   have:=GJ (d:=0) (l:=An 100000 ids) (b:=b) (by rw[J4];exact G)
   rw[hρ]at this
   exact this
 have idn:ids.Nodup:=(List.pairwise_map.1 L).imp fun h e=>h (by rw[e])
 have hTs:(cond (Dj E.cob (d+7000000)) (NC g ((An 100000 ids).map fun p=>(p.1,(Ai rh p.2).map (Km σ)))) ((cond (Dj E.cob (d+8000000)) (WM (IN E.tbl f) (An 100000 ids)) (An 100000 ids)).map fun p=>(p.1,(Ai rh p.2).map (Km σ)))).Sublist ((An 100000 ids).map fun p=>(p.1,(Ai rh p.2).map (Km σ))):=by
  cases Dj E.cob (d+7000000)
  ·cases Dj E.cob (d+8000000)
   ·exact List.Sublist.refl _
   ·exact(iJ _ _).map _
  ·exact UI g _
 have hTm:∀ p∈((An 100000 ids).map fun p=>(p.1,(Ai rh p.2).map (Km σ))),p∈(cond (Dj E.cob (d+7000000)) (NC g ((An 100000 ids).map fun p=>(p.1,(Ai rh p.2).map (Km σ)))) ((cond (Dj E.cob (d+8000000)) (WM (IN E.tbl f) (An 100000 ids)) (An 100000 ids)).map fun p=>(p.1,(Ai rh p.2).map (Km σ))))\/∃ x,p.2=some x/\Ai h p.1=some x:=by
  intro p hp
  cases Dj E.cob (d+7000000)
  ·cases Dj E.cob (d+8000000)
   ·exact .inl hp
   ·obtain⟨q,hq,rfl⟩:=A3w.1 hp
    rcases xO (IN E.tbl f) _ q hq with h6|h6
    ·exact .inl (A3w.2 ⟨q,h6,rfl⟩)
    ·right
     obtain⟨h7,h8⟩:=cI (d:=0) idn hq
     rw[hρ]at h8
     obtain⟨x,I,_⟩:=aliveH q.1 h7
     have e:=hK q.2 h6
     rw[<-h8,Xz L q.1 x h7 I,h8]at e
     refine⟨x,?_,I⟩
     show(Ai rh q.2).map (Km σ)=some x
     rw[e,A71,Al5 fun hp b G=>back b (hin b (UF h7 I hp b G))]
  ·rcases iH g _ p hp with h6|⟨x,h6,h7⟩
   ·exact .inl h6
   ·exact .inr ⟨x,h6,hl _ _ h7⟩
 generalize cond (Dj E.cob (d+7000000)) (NC g ((An 100000 ids).map fun p=>(p.1,(Ai rh p.2).map (Km σ)))) ((cond (Dj E.cob (d+8000000)) (WM (IN E.tbl f) (An 100000 ids)) (An 100000 ids)).map fun p=>(p.1,(Ai rh p.2).map (Km σ)))=T at h5 hTs hTm
 refine⟨_,_,h5,fun hfree=>Calls.mono hcall ?_⟩
 rintro e w' ⟨vc,J',β',rfl,F,hR⟩
 refine⟨vc,rfl,?_⟩
 have ρall:∀ b∈ids,ρ b∈all:=by
  intro b G
  refine houts _ ?_
  have:=GJ (d:=0) (l:=An 100000 ids) (b:=b) (by rw[J4];exact G)
  rw[hρ]at this
  exact this
 have σout:∀ c∈all,c∈(An 100000 ids).map (·.2)->σ c∈ids:=by
  intro c _ hc
  rw[<-hσ,X0,if_pos (by rw[A51];exact hc)]
  have:=GJ (d:=0) (l:=(An 100000 ids).map (fun p=>(p.2,p.1))) (b:=c) (by rw[A51];exact hc)
  rw[A51]at this
  have e:(An 100000 ids).map ((fun x=>x.2)∘fun p=>(p.2,p.1))=ids:=J4
  rw[e]at this
  exact this
 have newmem:∀ c∈new,c∈all/\c∉(An 100000 ids).map (·.2):=by
  intro c hc
  rw[<-hnew]at hc
  obtain⟨h6,h7⟩:=A5g.1 hc
  refine⟨h6,fun hm=>?_⟩
  rw[Ht.2 hm]at h7;simp at h7
 have σnew:∀ c∈new,σ c=Gz 0 (An (nid d) new) c:=by
  intro c hc
  rw[<-hσ,X0,if_neg]
  rw[A51];exact(newmem c hc).2
 have allcases:∀ c∈all,c∈(An 100000 ids).map (·.2)\/c∈new:=by
  intro c hc
  by_cases hm:c∈(An 100000 ids).map (·.2)
  ·exact .inl hm
  ·refine .inr ?_
   rw[<-hnew]
   refine A5g.2 ⟨hc,?_⟩
   cases hq:Dj ((An 100000 ids).map (·.2)) c with
   |false=>rfl
   |true=>exact absurd (Ht.1 hq) hm
 have newFree0:∀ c∈(An (nid d) new).map (·.2),A6 (T++(An (nid d) new).map (fun p=>(p.2,(Ai rh p.1).map (Km σ)))) c=true:=by
  intro c hc
  refine Yz.2 ?_
  rw[A7y,A51]
  exact A27.2 (.inr hc)
 have hH0:=fun b=>vM (h:=h) (M:=(An (nid d) new).map (fun p=>(p.2,(Ai rh p.1).map (Km σ)))) hTs hTm (b:=b)
 generalize hups:((An 100000 ids).map fun p=>(p.1,(Ai rh p.2).map (Km σ)))++(An (nid d) new).map (fun p=>(p.2,(Ai rh p.1).map (Km σ)))=ups at *
 have keys:ups.map (·.1)=ids++(An (nid d) new).map (·.2):=by
  rw[<-hups,A7y,A51,A51]
  congr 1
  exact J4
 have newFree:∀ c∈(An (nid d) new).map (·.2),Ai h c=none:=by
  intro c hc
  refine hfree c (newFree0 c hc) ?_
  have:=Tn hc
  unfold GB
  simp;omega
 have keysN:(ups.map (·.1)).Nodup:=by
  rw[keys,List.nodup_append]
  refine⟨IZ L,Zr,fun a ha b G e=>?_⟩
  subst e
  obtain⟨x,I,_⟩:=aliveH a ha
  rw[newFree a G]at I;cases I
 have upsOld:∀ b∈ids,(b,(Ai rh (ρ b)).map (Km σ))∈ups:=by
  intro b G
  rw[<-hups]
  refine A27.2 (.inl (A3w.2 ⟨(b,ρ b),?_,rfl⟩))
  rw[<-hρ];exact QG G
 have upsNew:∀ c∈new,(σ c,(Ai rh c).map (Km σ))∈ups:=by
  intro c hc
  rw[<-hups]
  refine A27.2 (.inr (A3w.2 ⟨(c,σ c),?_,rfl⟩))
  rw[σnew c hc];exact QG hc
 have J0:∃ J0:Bool->Nat->Prop,SimH J0 β' rh w'/\Rep J0 β' rh w' rv vc/\∀ o k,J0 o k->J o k\/Ace (NK ρ ids β) (sub (Ai h) ρ ids) k\/w.heap.size<=k:=by
  cases he:YK fz with
  |true =>
   have:=Ahl.1 he
   subst this
   refine⟨J',F.sim,hR,fun o k Y=>?_⟩
   rcases F.jup o k Y with(Y|⟨_,b,x,o',G,_⟩)|Y
   ·exact .inl Y
   ·simp at G
   ·exact .inr Y
  | false =>
   rw[he]at horg
   simp at horg
   refine⟨fun _=>J' false,F.sim.noOrg horg.2,Rep.noOrg horg.1 hR,fun o k Y=>?_⟩
   rcases F.jup false k Y with(h6|⟨h0,_⟩)|h6
   ·left
    cases o
    ·exact h6
    ·exact S.jft k h6
   ·cases h0
   ·exact .inr h6
 obtain⟨J0,S0,R0,jup0⟩:=J0
 have S1:=S0.ren hσn hrin
 have R1:=Rep.ren hσn hrv R0
 have hH:=fun b=>hH0 b keysN
 have M:=Step.merge (J:=J) (J0:=J0) (J1:=J0) (H:=Al (T++(An (nid d) new).map (fun p=>(p.2,(Ai rh p.1).map (Km σ)))) h) (D:=ids++(An (nid d) new).map (·.2)) (ids:=ids) S S1
  (fun b G=>(hH b).trans (B3 _ _ _ (by
   cases hi:A6 ups b with
   |false=>rfl
   | true=>exact absurd (by rw[<-keys];exact Yz.1 hi) G)))
  (fun b x G I hd=>by
   rcases A27.1 G with G|G
   ·rw[hH,Gm keysN (upsOld b G)]at I
    cases hq:Ai rh (ρ b)with
    |none =>
     rw[hq]at I;simp at I
     obtain⟨y,_,rfl⟩:=I
     simp[Ahk]at hd
    |some y =>
     rw[hq]at I;simp at I;subst I
     have:=Xz (g:=Ai rh) hσn (ρ b) y (ρall b G) hq
     rw[back b G]at this
     exact this
   ·obtain⟨c,hc,rfl⟩:∃ c∈new,σ c=b:=by
     obtain⟨p,hp,rfl⟩:=A3w.1 G
     have hp1:p.1∈new:=cH hp
     refine⟨p.1,hp1,?_⟩
     rw[σnew _ hp1]
     have:∀{base:Nat}{l:List Nat}{p:Nat×Nat},l.Nodup->p∈An base l->Gz 0 (An base l) p.1=p.2:=by
      intro base l
      induction l generalizing base with
      |nil=>intro p _ hp;simp[An]at hp
      | cons i r ih =>
       intro p hn hp
       rw[A4b]at hn
       rw[An]at hp ⊢
       rw[Gz]
       rcases A28.1 hp with rfl|hp
       ·simp
       ·have:p.1∈r:=cH hp
        rw[PX (fun e=>hn.1 (by rw[e];exact this))]
        exact ih hn.2 hp
     refine this ?_ hp
     rw[<-hnew]
     exact I_ (IZ hσn)
    rw[hH,Gm keysN (upsNew c hc)]at I
    obtain⟨y,hy,_⟩:=hnal c hc
    rw[hy]at I;simp at I;subst I
    exact Xz (g:=Ai rh) hσn c y (newmem c hc).1 hy)
  (fun b x G=>by
   obtain⟨c,y,hc,rfl,hy,rfl⟩:=Nh hσn b x G
   rcases allcases c hc with hm|hm
   ·have h6:=σout c hc hm
    have h7:ρ (σ c)=c:=by
     have:(all.map σ).Nodup:=hσn
     have e1:=back (σ c) h6
     have e2:=ρall (σ c) h6
     exact Aj7 this e2 hc e1
    refine⟨A27.2 (.inl h6),?_⟩
    rw[hH,Gm keysN (upsOld (σ c) h6),h7,hy];rfl
   ·refine⟨A27.2 (.inr ?_),?_⟩
    ·rw[σnew c hm]
     exact GJ (by rw[J4];exact hm)
    ·rw[hH,Gm keysN (upsNew c hm),hy];rfl)
  (fun b x G hni I=>by
   rcases A27.1 G with G|G
   ·exact hni G
   ·rw[newFree b G] at I;cases I)
  (fun b x G I=>by
   rw[hH,Gm keysN (upsOld b G)]
   cases hq:Ai rh (ρ b)with
   |none=>exact⟨Ahk x,⟨by simp[I],rfl⟩,.inl rfl⟩
   | some y =>
    cases hd:y.dead with
    |true=>have:=F.live _ _ hq;rw[hd]at this;cases this
    | false =>
     have e0:=Xz (g:=Ai h) L b x G I
     obtain⟨⟨e1,em⟩,e2,e3,e4⟩:=F.outs (ρ b) _ y e0 hq hd
     refine⟨Km σ y,⟨by simp,em⟩,.inr ?_⟩
     refine⟨e4,?_,e2,fun hmx=>?_⟩
     ·have:=G2 (β:=β') hσn (ρall b G)
      rw[back b G]at this
      rw[this,e1]
      exact G2 L G
     ·rw[Mf,e3 hmx,Mf])
  (fun b G=>A27.2 (.inl G))
  F.os F.tape F.output F.size
  (fun k hk hm=>F.frame k hk (fun hm'=>hm (rA L hm')))
  (fun k hm hk=>rA L (F.wr k (zR hσn hm) hk))
  (fun o k Y=>by
   rcases jup0 o k Y with Y|Y|Y
   ·exact .inl Y
   ·exact .inr (.inl (rA L Y))
   ·exact .inr (.inr Y))
  F.sizes
 exact⟨_,_,M.1,Rep.ext M.2 R1⟩
def CH{P:Program}{muts:Nat->List Bool}{T:List (Nat×Tw)}{hs:Hints}{N f:Nat}{k:LA}{h:Ap}{res:AV}{h':Ap}(hT:WU P T)(hm:P.follows .mixedOrders=true)
  (hh:Wz P muts T hs N f k h (fun v h'=>some (v,h'))=some (res,h')):Asy P f k h res h':=by
 unfold Wz at hh
 split at hh
 ·simp at hh
 ·rename_i fn hfn
  split at hh
  ·simp at hh
  ·rename_i c hc
   simp only at hh
   obtain⟨hc1,h1⟩:=uc hh
   simp only[A2y]at hc1
   obtain⟨Y,G⟩:=hc1
   have Y:k.length<=fn.ntmps:=by simpa using Y
   intro J β w vs S hv
   have hvl:vs.length=k.length:=((Ck).1 hv).1
   refine calls_of_wp hfn hc ?_
   have roots:∀{h:Ap}{b:Nat}{x:Blk},bX h=true->Ai h b=some x->qF b=true:=by
    intro h
    induction h with
    |nil=>intro b x _ D;simp[Ai]at D
    |cons p r ih =>
     intro b x hr D
     obtain⟨i,y⟩:=p
     rw[bX]at hr
     simp at hr
     rw[Ai]at D
     cases hi:beq i b with
     |true=>have:=A26 hi;subst this;exact hr.1
     |false=>rw[hi]at D;exact ih hr.2 (by simpa using D)
   have sgetI:∀{k:LA}{j i:Nat},Fu (qG j k) i=if j<=i then(k[i - j]?).getD .undef else .undef:=by
    intro k
    induction k with
    |nil=>intro j i;simp[qG,Fu]
    | cons v r ih =>
     intro j i
     rw[qG,Fu]
     cases hi:beq j i with
     |true=>have:=A26 hi;subst this;simp
     | false =>
      have:=W1 hi
      simp only[cond_false]
      rw[ih]
      by_cases hji:j+1<=i
      ·rw[if_pos hji,if_pos (by omega),show i - j=(i - (j+1))+1 by omega];simp
      ·rw[if_neg hji]
       by_cases L:j<=i
       ·omega
       ·rw[if_neg L]
   have I:Inv ⟨J,β,h,w⟩ fn.ntmps J β {s:=qG 0 k,h:=h} {tmps:=vs.toArray++Array.replicate (fn.ntmps - vs.toArray.size) undef,defers:=[]} w:=by
    refine⟨S,⟨fun i v hi=>?_,fun i hi=>?_⟩,?_,rfl,rfl,rfl,rfl,A2s _,fun _ _ _=>rfl,fun _ hm _=>hm,fun _ _ hj=>hj,fun _ _ hj=>.inl hj,fun _=>A2s _,?_,?_,?_⟩
    ·rw[sgetI,if_pos (A9f _)]
     by_cases hlt:i<k.length
     ·have L:k[i - 0]?=some k[i]:=by simp[hlt]
      rw[L]
      have h3:vs[i]?=some v:=by
       rw[A6m (by simp;omega)]at hi
       simpa using hi
      exact((Ck).1 hv).2 i _ _ (by simp[hlt]) h3
     ·have L:k[i - 0]?=none:=by simp;omega
      rw[L];simp[Rep]
    ·simp at hi
     rw[sgetI,if_pos (A9f _)]
     have L:k[i - 0]?=none:=by simp;omega
     rw[L];rfl
    ·simp;omega
    ·intro b x0 D;exact(qr.1 (roots G D)).2
    ·intro b x0 D;exact(qr.1 (roots G D)).1
    ·intro b x0 x D hx hd
     change Ai h b=some x0 at D
     change Ai h b=some x at hx
     rw[D]at hx;simp at hx;subst hx
     exact⟨⟨rfl,rfl⟩,rfl,fun _=>rfl,hd⟩
   have fin:∀ st' a' w' J' β',Inv ⟨J,β,h,w⟩ fn.ntmps J' β' st' a' w'->Ul {P:=P,nt:=fn.ntmps,muts:=muts,nils:=hs.nils,free:=hs.free,cob:=hs.cob,tbl:=T} fn hs.modes (h.map (·.1)) (fun v h'=>some (v,h')) st'=some (res,h') ->
     a'.defers=[]/\∃ v,(results fn a'.tmps).run P w'=.ok v w'/\∃ vc J' β',Ending.returned v=.returned vc/\FDone ⟨J,β,h,w⟩ J' β' h' w'/\Rep J' β' h' w' res vc:=by
    intro st' a' w' J' β' I' L
    obtain⟨Ee,h2',vc,J2,β2,h3,h4,h5,h6⟩:=vJ I' L
    simp at h3
    obtain⟨rfl,rfl⟩:=h3
    exact⟨I'.defers,vc,h4,vc,J2,β2,rfl,h5,h6⟩
   exact Ac1 (E:={P:=P,nt:=fn.ntmps,muts:=muts,nils:=hs.nils,free:=hs.free,cob:=hs.cob,tbl:=T}) (Ape hT) hm c I h1 fin (fun _ _ _ _ _ _ _ L=>by simp at L) fin
end Gx
namespace Gx
open Go
section
variable{R R':Type}
def Ahn(E:Env)(ops:Array Oper)(o:Oper)(st:St)(k:St->Foot->O R)(g:R->Option R'):(Ab9 E ops o st k).bind g=Ab9 E ops o st fun st f=>(k st f).bind g:=by rw[UG,UG,A2v]
def zU(ops:Array Oper)(o:Oper)(st:St)(k:St->O R)(g:R->Option R'):(hZ ops o st k).bind g=hZ ops o st fun st=>(k st).bind g:=by
 unfold hZ
 split
 ·rfl
 ·split
  ·rfl
  ·split
   ·rw[Aq]
   ·rfl
def vN(E:Env)(o:Oper)(st:St)(k:St->O R)(g:R->Option R'):(TY E o st k).bind g=TY E o st fun st=>(k st).bind g:=by
 unfold TY
 split
 ·rw[Aq]
  congr 1
  split
  ·rw[qX]
  ·rfl
 ·rfl
def rC(E:Env)(ops:Array Oper)(g:R->Option R'):∀(l:List Oper)(st:St)(tr:List Foot)(k:St->List Foot->O R),(qB E ops l st tr k).bind g=qB E ops l st tr fun st tr=>(k st tr).bind g
|[],st,tr,k=>rfl
|o::r,st,tr,k=>by
  rw[qB,qB,zU]
  congr 1;funext st
  rw[vN]
  congr 1;funext st
  rw[Ahn]
  congr 1;funext st f
  exact rC E ops g r st (f::tr) k
def vO(E:Env)(roots:List Nat)(ops:Array Oper)(draw:Bool)(st:St)(k:St->O R)(g:R->Option R'):(IR E roots ops draw st k).bind g=IR E roots ops draw st fun st=>(k st).bind g:=by
 unfold IR
 rw[rC]
 congr 1;funext st tr
 rw[Aq,A2v];rfl
def Aho(E:Env)(roots:List Nat)(H:Hint)(f:St->O R)(g:R->Option R')(st:St):(Aca E roots H f st).bind g=Aca E roots H (fun st=>(f st).bind g) st:=by
 unfold Aca
 rw[Aq,A2v,Uk,Uk]
def lX(cn:St->Option St)(D:(St->O R)->St->O R)(G:(St->Option R')->St->Option R')(g:R->Option R')(I:∀ k st,(D k st).bind g=G (fun st=>(k st).bind g) st):∀ n st,(NE cn D n st).bind g=NE cn G n st
|0,st=>rfl
|n+1,st=>by
  rw[NE,NE,I]
  congr 1;funext st
  rw[A2v]
  congr 1;funext st
  exact lX cn D G g I n st
def Ac6(E:Env)(roots:List Nat)(N:Nat)(g:R->Option R'):∀(c:Code)(H:Hint)(k:St->O R)(x:Nat->St->O R)(r:St->O R)(st:St),
  (Dw E roots N c H k x r st).bind g=Dw E roots N c H (fun st=>(k st).bind g) (fun j st=>(x j st).bind g) (fun st=>(r st).bind g) st:=by
 intro c
 induction c with
|skip=>intro H k x r st;rfl
|region id ops draw=>intro H k x r st;exact vO ..
|seq a b D G =>
  intro H k x r st
  rw[Dw,Dw,D]
  congr 1;funext st
  rw[Aho]
  congr 1;funext st
  exact G ..
|cond c a b D G =>
  intro H k x r st
  rw[Dw,Dw]
  split
  ·rw[Aq,D,G]
  ·rfl
|block id c I =>
  intro H k x r st
  rw[Dw,Dw,I]
  simp only[Aq]
|loop c I =>
  intro H k x r st
  rw[Dw,Dw,A2v,Uk,Uk]
  congr 1;funext st
  exact lX _ _ _ g (fun k st=>I ..) N st
|exit id=>intro H k x r st;rfl
|ret=>intro H k x r st;rfl
|rangeFunc=>intro H k x r st;rfl
|scope c I=>intro H k x r st;rw[Dw,Dw,I]
|label=>intro H k x r st;rfl
|goto=>intro H k x r st;rfl
|refuse=>intro H k x r st;rfl
def FF(E:Env)(st:St)(g:R->Option R'):∀(l:List ResultVar)(D:LA)(k:LA->O R),(Nc E st l D k).bind g=Nc E st l D fun l=>(k l).bind g
|[],D,k=>rfl
|.tmp t::r,D,k=>by rw[Nc,Nc];exact FF E st g r _ k
|.cell a t::r,D,k=>by
  rw[Nc,Nc,IX,IX (R:=R'),A2v]
  congr 1;funext v
  exact FF E st g r _ k
def vP(E:Env)(fn:Func)(modes:List (Nat×Nat))(outs:List Nat)(k:AV->Ap->O R)(g:R->Option R')(st:St):(Ul E fn modes outs k st).bind g=Ul E fn modes outs (fun v h=>(k v h).bind g) st:=by
 unfold Ul
 rw[FF]
 congr 1;funext l
 rw[A2v]
 congr 1;funext q
 rw[Aq];rfl
def JA(P:Program)(muts:Nat->List Bool)(T:List (Nat×Tw))(hs:Hints)(N f:Nat)(D:LA)(h:Ap)(k:AV->Ap->O R):
  Wz P muts T hs N f D h k=(Wz P muts T hs N f D h fun v h=>some (v,h)).bind fun p=>k p.1 p.2:=by
 unfold Wz
 split
 ·rfl
 ·split
  ·rfl
  ·simp only
   rw[Aq,Ac6]
   simp only[vP]
   rfl
structure Cut(R:Type)where
 c:Code
 H:Hint
 k:St->O R
 x:Nat->St->O R
 r:St->O R
noncomputable def Aug(E:Env)(roots:List Nat)(N:Nat):List Nat->Code->Hint->(St->O R)->(Nat->St->O R)->(St->O R)->List (St->O R)->Cut R
|[],c,H,k,x,r,_=>⟨c,H,k,x,r⟩
|d::p,.seq a b,H,k,x,r,ks=>cond (beq d 0) (Aug E roots N p a H.a (Aca E roots H fun st=>Dw E roots N b H.b k x r st) x r ks) (Aug E roots N p b H.b k x r ks)
|d::p,.cond _ a b,H,k,x,r,ks=>cond (beq d 0) (Aug E roots N p a H.a k x r ks) (Aug E roots N p b H.b k x r ks)
|_::p,.block id c,H,k,x,r,ks=>Aug E roots N p c H.a k (fun j st=>cond (beq j id) (k st) (x j st)) r ks
|_::p,.scope c,H,k,x,r,ks=>Aug E roots N p c H.a k x r ks
|_::p,.loop c,H,_,x,r,q::ks=>Aug E roots N p c H.a (fun st=>(ND E H.live roots st).bind q) x r ks
|_::_,c,H,k,x,r,_=>⟨c,H,k,x,r⟩
def Ac7:Code->Code
|.loop c=>c
|c=>c
structure CutB(R:Type)where
 E:Env
 roots:List Nat
 N:Nat
 c:Cut R
noncomputable def A1(q:CutB R)(st:St):O R:=Dw q.E q.roots q.N q.c.c q.c.H q.c.k q.c.x q.c.r st
noncomputable def Ahp(q:CutB R)(st:St):O R:=Ao3 true (fun st=>Dw q.E q.roots q.N q.c.c q.c.H q.c.k q.c.x q.c.r st) st
def Al6(q:CutB R)(st:St):Ahp q st=A1 q st:=by unfold Ahp;rw[Uk];rfl
noncomputable def Ao(q:CutB R)(n:Nat)(st:St):O R:=NE (ND q.E q.c.H.live q.roots) (fun k st=>Dw q.E q.roots q.N (Ac7 q.c.c) q.c.H.a k q.c.x q.c.r st) n st
noncomputable def Apf(q:CutB R)(st:St):O R:=Ao3 true (NE (ND q.E q.c.H.live q.roots) (fun k st=>Dw q.E q.roots q.N (Ac7 q.c.c) q.c.H.a k q.c.x q.c.r st) q.N) st
def Apg(q:CutB R)(st:St):Apf q st=Ao q q.N st:=by unfold Apf;rw[Uk];rfl
def Avs(fn:Func):Code:=match fn.body with|some c=>c|none=>.skip
def Aph:List (Nat×List Bool)->Nat->List Bool
|[],_=>[]
|(i,l)::r,f=>cond (beq i f) l (Aph r f)
end
end Gx
namespace Gx
open Go
abbrev KF(R:Type):=AV->Ap->Option R
abbrev hL:Hint:=.leaf
abbrev hS(a b:Hint):Hint:=.node [] a b
abbrev hP(l:List Nat)(a:Hint):Hint:=.node l a .leaf
abbrev hJ(l:List Nat)(a b:Hint):Hint:=.join l a b
def Asz(P:Program)(muts:Nat->List Bool)(nt:Nat)(hs:Hints)(T:List (Nat×Tw)):Env:={P,nt,muts,nils:=hs.nils,free:=hs.free,cob:=hs.cob,tbl:=T}
noncomputable def A1r{R:Type}(P:Program)(muts:Nat->List Bool)(fn:Func)(hs:Hints)(T:List (Nat×Tw))(roots:List Nat)(N:Nat)(F:KF R)(p:List Nat)(ks:List (St->O R)):CutB R:=⟨Asz P muts fn.ntmps hs T,roots,N,Aug (Asz P muts fn.ntmps hs T) roots N p (Avs fn) hs.H (Ul (Asz P muts fn.ntmps hs T) fn hs.modes roots F) (fun _ _=>none) (Ul (Asz P muts fn.ntmps hs T) fn hs.modes roots F) ks⟩
def iv(n:Int):AV:=.int .i64 n
def op(k:Nat):AV:=.optr (300000+k) 0
def Azd:Nat->List Blk->Ap
|_,[]=>[]
|i,b::r=>(i,b)::Azd (i+1) r
def hq(l:List Blk):Ap:=Azd 300000 l
def bQ(sz:Nat)(c:LA):Blk:=⟨false,false,true,false,sz,c,false,none⟩
def bN(sz:Nat)(c:LA):Blk:=⟨false,false,false,false,sz,c,false,none⟩
def bP(t:Bool)(sz:Nat)(c:LA):Blk:=⟨false,false,true,t,sz,c,false,none⟩
def Aj{R:Type}(kd:IntKind)(c:LA)(k:Int->O R):O R:=(c.head?).bind fun x=>(k9 kd x).bind k
def Wg{R:Type}(c:LA)(k:Bool->O R):O R:=(c.head?).bind fun x=>(asBool x).bind k
def Aze{R:Type}(c:LA)(k:Lu->O R):O R:=(c.head?).bind fun x=>(Aov x).bind k
def Dd{R:Type}(sz:Nat)(c:LA)(k:LA->Nat->O R):O R:=(c.head?).bind fun x=>(Aow sz x).bind fun p=>k p.1 p.2
def Ahq(k:IntKind)(a b:Int):Int:=k.wrap ((BitVec.ofInt k.bits a &&& BitVec.ofInt k.bits b).toNat:Int)
def Qe(k:IntKind)(a b:Int):Int:=k.wrap ((BitVec.ofInt k.bits a ||| BitVec.ofInt k.bits b).toNat:Int)
def Avt(P:Program)(muts:Nat->List Bool)(N f:Nat)(run:(R:Type)->Nat->LA->Ap->KF R->O R):Prop:=∀{R Q:Type}(args:LA)(h:Ap)(k:KF R)(j:KF Q),
 (∃ T hs,WU P T/\run R N args h k=Wz P muts T hs N f args h k/\run Q N args h j=Wz P muts T hs N f args h j)\/(run R N args h k=none/\run Q N args h j=none)
def Azt{P:Program}{muts:Nat->List Bool}{T:List (Nat×Tw)}{hs:Hints}{N f:Nat}{D:LA}{h:Ap}{R Q:Type}{k:KF R}{j:KF Q}{a:O R}{b:Option Q}{p:Prop}
  (G:Wz P muts T hs N f D h k=a) (I:Wz P muts T hs N f D h j=b) (hT:WU P T):(∃ T hs,WU P T/\a=Wz P muts T hs N f D h k/\b=Wz P muts T hs N f D h j)\/p:=.inl ⟨T,hs,hT,G.symm,I.symm⟩
def Azu{R Q:Type}{p:Prop}:p\/((none:O R)=none/\(none:Option Q)=none):=.inr ⟨rfl,rfl⟩
def As0 {P:Program} {muts:Nat->List Bool} {N f:Nat} {run:(R:Type)->Nat->LA->Ap->KF R->O R} (H:Avt P muts N f run):Tw:=⟨fun {R} args h k=>run R N args h k,fun args h k=>by
 rcases H args h k (fun v h=>some (v,h))with⟨T,hs,_,e1,e2⟩|⟨e1,e2⟩
 ·rw[e1,e2];exact JA ..
 ·rw[e1,e2];rfl,[],fun _ _ _ _ _ _ hb=>Bool.noConfusion hb⟩
def Azv{P:Program}{muts:Nat->List Bool}{N f:Nat}{run:(R:Type)->Nat->LA->Ap->KF R->O R}(H:Avt P muts N f run)(D:P.follows .mixedOrders=true):qu P f (As0 H):=by
 intro k h res h' hh
 change run _ N k h _=_ at hh
 rcases H k h (fun v h=>some (v,h)) (fun v h=>some (v,h))with⟨T,hs,hT,e1,_⟩|⟨e1,_⟩
 ·rw[e1]at hh;exact CH hT D hh
 ·rw[e1]at hh;cases hh
def xP{α δ:Type}(f:α->δ){a a':α}(k:a=a'):f a=f a':=by rw[k]
structure Bd(P:Program)where
 f:Nat
 run:LA->Ap->Option ((R:Type)->KF R->O R)
 eq:∀ a h g,run a h=some g->∀(R:Type)(k:KF R),g R k=(g (AV×Ap) fun v h=>some (v,h)).bind fun p=>k p.1 p.2
 ok:∀ a h g res h',run a h=some g->(g (AV×Ap) fun v h=>some (v,h))=some (res,h')->Asy P f a h res h'
 kept:List Nat:=[]
 keq:∀ a h g res h',run a h=some g->(g (AV×Ap) fun v h=>some (v,h))=some (res,h')->∀ b,Dj kept b=true->Ai h' b=Ai h b:=by intro _ _ _ _ _ _ _ _ hb;cases hb
def Azw{R:Type}(k:KF R):Option ((R:Type)->KF R->O R)->O R
|some g=>g R k
|none=>none
def Bd.tw {P:Program} (b:Bd P):Tw:=⟨fun {R} a h k=>Azw k (b.run a h),fun {R} a h k=>by
 cases e:b.run a h with
|none=>rfl
|some g=>exact b.eq a h g e R k,b.kept,fun a h v h' hh=>by
 have hh:Azw (fun v h'=>some (v,h')) (b.run a h)=some (v,h'):=hh
 cases e:b.run a h with
|none=>rw[e]at hh;cases hh
| some g=>rw[e] at hh;exact b.keq a h g v h' e hh⟩
def Bd.tok{P:Program}(b:Bd P):qu P b.f b.tw:=by
 intro a h res h' hh
 have hh:Azw (fun v h'=>some (v,h')) (b.run a h)=some (res,h'):=hh
 cases e:b.run a h with
|none=>rw[e]at hh;cases hh
|some g=>rw[e]at hh;exact b.ok a h g res h' e hh
def Al7{P:Program}:List (Bd P)->List (Nat×Tw)
|[]=>[]
|b::r=>(b.f,b.tw)::Al7 r
def zV{P:Program}:∀ l:List (Bd P),WU P (Al7 l)
|[]=>trivial
|b::r=>⟨b.tok,zV r⟩
def Ax0 {P:Program} {f:Nat} (t:Tw) (h:qu P f t):Bd P:=⟨f,fun a h=>some fun _ k=>t.runK a h k,fun a h g e R k=>by cases e;exact t.eq a h k,fun a h g res h' e hh=>by cases e;exact ‹qu P f t› a h res h' hh,[],fun _ _ _ _ _ _ _ _ hb=>Bool.noConfusion hb⟩
def Azx {P:Program} (x y:Bd P) (e:x.f=y.f):Bd P:=⟨x.f,fun a h=>match x.run a h with | some g=>some g | none=>y.run a h,fun a h g q=>by
 split at q
 ·cases q;exact x.eq a h _ ‹_›
 ·exact y.eq a h g q,fun a h g res h' q=>by
 split at q
 ·cases q;exact x.ok a h _ res h' ‹_›
 ·rw[e];exact y.ok a h g res h' q,[],fun _ _ _ _ _ _ _ _ hb=>Bool.noConfusion hb⟩
def Ax1(P:Program)(muts:Nat->List Bool)(T:List (Nat×Tw))(hs:Hints)(N f:Nat)(a:LA)(h:Ap):Option ((R:Type)->KF R->O R)->Prop
|some g=>∀(R:Type)(F:KF R),Wz P muts T hs N f a h F=g R F
|none=>True
def A1s{P:Program}{muts:Nat->List Bool}(hm:P.follows .mixedOrders=true)(N f:Nat)(l:List (Bd P))(hs:Hints)(run:LA->Ap->Option ((R:Type)->KF R->O R))(e:∀ a h,Ax1 P muts (Al7 l) hs N f a h (run a h)):Bd P :=
 ⟨f,run,fun a h g q R k=>by
  have H:=e a h;rw[q]at H
  rw[<-H,<-H];exact JA ..,fun a h g res h' q hh=>by
  have H:=e a h;rw[q]at H
  rw[<-H] at hh;exact CH (zV l) hm hh,[],fun _ _ _ _ _ _ _ _ hb=>Bool.noConfusion hb⟩
def Al8(h:Ap):List Nat->Ap->Ap
|_,[]=>[]
|l,(b,x)::r=>(b,cond (Dj l b) ((Ai h b).getD x) x)::Al8 h l r
def Ac8{h:Ap}{l:List Nat}{b:Nat}(k:Dj l b=true):∀ h':Ap,Ai (Al8 h l h') b=(Ai h' b).map fun x=>(Ai h b).getD x
|[]=>rfl
|(c,x)::r=>by
  rw[Al8,Ai,Ai]
  cases hc:beq c b with
  |true=>have:=A26 hc;subst this;rw[k];rfl
  |false=>exact Ac8 k r
def Ax2{P:Program}(b:Bd P)(l:List Nat)(e:∀ a h g,b.run a h=some g->(l.all fun c=>(Ai h c).isSome)=true/\∀(R:Type)(k:KF R),g R k=g R fun v h'=>cond (l.all fun c=>(Ai h' c).isSome) (k v (Al8 h l h')) none):Bd P :=
 ⟨b.f,b.run,b.eq,b.ok,l,fun a h g v h' hr hh c hc=>by
  obtain⟨h1,h2⟩:=e a h g hr
  have h3:=hh
  rw[h2,b.eq a h g hr]at h3
  rw[hh,A34]at h3
  obtain⟨h4,h5⟩:=uc h3
  simp only[A3k,A6x,true_and]at h5
  have h6:=A5t.1 h1 c (Ht.1 hc)
  have h7:(Ai h' c).isSome=true:=by
   have hm:c∈l:=Ht.1 hc
   exact A5t.1 h4 c hm
  obtain⟨x,hx⟩:=A55.1 h6
  obtain⟨y,hy⟩:=A55.1 h7
  have:=Ac8 (h:=h) hc h'
  rw[h5,hy,hx]at this
  simp at this
  rw[hy,hx,this]⟩
def lW{R τ:Type}(p:(St->O R)->τ)(q:CutB R):p (Apf q)=p (Ao q q.N):=congrArg p (funext fun _=>Apg q _)
def jW{R τ:Type}(p:(St->O R)->τ)(q:CutB R):p (Ahp q)=p (A1 q):=congrArg p (funext fun _=>Al6 q _)
def vQ{α δ:Type}{f g:α->δ}(h:∀ a,f a=g a):f=g:=funext h
def rD{α β δ:Type}{f g:α->β->δ}(h:∀ a b,f a b=g a b):f=g:=funext fun _=>funext (h _)
def Axh{α β γ δ:Type}{f g:α->β->γ->δ}(h:∀ a b c,f a b c=g a b c):f=g:=funext fun _=>rD (h _)
def Aoq{α β γ ε δ:Type}{f g:α->β->γ->ε->δ}(h:∀ a b c d,f a b c d=g a b c d):f=g:=funext fun _=>Axh (h _)
def A1t{α β γ ε ζ δ:Type}{f g:α->β->γ->ε->ζ->δ}(h:∀ a b c d e,f a b c d e=g a b c d e):f=g:=funext fun _=>Aoq (h _)
def Api{α β γ ε ζ η δ:Type}{f g:α->β->γ->ε->ζ->η->δ}(h:∀ a b c d e x,f a b c d e x=g a b c d e x):f=g:=funext fun _=>A1t (h _)
def A03:Nat->Nat->List Nat->List Nat
|0,_,l=>l
|f+1,n,l=>cond (ble n 1) l (A03 f (n/4) (n%4::l))
def pz(n:Nat):List Nat:=A03 100 n []
def hK:Nat->Hint->Hint
|0,h=>h
|n+1,h=>hS hL (hK n h)
def Gu{τ:Type}{f g:Nat->τ}(h:∀ n,f n=g n->f (n+1)=g (n+1))(k:f 0=g 0:=by kernel_rfl):∀ n,f n=g n
|0=>k
|n+1=>h n (Gu h k n)
def B6{α δ:Type}{z:δ}(f:α->δ){a a':α}(D:a=a')(k:z=f a:=by kernel_rfl):z=f a':=by rw[k,D]
def QH{α β δ:Type}{z:δ}(f:α->β->δ){a a':α}{b D:β}(G:a=a')(I:b=D)(k:z=f a b:=by kernel_rfl):z=f a' D:=by rw[k,G,I]
def Azy{α β γ δ:Type}{z:δ}(f:α->β->γ->δ){a a':α}{b D:β}{c c':γ}(G:a=a')(I:b=D)(L:c=c')(k:z=f a b c:=by kernel_rfl):z=f a' D c':=by rw[k,G,I,L]
def A1u{α β γ ε ζ η θ κ δ:Type}{z:δ}(f:α->β->γ->ε->ζ->η->θ->κ->δ){a a':α}{b D:β}{c c':γ}{d d':ε}{e e':ζ}{g g':η}{i G:θ}{j I:κ}(L:a=a')(T:b=D)(Y:c=c')(h4:d=d')(h5:e=e')(h6:g=g')(h7:i=G)(h8:j=I)(k:z=f a b c d e g i j:=by kernel_rfl):z=f a' D c' d' e' g' G I:=by rw[k,L,T,Y,h4,h5,h6,h7,h8]
def Apj{R:Type}(E:Env)(roots:List Nat)(H:Hint)(f:St->O R)(st:St):O R:=cond H.isJoin ((ND E H.live roots st).bind f) (f st)
def Apk{R:Type}(E:Env)(roots:List Nat)(H:Hint)(f:St->O R):Apj E roots H f=Aca E roots H f:=by funext st;unfold Apj Aca;rw[Uk]
def Pq{R:Type}(E:Env)(roots:List Nat)(N:Nat):Code->Hint->(St->O R)->(Nat->St->O R)->(St->O R)->St->O R
|.skip,_,k,_,_,st=>k st
|.region _ ops draw,_,k,_,_,st=>IR E roots ops draw st k
|.seq a b,H,k,x,r,st=>Pq E roots N a H.a (Apj E roots H fun st=>Pq E roots N b H.b k x r st) x r st
|.cond c a b,H,k,x,r,st=>match ev st.s c with
  |.bool t=>cond t (Pq E roots N a H.a k x r st) (Pq E roots N b H.b k x r st)
  |_=>none
|.block id c,H,k,x,r,st=>Pq E roots N c H.a k (fun j st=>cond (beq j id) (k st) (x j st)) r st
|.loop c,H,_,x,r,st=>(ND E H.live roots st).bind (NE (ND E H.live roots) (fun k st=>Pq E roots N c H.a k x r st) N)
|.exit id,_,_,x,_,st=>x id st
|.ret,_,_,_,r,st=>r st
|.scope c,H,k,x,r,st=>Pq E roots N c H.a k x r st
|.label _,_,k,_,_,st=>k st
|_,_,_,_,_,_=>none
def Al9{R:Type}(E:Env)(roots:List Nat)(N:Nat):∀(c:Code)(H:Hint)(k:St->O R)(x:Nat->St->O R)(r:St->O R)(st:St),Pq E roots N c H k x r st=Dw E roots N c H k x r st:=by
 intro c
 induction c with
|skip=>intro H k x r st;rfl
|region id ops draw=>intro H k x r st;rfl
|seq a b D G =>
  intro H k x r st
  rw[Dw,Pq,D,Apk]
  congr 2;funext st
  exact G ..
|cond c a b D G =>
  intro H k x r st
  rw[Dw,Pq]
  simp only[D,G]
  rfl
|block id c I=>intro H k x r st;rw[Dw,Pq,I]
|loop c I =>
  intro H k x r st
  rw[Dw,Pq,Uk]
  have:(fun k st=>Pq E roots N c H.a k x r st)=fun k st=>Dw E roots N c H.a k x r st:=by funext k st;exact I ..
  rw[this]
|exit id=>intro H k x r st;rfl
|ret=>intro H k x r st;rfl
|rangeFunc=>intro H k x r st;rfl
|scope c I=>intro H k x r st;rw[Dw,Pq,I]
|label=>intro H k x r st;rfl
|goto=>intro H k x r st;rfl
|refuse=>intro H k x r st;rfl
def rE{R:Type}(P:Program)(muts:Nat->List Bool)(T:List (Nat×Tw))(hs:Hints)(N f:Nat)(args:LA)(h:Ap)(k:AV->Ap->O R):O R :=
 match P.funcs[f]? with
|none=>none
| some fn=>match fn.body with
  |none=>none
  |some c =>
   let E:Env:={P,nt:=fn.ntmps,muts,nils:=hs.nils,free:=hs.free,cob:=hs.cob,tbl:=T}
   let outs:=h.map (·.1)
   let fin:=Ul E fn hs.modes outs k
   cond (ble args.length fn.ntmps&&bX h) (Pq E outs N c hs.H fin (fun _ _=>none) fin {s:=qG 0 args,h}) none
def GK{R:Type}(P:Program)(muts:Nat->List Bool)(T:List (Nat×Tw))(hs:Hints)(N f:Nat)(D:LA)(h:Ap)(k:AV->Ap->O R):rE P muts T hs N f D h k=Wz P muts T hs N f D h k:=by
 unfold rE Wz
 cases P.funcs[f]? with
|none=>rfl
|some fn =>
  simp only
  cases fn.body with
  |none=>rfl
  |some c=>simp only;rw[Al9]
end Gx
namespace Gx
open Go Go.RowKit
def Ama{P:Program}{f:Nat}{t:Tw}(I:qu P f t){W:World}{avs:LA}{vs:List Value}(hr:Reps (fun _ k=>k<W.heap.size) (fun _=>none) [] W avs vs)
  (G:(t.runK avs [] fun v h=>some (v,h))=some (.bool true,[])) (L:GlobOk (fun _ k=>k<W.heap.size) W):Calls P f vs.toArray W fun e w'=>e=.returned (.bool true)/\Below W.heap.size W w':=by
 have S:SimH (fun _ k=>k<W.heap.size) (fun _=>none) [] W:=⟨fun _ _ h=>h,fun _ h=>h,L,fun b x D=>by simp[Ai]at D,fun b x D=>by simp[Ai]at D,fun b b' x x' k o o' D=>by simp[Ai]at D⟩
 refine Calls.mono (I avs [] _ _ G _ _ W vs S hr) ?_
 rintro e w' ⟨vc,J',β',rfl,F,T⟩
 rw[Rep]at T;subst T
 refine⟨rfl,F.os,F.tape,F.output,F.size,fun k Y=>F.frame k Y ?_⟩
 rintro⟨b,x,o,D,_⟩
 change Ai [] b=some x at D
 simp[Ai]at D
structure Opens(P:Program)(t:TypeId){α:Type}(e:α->List AV)(n:Nat):Prop where
 size:P.cellsOf t=n
 pos:0<n
 len:∀ a,(e a).length=n
 read:∀{H:Type}(enc:TypeId×Value->H)(W:World)(fuel:Nat)(cs:List Value)(d:DataW H)(ps:List MemPlace),DataW.trod enc P W 0 (fun _=>true) true fuel t cs=some (d,ps) ->
  cs.length=n/\∃ a,RepCs (fun k=>k<W.heap.size) W (e a) (fun j=>cs[j]?) 0
def iK{P:Program}{t:TypeId}{k:IntKind}(G:P.underlying t=some (.int k))(hc:P.cellsOf t=1):Opens P t (α:={n:Int // (Lit.int k n).wf=true}) (fun n=>[.int k n.1]) 1:=by
 refine⟨hc,by omega,fun _=>rfl,fun enc W D cs d ps h=>?_⟩
 obtain⟨n,rfl,_,I⟩:=DataW.trod_int G h
 exact⟨rfl,⟨n,I⟩,by simp[RepCs,RepC]⟩
def Ahr{P:Program}{t:TypeId}(D:P.underlying t=some .bool)(hc:P.cellsOf t=1):Opens P t (α:=Bool) (fun b=>[.bool b]) 1:=by
 refine⟨hc,by omega,fun _=>rfl,fun enc W k cs d ps h=>?_⟩
 obtain⟨b,rfl,_⟩:=DataW.trod_bool D h
 exact⟨rfl,b,by simp[RepCs,RepC]⟩
def lY{α β:Type}{e:α->List β}{n:Nat}(G:0<n)(k:∀ a,(e a).length=n):∀(l:List α)(j:Nat),(l.flatMap e)[j]?=(l[j/n]?).bind fun a=>(e a)[j%n]?
|[],j=>by simp
| a::r,j=>by
  rw[A3r]
  by_cases D:j<n
  ·rw[A42 (by rw[k];exact D),A4a D,A3s D];simp
  ·rw[A5e (by rw[k];omega),k,lY G k r (j - n)]
   have I:j/n=(j - n)/n+1:=by
    have:=Nat.add_div_right (j - n) G
    rw[show j - n+n=j by omega]at this;exact this
   have L:j%n=(j - n)%n:=by
    have:=Nat.add_mod_right (j - n) n
    rw[show j - n+n=j by omega]at this;exact this
   rw[I,L];simp
def lZ{α β:Type}{e:α->List β}{n:Nat}(k:∀ a,(e a).length=n):∀(l:List α),(l.flatMap e).length=l.length*n
|[]=>by simp
|a::r=>by rw[A3r,A3d,k,lZ k r,A3a,Nat.succ_mul];omega
def Ac9{α β:Type}{f:α->Option β}:∀{l:List α}{r:List β},l.mapM f=some r->r.length=l.length/\∀(i:Nat)(a:α),l[i]?=some a->f a=r[i]?
|[],r,h=>by simp at h;subst h;simp
| x::l,r,h=>by
  rw[A9a]at h
  cases k:f x with
  |none=>simp[k]at h
  | some y =>
   cases D:l.mapM f with
   |none=>simp[k,D]at h
   |some ys =>
    simp[k,D]at h
    subst h
    obtain⟨G,I⟩:=Ac9 D
    refine⟨by simp[G],fun i a hi=>?_⟩
    cases i with
    |zero=>simp at hi;subst hi;simpa using k
    |succ i=>simpa using I i a (by simpa using hi)
def Qf {P:Program} {t el:TypeId} {α:Type} {e:α->LA} {n:Nat} (hu:P.underlying t=some (.slice el)) (hc:P.cellsOf t=1) (T:Opens P el e n) :
  Opens P t (α:={l:List α // l.length<=maxLen}) (fun l=>[.imm (l.1.flatMap e) l.1.length n false false]) 1:=by
 refine⟨hc,by omega,fun _=>rfl,fun enc W D cs d ps h=>?_⟩
 cases D with
|zero=>simp[DataW.trod]at h
| succ D =>
  unfold DataW.trod at h
  simp only[hu]at h
  split at h
  all_goals first|(rename_i G;simp at G;done)|(rename_i G _;simp at G;done)|(rename_i G _ _;simp at G;done)|skip
  ·refine⟨rfl,⟨[],by simp⟩,?_⟩
   simp[RepCs,RepC]
  ·rename_i e' a len cap G
   simp at G;subst G
   split at h
   ·rename_i Y
    obtain⟨hb,hlc,hcm⟩:=Y
    refine⟨rfl,?_⟩
    cases hm:(List.range len).mapM (fun i=>(W.cells? 0 (a.add (i*P.cellsOf el)) (P.cellsOf el)).bind (DataW.trod enc P W 0 (fun _=>true) true D el))with
    |none=>rw[hm]at h;simp at h
    | some Ajt =>
     obtain⟨h1,h2⟩:=Ac9 hm
     rw[T.size]at h2
     have each:∀ i:Nat,i<len->∃ x:α,∃ cs,W.cells? 0 (a.add (i*n)) n=some cs/\RepCs (fun k=>k<W.heap.size) W (e x) (fun j=>cs[j]?) 0:=by
      intro i hi
      have h3:=h2 i i (by simp[hi])
      rw[A2r (by rw[h1];simpa using hi)]at h3
      cases I:W.cells? 0 (a.add (i*n)) n with
      |none=>rw[I]at h3;simp at h3
      |some cs =>
       rw[I]at h3
       obtain⟨_,x,G⟩:=T.read enc W D cs _ _ h3
       exact⟨x,cs,rfl,G⟩
     have build:∀ m,m<=len->∃ l:List α,l.length=m/\∀ i x,l[i]?=some x->∃ cs,W.cells? 0 (a.add (i*n)) n=some cs/\RepCs (fun k=>k<W.heap.size) W (e x) (fun j=>cs[j]?) 0:=by
      intro m
      induction m with
      |zero=>intro _;exact⟨[],rfl,by simp⟩
      | succ m ih =>
       intro hm
       obtain⟨l,hl,hl2⟩:=ih (by omega)
       obtain⟨x,cs,hx1,hx2⟩:=each m (by omega)
       refine⟨l++[x],by simp[hl],fun i y hy=>?_⟩
       rw[A36]at hy
       split at hy
       ·exact hl2 i y hy
       ·have:i=m:=by
         have:=(A29.1 hy).1
         simp at this;omega
        subst this
        simp[hl]at hy;subst hy
        exact⟨cs,hx1,hx2⟩
     obtain⟨l,hl,hl2⟩:=build len (A2s _)
     refine⟨⟨l,by omega⟩,?_⟩
     simp only[RepCs,RepC,and_true]
     refine⟨_,rfl,?_,some a,cap,by rw[hl],by omega,by simp,?_⟩
     ·exact lZ T.len l
     ·by_cases h0:l.length=0
      ·exact .inl h0
      ·right
       refine⟨a,rfl,?_,?_⟩
       ·obtain⟨x,cs,G,_⟩:=each 0 (by omega)
        have:=World.cells?_block G T.pos
        rwa [Ti]at this
       ·rw[Cm]
        intro j x hj
        rw[lY T.pos T.len]at hj
        cases hq:l[j/n]? with
        |none=>rw[hq]at hj;simp at hj
        |some y =>
         rw[hq]at hj
         simp at hj
         obtain⟨cs,I,L⟩:=hl2 (j/n) y hq
         rw[Cm]at L
         obtain⟨u,hu1,hu2⟩:=L (j%n) x hj
         refine⟨u,?_,hu2⟩
         obtain⟨_,hlen,hcell⟩:=World.cells?_some I
         have hlt:j%n<n:=A4r _ T.pos
         have:=hcell (j%n) hlt
         rw[Addr.add_add,show j/n*n+j%n=j by rw[A2w];exact A4c j n]at this
         simp only[A22]at hu1 ⊢
         rw[this];exact hu1
   ·simp at h
  ·simp at h
def Apl{J:Bool->Nat->Prop}{β:Cr}{h:Ap}{w:World}{x:AV}{vs:List Value}(H:Reps J β h w [x] vs):∃ u,vs=[u]/\Rep J β h w x u:=by
 rw[Reps]at H
 obtain⟨u,us,rfl,D,k⟩:=H
 rw[Reps]at k;subst k
 exact⟨u,rfl,D⟩
end Gx
namespace Gx
open Go
structure RB where
 nm:List UInt8
 bu:Int
 mi:Int
 ma:Int
 sc:LA
 sn:Nat
 st:Bool
 so:Bool
 nl:Int
 ru:Int
 rd:Int
 sr:Int
 tr:Int
 ut:Int
 dt:Int
 sT:Int
 hc:Int
 cc:Int
 hh:Int
 rs:Int
 rp:Int
 ac:LA
 an:Nat
 aq:Bool
 ao:Bool
 us:Int
 uh:Int
 uo:Int
 hs:Int
 ec:LA
 en:Nat
 et:Bool
 eo:Bool
 qc:LA
 qn:Nat
 qt:Bool
 qo:Bool
 pc:LA
 pn:Nat
 pt:Bool
 po:Bool
 vc:LA
 vn:Nat
 vt:Bool
 vo:Bool
 na:Nat
 nb:Nat
 nc:Nat
 nd:Nat
 ne:Nat
 nf:Nat
 ka:LA
 kb:LA
 kc:LA
 kd:LA
 ke:LA
 kf:LA
def Zt(k:Nat)(s:RB):LA:=[.str s.nm,.int .i64 s.bu,.int .i64 s.mi,.int .i64 s.ma,.imm s.sc s.sn 2 s.st s.so,.int .i64 s.nl,.int .i64 s.ru,.int .i64 s.rd,.int .i64 s.sr,.int .i64 s.tr,.int .i64 s.ut,.int .i64 s.dt,.int .i64 s.sT,.int .i64 s.hc,.int .i64 s.cc,.int .i64 s.hh,.int .i64 s.rs,.int .i64 s.rp,.imm s.ac s.an 1 s.aq s.ao,.int .i64 s.us,.int .i64 s.uh,.int .i64 s.uo,.int .i64 s.hs,.imm s.ec s.en 3 s.et s.eo,.imm s.qc s.qn 3 s.qt s.qo,.imm s.pc s.pn 1 s.pt s.po,.imm s.vc s.vn 3 s.vt s.vo,.own (k+1) 0 s.na,.own (k+2) 0 s.nb,.own (k+3) 0 s.nc,.own (k+4) 0 s.nd,.own (k+5) 0 s.ne,.own (k+6) 0 s.nf,.nsl,.nsl,.nsl,.nsl,.nsl,.nsl,.nsl,.nsl,.nsl,.nsl,.nsl,.nsl,.nsl,.nsl,.nsl,.nsl,.nsl,.nsl]
def Azf(c:LA):Blk:=⟨false,false,false,false,0,c,false,none⟩
def zW(z:Nat)(c:LA):Blk:=⟨false,false,true,false,z,c,false,none⟩
def A04(s:RB):Ap:=[(100000,Azf (Zt 100000 s)),(100001,zW 2 s.ka),(100002,zW 2 s.kb),(100003,zW 2 s.kc),(100004,zW 2 s.kd),(100005,zW 2 s.ke),(100006,zW 2 s.kf)]
def Amb(s:RB)(l0:LA)(m0:Nat)(l1:LA)(m1:Nat)(l2:LA)(m2:Nat)(l3:LA)(m3:Nat)(l4:LA)(m4:Nat)(l5:LA)(m5:Nat):LA:=[.str s.nm,.int .i64 s.bu,.int .i64 s.mi,.int .i64 s.ma,.imm s.sc s.sn 2 false s.so,.int .i64 s.nl,.int .i64 s.ru,.int .i64 s.rd,.int .i64 s.sr,.int .i64 s.tr,.int .i64 s.ut,.int .i64 s.dt,.int .i64 s.sT,.int .i64 s.hc,.int .i64 s.cc,.int .i64 s.hh,.int .i64 s.rs,.int .i64 s.rp,.imm s.ac s.an 1 false s.ao,.int .i64 s.us,.int .i64 s.uh,.int .i64 s.uo,.int .i64 s.hs,.imm s.ec s.en 3 false s.eo,.imm s.qc s.qn 3 false s.qo,.imm s.pc s.pn 1 false s.po,.imm s.vc s.vn 3 false s.vo,.imm l0 m0 2 false true,.imm l1 m1 2 false true,.imm l2 m2 2 false true,.imm l3 m3 2 false true,.imm l4 m4 2 false true,.imm l5 m5 2 false true,.nsl,.nsl,.nsl,.nsl,.nsl,.nsl,.nsl,.nsl,.nsl,.nsl,.nsl,.nsl,.nsl,.nsl,.nsl,.nsl,.nsl,.nsl]
def Auh(k:Nat):AV->Option Nat
|.own b f n=>cond (beq b k&&beq f 0) (some n) none
|_=>none
def vB:AV->Option Int
|.int .i64 n=>some n
|_=>none
def Azz:AV->Option Lu
|.str n=>some n
|_=>none
def xQ:AV->Option Unit
|.nsl=>some ()
|_=>none
def Aui(z:Nat):AV->Option (LA×Nat×Bool×Bool)
|.imm c n q t o=>cond (beq q z) (some (c,n,t,o)) none
|_=>none
def xR(k sz:Nat):Nat×Blk->Option LA
|(i,⟨false,false,true,false,z,c,false,none⟩)=>cond (beq i k&&beq z sz) (some c) none
|_=>none
def iL{k n:Nat}{v:AV}(h:Auh k v=some n):v=.own k 0 n:=by
 unfold Auh at h
 split at h
 ·obtain⟨D,G⟩:=uc h
  simp at D G
  rw[D.1,D.2,G]
 ·cases h
def I7{n:Int}{v:AV}(h:vB v=some n):v=.int .i64 n:=by
 unfold vB at h
 split at h
 ·cases h;rfl
 ·cases h
def Avu{n:Lu}{v:AV}(h:Azz v=some n):v=.str n:=by
 unfold Azz at h
 split at h
 ·cases h;rfl
 ·cases h
def Lp{n:Unit}{v:AV}(h:xQ v=some n):v=.nsl:=by
 unfold xQ at h
 split at h
 ·rfl
 ·cases h
def iM{z n:Nat}{c:LA}{t o:Bool}{v:AV}(h:Aui z v=some (c,n,t,o)):v=.imm c n z t o:=by
 unfold Aui at h
 split at h
 ·obtain⟨k,D⟩:=uc h
  simp at k D
  obtain⟨rfl,rfl,rfl,rfl⟩:=D
  rw[k]
 ·cases h
def Lq{k sz:Nat}{p:Nat×Blk}{c:LA}(h:xR k sz p=some c):p=(k,zW sz c):=by
 unfold xR at h
 split at h
 ·obtain⟨D,G⟩:=uc h
  simp at D G
  rw[D.1,D.2,G];rfl
 ·cases h
def Az0(k:Nat):LA->Option RB
|a0::a1::a2::a3::a4::a5::a6::a7::a8::a9::a10::a11::a12::a13::a14::a15::a16::a17::a18::a19::a20::a21::a22::a23::a24::a25::a26::a27::a28::a29::a30::a31::a32::a33::a34::a35::a36::a37::a38::a39::a40::a41::a42::a43::a44::a45::a46::a47::a48::a49::a50::[]=>(Azz a0).bind fun nm=>(vB a1).bind fun bu=>(vB a2).bind fun mi=>(vB a3).bind fun ma=>(Aui 2 a4).bind fun(sc,sn,st,so)=>(vB a5).bind fun nl=>(vB a6).bind fun ru=>(vB a7).bind fun rd=>(vB a8).bind fun sr=>(vB a9).bind fun tr=>(vB a10).bind fun ut=>(vB a11).bind fun dt=>(vB a12).bind fun sT=>(vB a13).bind fun hc=>(vB a14).bind fun cc=>(vB a15).bind fun hh=>(vB a16).bind fun rs=>(vB a17).bind fun rp=>(Aui 1 a18).bind fun(ac,an,aq,ao)=>(vB a19).bind fun us=>(vB a20).bind fun uh=>(vB a21).bind fun uo=>(vB a22).bind fun hs=>(Aui 3 a23).bind fun(ec,en,et,eo)=>(Aui 3 a24).bind fun(qc,qn,qt,qo)=>(Aui 1 a25).bind fun(pc,pn,pt,po)=>(Aui 3 a26).bind fun(vc,vn,vt,vo)=>(Auh (k+1) a27).bind fun na=>(Auh (k+2) a28).bind fun nb=>(Auh (k+3) a29).bind fun nc=>(Auh (k+4) a30).bind fun nd=>(Auh (k+5) a31).bind fun ne=>(Auh (k+6) a32).bind fun nf=>(xQ a33).bind fun _=>(xQ a34).bind fun _=>(xQ a35).bind fun _=>(xQ a36).bind fun _=>(xQ a37).bind fun _=>(xQ a38).bind fun _=>(xQ a39).bind fun _=>(xQ a40).bind fun _=>(xQ a41).bind fun _=>(xQ a42).bind fun _=>(xQ a43).bind fun _=>(xQ a44).bind fun _=>(xQ a45).bind fun _=>(xQ a46).bind fun _=>(xQ a47).bind fun _=>(xQ a48).bind fun _=>(xQ a49).bind fun _=>(xQ a50).bind fun _=>some ⟨nm,bu,mi,ma,sc,sn,st,so,nl,ru,rd,sr,tr,ut,dt,sT,hc,cc,hh,rs,rp,ac,an,aq,ao,us,uh,uo,hs,ec,en,et,eo,qc,qn,qt,qo,pc,pn,pt,po,vc,vn,vt,vo,na,nb,nc,nd,ne,nf,[],[],[],[],[],[]⟩
|_=>none
def Avv{k:Nat}{c:LA}{s:RB}(e:Az0 k c=some s):c=Zt k s:=by
 unfold Az0 at e
 split at e
 ·obtain⟨_,q,e0⟩:=ub e
  cases Avu q
  obtain⟨_,q,e1⟩:=ub e0
  cases I7 q
  obtain⟨_,q,e2⟩:=ub e1
  cases I7 q
  obtain⟨_,q,e3⟩:=ub e2
  cases I7 q
  obtain⟨⟨_,_,_,_⟩,q,e4⟩:=ub e3
  cases iM q
  obtain⟨_,q,e5⟩:=ub e4
  cases I7 q
  obtain⟨_,q,e6⟩:=ub e5
  cases I7 q
  obtain⟨_,q,e7⟩:=ub e6
  cases I7 q
  obtain⟨_,q,e8⟩:=ub e7
  cases I7 q
  obtain⟨_,q,e9⟩:=ub e8
  cases I7 q
  obtain⟨_,q,D⟩:=ub e9
  cases I7 q
  obtain⟨_,q,e11⟩:=ub D
  cases I7 q
  obtain⟨_,q,e12⟩:=ub e11
  cases I7 q
  obtain⟨_,q,e13⟩:=ub e12
  cases I7 q
  obtain⟨_,q,G⟩:=ub e13
  cases I7 q
  obtain⟨_,q,I⟩:=ub G
  cases I7 q
  obtain⟨_,q,e16⟩:=ub I
  cases I7 q
  obtain⟨_,q,L⟩:=ub e16
  cases I7 q
  obtain⟨⟨_,_,_,_⟩,q,T⟩:=ub L
  cases iM q
  obtain⟨_,q,Y⟩:=ub T
  cases I7 q
  obtain⟨_,q,e20⟩:=ub Y
  cases I7 q
  obtain⟨_,q,e21⟩:=ub e20
  cases I7 q
  obtain⟨_,q,e22⟩:=ub e21
  cases I7 q
  obtain⟨⟨_,_,_,_⟩,q,e23⟩:=ub e22
  cases iM q
  obtain⟨⟨_,_,_,_⟩,q,e24⟩:=ub e23
  cases iM q
  obtain⟨⟨_,_,_,_⟩,q,e25⟩:=ub e24
  cases iM q
  obtain⟨⟨_,_,_,_⟩,q,e26⟩:=ub e25
  cases iM q
  obtain⟨_,q,e27⟩:=ub e26
  cases iL q
  obtain⟨_,q,e28⟩:=ub e27
  cases iL q
  obtain⟨_,q,e29⟩:=ub e28
  cases iL q
  obtain⟨_,q,e30⟩:=ub e29
  cases iL q
  obtain⟨_,q,e31⟩:=ub e30
  cases iL q
  obtain⟨_,q,e32⟩:=ub e31
  cases iL q
  obtain⟨_,q,e33⟩:=ub e32
  cases Lp q
  obtain⟨_,q,e34⟩:=ub e33
  cases Lp q
  obtain⟨_,q,e35⟩:=ub e34
  cases Lp q
  obtain⟨_,q,e36⟩:=ub e35
  cases Lp q
  obtain⟨_,q,e37⟩:=ub e36
  cases Lp q
  obtain⟨_,q,e38⟩:=ub e37
  cases Lp q
  obtain⟨_,q,e39⟩:=ub e38
  cases Lp q
  obtain⟨_,q,e40⟩:=ub e39
  cases Lp q
  obtain⟨_,q,e41⟩:=ub e40
  cases Lp q
  obtain⟨_,q,e42⟩:=ub e41
  cases Lp q
  obtain⟨_,q,e43⟩:=ub e42
  cases Lp q
  obtain⟨_,q,e44⟩:=ub e43
  cases Lp q
  obtain⟨_,q,e45⟩:=ub e44
  cases Lp q
  obtain⟨_,q,e46⟩:=ub e45
  cases Lp q
  obtain⟨_,q,e47⟩:=ub e46
  cases Lp q
  obtain⟨_,q,e48⟩:=ub e47
  cases Lp q
  obtain⟨_,q,e49⟩:=ub e48
  cases Lp q
  obtain⟨_,q,e50⟩:=ub e49
  cases Lp q
  cases e50;rfl
 ·cases e
def Ax3(i k:Nat):Nat×Blk->Option RB
|(j,⟨false,false,false,false,z,c,false,none⟩)=>cond (beq j i&&beq z 0) (Az0 k c) none
|_=>none
def Ahs{i k:Nat}{p:Nat×Blk}{s:RB}(h:Ax3 i k p=some s):p=(i,Azf (Zt k s)):=by
 unfold Ax3 at h
 split at h
 ·obtain⟨D,G⟩:=uc h
  simp at D
  rw[D.1,D.2,Avv G];rfl
 ·cases h
def As1:Ap->Option RB
|p::p0::p1::p2::p3::p4::p5::[]=>(Ax3 100000 100000 p).bind fun s=>(xR 100001 2 p0).bind fun c0=>(xR 100002 2 p1).bind fun c1=>(xR 100003 2 p2).bind fun c2=>(xR 100004 2 p3).bind fun c3=>(xR 100005 2 p4).bind fun c4=>(xR 100006 2 p5).bind fun c5=>some {s with ka:=c0,kb:=c1,kc:=c2,kd:=c3,ke:=c4,kf:=c5}
|_=>none
def As2{h:Ap}{s:RB}(e:As1 h=some s):h=A04 s:=by
 unfold As1 at e
 split at e
 ·obtain⟨s,q,f⟩:=ub e
  cases Ahs q
  obtain⟨_,q,k⟩:=ub f
  cases Lq q
  obtain⟨_,q,e1⟩:=ub k
  cases Lq q
  obtain⟨_,q,D⟩:=ub e1
  cases Lq q
  obtain⟨_,q,e3⟩:=ub D
  cases Lq q
  obtain⟨_,q,e4⟩:=ub e3
  cases Lq q
  obtain⟨_,q,G⟩:=ub e4
  cases Lq q
  cases G;rfl
 ·cases e
def Ax4{G:Type 1}(f:LA->RB->Option G)(a:LA)(h:Ap):Option G:=(As1 h).bind (f a)
def Az1{P:Program}{muts:Nat->List Bool}{T:List (Nat×Tw)}{hs:Hints}{N f:Nat}{g:LA->RB->Option ((R:Type)->KF R->O R)}(H:∀ a s,Ax1 P muts T hs N f a (A04 s) (g a s)):∀ a h,Ax1 P muts T hs N f a h (Ax4 g a h):=fun a h=>by
 unfold Ax4
 cases e:As1 h with
|none=>trivial
|some s=>rw[As2 e];exact H a s
def Asr{S:Type}{G:Type 1}(of:Ap->Option S)(f:LA->S->Option G)(a:LA)(h:Ap):Option G:=(of h).bind (f a)
def Axi{S:Type}{of:Ap->Option S}{lay:S->Ap}(k:∀{h s},of h=some s->h=lay s){P:Program}{muts:Nat->List Bool}{T:List (Nat×Tw)}{hs:Hints}{N f:Nat}{g:LA->S->Option ((R:Type)->KF R->O R)}(H:∀ a s,Ax1 P muts T hs N f a (lay s) (g a s)):∀ a h,Ax1 P muts T hs N f a h (Asr of g a h):=fun a h=>by
 unfold Asr
 cases e:of h with
|none=>trivial
|some s=>rw[k e];exact H a s
def Aht{R:Type}(x:Int)(f:Nat->O R):O R:=cond (x==0) (f 0) (cond (x==1) (f 1) (cond (x==2) (f 2) (cond (x==3) (f 3) (cond (x==4) (f 4) (cond (x==5) (f 5) none)))))
def v6{α:Type}(i:Nat)(a0 a1 a2 a3 a4 a5:α):α:=cond (beq i 0) a0 (cond (beq i 1) a1 (cond (beq i 2) a2 (cond (beq i 3) a3 (cond (beq i 4) a4 a5))))
def p6{α β:Type}(i:Nat)(e a0 a1 a2 a3 a4 a5:α)(k:α->α->α->α->α->α->β):β:=cond (beq i 0) (k e a1 a2 a3 a4 a5) (cond (beq i 1) (k a0 e a2 a3 a4 a5) (cond (beq i 2) (k a0 a1 e a3 a4 a5) (cond (beq i 3) (k a0 a1 a2 e a4 a5) (cond (beq i 4) (k a0 a1 a2 a3 e a5) (k a0 a1 a2 a3 a4 e)))))
def m6{α β:Type}(i:Nat)(a0 a1 a2 a3 a4 a5:α)(k:α->α->α->α->α->α->β):β:=cond (beq i 0) (k a0 a1 a2 a3 a4 a5) (cond (beq i 1) (k a1 a0 a2 a3 a4 a5) (cond (beq i 2) (k a2 a0 a1 a3 a4 a5) (cond (beq i 3) (k a3 a0 a1 a2 a4 a5) (cond (beq i 4) (k a4 a0 a1 a2 a3 a5) (k a5 a0 a1 a2 a3 a4)))))
def iI(i:Nat):Int:=(i:Int)
def Amc(s:RB):LA:=[.str s.nm,.int .i64 s.bu,.int .i64 s.mi,.int .i64 s.ma,.imm s.sc s.sn 2 false s.so,.int .i64 s.nl,.int .i64 s.ru,.int .i64 s.rd,.int .i64 s.sr,.int .i64 s.tr,.int .i64 s.ut,.int .i64 s.dt,.int .i64 s.sT,.int .i64 s.hc,.int .i64 s.cc,.int .i64 s.hh,.int .i64 s.rs,.int .i64 s.rp,.imm s.ac s.an 1 false s.ao,.int .i64 s.us,.int .i64 s.uh,.int .i64 s.uo]
def Avw(o:Bool)(a0:Lu)(a1:Int)(a2:Int)(a3:Int)(a4:LA)(a5:Nat)(a6:Int)(a7:Int)(a8:Int)(a9:Int)(a10:Int)(a11:Int)(a12:Int)(a13:Int)(a14:Int)(a15:Int)(a16:Int)(a17:Int)(a18:Int)(a19:LA)(a20:Nat)(a21:Int)(a22:Int)(a23:Int):LA:=[.str a0,.int .i64 a1,.int .i64 a2,.int .i64 a3,.imm a4 a5 2 false o,.int .i64 a6,.int .i64 a7,.int .i64 a8,.int .i64 a9,.int .i64 a10,.int .i64 a11,.int .i64 a12,.int .i64 a13,.int .i64 a14,.int .i64 a15,.int .i64 a16,.int .i64 a17,.int .i64 a18,.imm a19 a20 1 false o,.int .i64 a21,.int .i64 a22,.int .i64 a23]
def Agz(s:RB)(na nb nc nd ne nf:Nat)(ka kb kc kd ke kf:LA):RB:={s with na:=na,nb:=nb,nc:=nc,nd:=nd,ne:=ne,nf:=nf,ka:=ka,kb:=kb,kc:=kc,kd:=kd,ke:=ke,kf:=kf}
def zS(x:LA):LA:=setCells [.int .i64 0,.int .i64 0] 0 x
abbrev N6(X:Type):=Nat->Nat->Nat->Nat->Nat->Nat->X
abbrev L6(X:Type):=LA->LA->LA->LA->LA->LA->X
def A1v{S:Type}{of:Ap->Option S}{lay:S->Ap}(D:∀{h s},of h=some s->h=lay s){g:LA->S->Option ((R:Type)->KF R->O R)}{l:List Nat}
  (H:∀ a s q,g a s=some q->(l.all fun c=>(Ai (lay s) c).isSome)=true/\∀(R:Type)(k:KF R),q R k=q R fun v h'=>cond (l.all fun c=>(Ai h' c).isSome) (k v (Al8 (lay s) l h')) none) :
  ∀ a h q,Asr of g a h=some q->(l.all fun c=>(Ai h c).isSome)=true/\∀(R:Type)(k:KF R),q R k=q R fun v h'=>cond (l.all fun c=>(Ai h' c).isSome) (k v (Al8 h l h')) none:=by
 intro a h q e
 unfold Asr at e
 obtain⟨s,e1,G⟩:=A49.1 e
 rw[D e1];exact H a s q G
end Gx
namespace Gx
open Go Go.Proofs
set_option maxRecDepth 100000
noncomputable section
variable{R:Type}(N:Nat)
def muts:Nat->List Bool:=Aph [(54,[true,false,false,false]),(56,[true,false,false]),(68,[false,false,false,true,true]),(70,[false,false,true,true]),(71,[false,true,true,true,true,true,true,true,true]),(85,[true,false,false]),(87,[true,true,false,false]),(89,[true,false]),(90,[true,false,false]),(92,[true,false,false,false,false]),(93,[true,false,false,false]),(94,[true,false,false,false]),(111,[true,false,false]),(112,[true,false,false,false]),(113,[true,false,false,false]),(123,[true,false,false]),(125,[true]),(126,[true]),(144,[true,false,false]),(145,[false,false,false,false,false,false]),(146,[false,false,false,false,false,false]),(147,[false,false,false,false,false,false]),(148,[false,false,false,false,false,false]),(149,[false,false,false,false,false,false]),(151,[true,false]),(152,[true,false]),(153,[true,false,false,false]),(154,[true,false,false,false,false,false,false,false]),(155,[true,false,false,false,false,false]),(157,[true,false,false]),(158,[true,false,false]),(159,[true,false,false]),(160,[true,false,false]),(161,[true,false,false]),(169,[false,true]),(171,[false,true,true,true,true,true,true,true,true]),(172,[false,true]),(180,[true]),(195,[true,false,false]),(202,[true,false,false,false,false,false]),(204,[true,false,false,false,false,false]),(205,[true,false,false]),(212,[false,true]),(232,[false,false,false,false,false,false]),(233,[false,false,false,false,false,false]),(238,[true]),(239,[false,false,true]),(240,[false,false,false,false,true]),(244,[true,false]),(246,[false,true,true,true,true,true,true,true,true]),(247,[false,false,false,false,false,false]),(248,[false,true,true,true,true,true,true,true,true]),(249,[false,false,false,true]),(250,[false,true,true,true,true,true,true,true,true])]
def A05{R:Type}:=@A1r R Tryz.prog muts
abbrev A1w{R:Type}:=@Wz R Tryz.prog muts
abbrev xS:=@Avt Tryz.prog muts
def follows:Tryz.prog.follows .mixedOrders=true:=by kernel_rfl
abbrev Oe:=List (Bd Tryz.prog)
def Iv{R:Type}(fn hs)(l:Oe)(r N)(F:KF R):=@A05 R fn hs (Al7 l) r N F
def Cc(N f:Nat):=@A1s Tryz.prog muts follows N f
def A06{N f:Nat}{run:(R:Type)->Nat->LA->Ap->KF R->O R}(H:xS N f run):qu Tryz.prog f (As0 H):=Azv H follows
def D5:Hints:={H:=hL}
def G3:Hints:={H:=hL,modes:=[(3,0)]}
def l6:Hints:={H:=hK 2 (hS (hS (hP [0,3] hL) hL) hL),nils:=[(2,1)],modes:=[(2,1)]}
def Apm:Hints:={H:=hL,nils:=[(2,1)],modes:=[(2,1)]}
def xT:Hints:={H:=hK 3 (hS (hK 1 (hS (hP [0,1,5] hL) hL)) hL)}
def Dx(F:KF R):LA->O R:=fun v0=>F (.pagg v0 false) []
def Bu(F:KF R):Bool->O R:=fun v0=>F (.bool v0) []
def Ee(F:KF R):Int->O R:=fun v0=>F (iv v0) []
def Ge(F:KF R):Nat->LA->O R:=fun v0 v1=>F (Bbq 0 v0) (hq [bQ 1 v1])
def rF(F:KF R):LA->Bool->O R:=fun v0 v1=>F (.pagg v0 v1) []
def As3(F:KF R):Bool->Nat->LA->O R:=fun v0 v1 v2=>F (.agg [.bool v0,Bbq 0 v1]) (hq [bQ 1 v2])
def zX(F:KF R):Int->Int->O R:=fun v0 v1=>F (.tup [iv v0,iv v1]) []
def iN(F:KF R):Nat->Bool->LA->O R:=fun v0 v1 v2=>F (.tup [Bbq 0 v0,.bool v1]) (hq [bQ 1 v2])
def QI(F:KF R):Nat->LA->O R:=fun v0 v1=>F (Bbq 0 v0) (hq [bQ 2 v1])
def zY(F:KF R):LA->Bool->O R:=fun v0 v1=>F (.tup [.pagg v0 false,.bool v1]) []
def Ada(F:KF R):Int->O R:=fun v0=>F (.int .u64 v0) []
def Adb(F:KF R):Int->Bool->O R:=fun v0 v1=>F (.tup [.int .u64 v0,.bool v1]) []
def l7(F:KF R):Nat->Nat->LA->LA->O R:=fun v0 v1 v2 v3=>F (.tup [Bbq 0 v0,Bbq 1 v1]) (hq [bQ 1 v2,bQ 1 v3])
def l8(F:KF R):Nat->Nat->Bool->LA->LA->O R:=fun v0 v1 v2 v3 v4=>F (.tup [Bbq 0 v0,Bbq 1 v1,.bool v2]) (hq [bQ 1 v3,bQ 1 v4])
def Auj(v0:Bool)(v1:LA)(F:KF R):Bool->O R:=fun v2=>F (.bool v2) [(100000,bP v0 0 v1)]
def Zu(v0:LA)(v1:Nat)(v2 v3:Bool)(v4 v5 v6 v7 v8 v9:Nat)(v10:RB)(F:KF R):Nat->Nat->Nat->Nat->Nat->Nat->LA->LA->LA->LA->LA->LA->LA->LA->LA->LA->LA->LA->O R:=fun v11 v12 v13 v14 v15 v16 v17 v18 v19 v20 v21 v22 v23 v24 v25 v26 v27 v28=>F (.tup []) [(100000,bN 0 [.optr 100001 0,.imm v0 v1 1 v2 v3,.own 100002 0 v4,.own 100003 0 v5,.own 100004 0 v6,.own 100005 0 v7,.own 100006 0 v8,.own 100007 0 v9,.nsl,.nsl,.nsl,.nsl,.nsl,.nsl,.nsl,.nsl,.nsl,.nsl,.nsl,.nsl,.nsl,.nsl,.nsl,.nsl,.nsl,.nsl,.nsl]),(100001,bN 0 (Zt 299999 {v10 with na:=v11,nb:=v12,nc:=v13,nd:=v14,ne:=v15,nf:=v16})),(100002,bQ 7 v17),(100003,bQ 7 v18),(100004,bQ 7 v19),(100005,bQ 7 v20),(100006,bQ 7 v21),(100007,bQ 7 v22),(300000,bQ 2 v23),(300001,bQ 2 v24),(300002,bQ 2 v25),(300003,bQ 2 v26),(300004,bQ 2 v27),(300005,bQ 2 v28)]
def Qg(F:KF R):Nat->Int->LA->O R:=fun v0 v1 v2=>F (.tup [Bbq 0 v0,iv v1]) (hq [bQ 2 v2])
def rG(F:KF R):LA->Int->O R:=fun v0 v1=>F (.tup [.pagg v0 false,iv v1]) []
end
end Gx
namespace Gx.Uo
abbrev F1:=Rat->Rat
def Conc(f:F1)(a b:Rat):Prop:=∀ x z s,a<=x->x<=b->a<=z->z<=b->0<=s->s<=1->(1 - s)*f x+s*f z<=f ((1 - s)*x+s*z)
def Lin(f:F1)(a b:Rat):Prop:=∃ m q:Rat,∀ x,a<=x->x<=b->f x=m*x+q
def ml{a b c:Rat}(h:a<=b)(hc:0<=c):c*a<=c*b:=Rat.mul_le_mul_of_nonneg_left h hc
def Aor{a b c d s:Rat}(h:a<=b)(h':c<=d)(k:0<=s)(D:s<=1):(1 - s)*a+s*c<=(1 - s)*b+s*d:=by
 have:=ml h (show 0<=1 - s by grind)
 have:=ml h' k
 grind
def Conc.add{f g:F1}{a b:Rat}(Y:Conc f a b)(hg:Conc g a b):Conc (fun x=>f x+g x) a b:=fun x z s k D G I L T=>by
 have:=Y x z s k D G I L T
 have:=hg x z s k D G I L T
 grind
def Conc.lin(m q a b:Rat):Conc (fun x=>m*x+q) a b:=fun x z s k D G I L T=>by grind
def Conc.smul{f:F1}{a b w:Rat}(k:0<=w)(D:Conc f a b):Conc (fun x=>w*f x) a b:=fun x z s G I L T Y h6=>by
 have:=ml (D x z s G I L T Y h6) k
 grind
def Conc.sub{f:F1}{a b c d:Rat}(k:Conc f a b)(I:a<=c)(L:d<=b):Conc f c d:=fun x z s T k2 Y k4 D G=>k x z s (by grind) (by grind) (by grind) (by grind) D G
def Conc.mn{f g:F1}{a b:Rat}(Y:Conc f a b)(hg:Conc g a b):Conc (fun x=>if f x<=g x then f x else g x) a b:=fun x z s G I L T k D=>by
 have k1:=Y x z s G I L T k D
 have k2:=hg x z s G I L T k D
 have k3:=Aor (show(if f x<=g x then f x else g x)<=f x by grind) (show(if f z<=g z then f z else g z)<=f z by grind) k D
 have k4:=Aor (show(if f x<=g x then f x else g x)<=g x by grind) (show(if f z<=g z then f z else g z)<=g z by grind) k D
 show _<=(if f ((1 - s)*x+s*z)<=g ((1 - s)*x+s*z)then f ((1 - s)*x+s*z)else g ((1 - s)*x+s*z))
 split<;>grind
def Aj8{a x b:Rat}(G:a<=x)(I:x<=b)(h:a<b):∃ s,0<=s/\s<=1/\x=(1 - s)*a+s*b:=by
 have D:0<b - a:=by grind
 have k:b - a≠0:=by grind
 have e:(x - a)/(b - a)*(b - a)=x - a:=A9r k
 refine⟨(x - a)/(b - a),?_,?_,by grind⟩
 ·refine A8c (c:=b - a) ?_ D;grind
 ·refine A8c (c:=b - a) ?_ D;grind
def Conc.fall{f:F1}{a b k x y:Rat}(G:Conc f a b)(I:a<=k)(L:∀ t,a<=t->t<=b->f t<=f k)(T:k<=x)(Y:x<=y)(D:y<=b):f y<=f x:=by
 by_cases h:k<y
 ·obtain⟨s,s0,s1,rfl⟩:=Aj8 T Y h
  have:=G k y s I (by grind) (by grind) D s0 s1
  have:=ml (L y (by grind) D) (show 0<=1 - s by grind)
  grind
 ·have:x=y:=by grind
  subst this;grind
def Conc.rise{f:F1}{a b k x y:Rat}(G:Conc f a b)(I:k<=b)(L:∀ t,a<=t->t<=b->f t<=f k)(D:a<=y)(T:y<=x)(Y:x<=k):f y<=f x:=by
 by_cases h:y<k
 ·obtain⟨s,s0,s1,rfl⟩:=Aj8 T Y h
  have:=G y k s D (by grind) (by grind) I s0 s1
  have:=ml (L y D (by grind)) s0
  grind
 ·have:x=y:=by grind
  subst this;grind
def mn(a b:Rat):Rat:=if a<=b then a else b
def mx(a b:Rat):Rat:=if a<=b then b else a
def Ahu{f:F1}{a b z lo hi:Rat}(D:Conc f a b)(G:a<=z)(I:z<=b)(k:∀ t,a<=t->t<=b->f t<=f z)(L:a<=lo)(hh:hi<=b){y:Rat}(y1:lo<=y)(y2:y<=hi):f y<=f (mn (mx z lo) hi):=by
 by_cases h:z<=lo
 ·have e:mn (mx z lo) hi=lo:=by unfold mn mx;grind
  rw[e];exact D.fall G k h y1 (by grind)
 ·by_cases T:z<=hi
  ·have e:mn (mx z lo) hi=z:=by unfold mn mx;grind
   rw[e];exact k y (by grind) (by grind)
  ·have e:mn (mx z lo) hi=hi:=by unfold mn mx;grind
   rw[e];exact D.rise I k (by grind) y2 (by grind)
abbrev Hk:=List (Int×Rat)
structure Cv(f:F1)(L:Hk):Prop where
 ne:0<L.length
 val:∀ i (h:i<L.length),f L[i].1=L[i].2
 lt:∀ i (h:i+1<L.length),L[i].1<L[i+1].1
 lin:∀ i (h:i+1<L.length),Lin f L[i].1 L[i+1].1
def Cv.piece{f:F1}{L:Hk}(c:Cv f L){x:Rat}(D:(L[0]'(c.ne)).1<=x):∀ j (k:j<L.length),x<=L[j].1->(∃ i,∃ h:i+1<L.length,L[i].1<=x/\x<=L[i+1].1)\/x=(L[0]'(c.ne)).1
|0,_,h=>.inr (by grind)
|j+1,k,h=>by
  by_cases G:x<=L[j].1
  ·exact c.piece D j (by omega) G
  ·exact .inl ⟨j,k,by grind,h⟩
def Cv.mono{f:F1}{L:Hk}(c:Cv f L):∀ j i (hi:i<=j) (k:j<L.length),L[i].1<=L[j].1
|0,i,hi,k=>by
  have:i=0:=by omega
  subst this;exact A65 _
|j+1,i,hi,k=>by
  have:=c.lt j k
  by_cases h:i=j+1
  ·subst h;exact A65 _
  ·have:=c.mono j i (by omega) (by omega);omega
def Lin.sub{f:F1}{a b c d:Rat}(h:Lin f a b)(k:a<=c)(D:d<=b):Lin f c d:=by
 obtain⟨m,q,h⟩:=h
 exact⟨m,q,fun x G k2=>h x (by grind) (by grind)⟩
def Cv.between{f:F1}{L:Hk}(c:Cv f L){p q:Rat}(h0:(L[0]'(c.ne)).1<=p)(G:p<=q)(I:q<=(L[L.length - 1]'(by have:=c.ne;omega)).1)(D:∀ e∈L,(e.1:Rat)<=p\/q<=e.1):Lin f p q:=by
 have T:=c.ne
 by_cases e:p=q
 ·subst e
  refine⟨0,f p,fun x Y k2=>?_⟩
  have:x=p:=by grind
  subst this;grind
 have hlt:p<q:=by grind
 rcases c.piece (x:=q) (by grind) (L.length - 1) (by omega) I with⟨i,hi,Y,k2⟩|k
 ·by_cases k3:(L[i].1:Rat)<=p
  ·exact(c.lin i hi).sub k3 k2
  ·
   have k4:(L[i].1:Rat)=q:=by rcases D _ (A24 (show i<L.length by omega))with h|h<;>grind
   cases i with
   |zero=>grind
   | succ i =>
    refine(c.lin i (by omega)).sub ?_ (by grind)
    have k5:=c.lt i (by omega)
    rcases D _ (A24 (show i<L.length by omega))with h|h
    ·exact h
    ·have:((L[i].1:Int):Rat)<(L[i+1].1:Rat):=A6f.2 k5
     grind
 ·grind
def Cv.most{f:F1}{L:Hk}(c:Cv f L){s M:Rat}(hM:∀ e∈L,e.2+s*e.1<=M){x:Rat}(Y:(L[0]'(c.ne)).1<=x)(h1:x<=(L[L.length - 1]'(by have:=c.ne;omega)).1):f x+s*x<=M:=by
 have D:=c.ne
 rcases c.piece Y (L.length - 1) (by omega) h1 with⟨i,hi,I,k2⟩|k
 ·obtain⟨m,q,G⟩:=c.lin i hi
  have T:((L[i].1:Int):Rat)<=(L[i+1].1:Rat):=A3n.2 (A8w (c.lt i hi))
  have e1:=hM _ (A24 (show i<L.length by omega))
  have e2:=hM _ (A24 hi)
  rw[<-c.val i (by omega),G _ (by grind) T]at e1
  rw[<-c.val (i+1) hi,G _ T (by grind)]at e2
  rw[G x I k2]
  rcases(A9w (a:=0) (b:=m+s))with h|h
  ·have:=ml k2 h;grind
  ·have:=ml I (show 0<=-(m+s) by grind);grind
 ·have e1:=hM _ (A24 D)
  rw[<-c.val 0 D]at e1
  grind
def Pc(K B:Rat->Prop)(p q:Rat)(f:F1):Prop:=(∃ k,K k/\∀ x,p<=x->x<=q->f x=k)\/(∃ b,B b/\∀ x,p<=x->x<=q->f x=x+b)
def Apn(K B:Rat->Prop)(p q:Rat):Prop:=∀ k b,K k->B b->k - b<=p\/q<=k - b
def Pc.congr{K B:Rat->Prop}{p q:Rat}{f h:F1}(L:Pc K B p q f)(e:∀ x,p<=x->x<=q->h x=f x):Pc K B p q h:=L.imp (fun ⟨k,I,k2⟩=>⟨k,I,fun x D G=>(e x D G).trans (k2 x D G)⟩) (fun ⟨k,I,k2⟩=>⟨k,I,fun x D G=>(e x D G).trans (k2 x D G)⟩)
def Pc.tot{K B:Rat->Prop}{p q:Rat}{f g:F1}(d:Apn K B p q)(hf:Pc K B p q f)(hg:Pc K B p q g):(∀ x,p<=x->x<=q->f x<=g x)\/(∀ x,p<=x->x<=q->g x<=f x):=by
 rcases hf with⟨k,k1,k2⟩|⟨b,b1,T⟩<;>rcases hg with⟨k',Y,I⟩|⟨b',b1',L⟩
 ·exact(A9w (a:=k) (b:=k')).imp (fun e x D G=>by rw[k2 x D G,I x D G];exact e) (fun e x D G=>by rw[k2 x D G,I x D G];exact e)
 ·exact(d k b' k1 b1').imp (fun e x D G=>by rw[k2 x D G,L x D G];grind) (fun e x D G=>by rw[k2 x D G,L x D G];grind)
 ·exact(d k' b Y b1).symm.imp (fun e x D G=>by rw[T x D G,I x D G];grind) (fun e x D G=>by rw[T x D G,I x D G];grind)
 ·exact(A9w (a:=b) (b:=b')).imp (fun e x D G=>by rw[T x D G,L x D G];grind) (fun e x D G=>by rw[T x D G,L x D G];grind)
def Pc.mn{K B:Rat->Prop}{p q:Rat}{f g:F1}(d:Apn K B p q)(G:Pc K B p q f)(I:Pc K B p q g):Pc K B p q (fun x=>mn (f x) (g x)):=by
 rcases Pc.tot d G I with h|h
 ·exact G.congr fun x k D=>by have:=h x k D;unfold Uo.mn;grind
 ·exact I.congr fun x k D=>by have:=h x k D;unfold Uo.mn;grind
def Pc.mx{K B:Rat->Prop}{p q:Rat}{f g:F1}(d:Apn K B p q)(G:Pc K B p q f)(I:Pc K B p q g):Pc K B p q (fun x=>mx (f x) (g x)):=by
 rcases Pc.tot d G I with h|h
 ·exact I.congr fun x k D=>by have:=h x k D;unfold Uo.mx;grind
 ·exact G.congr fun x k D=>by have:=h x k D;unfold Uo.mx;grind
def Pc.lin{K B:Rat->Prop}{p q:Rat}{f:F1}(I:Pc K B p q f):Lin f p q:=by
 rcases I with⟨k,_,h⟩|⟨b,_,h⟩
 ·exact⟨0,k,fun x D G=>by rw[h x D G];grind⟩
 ·exact⟨1,b,fun x D G=>by rw[h x D G];grind⟩
def Lin.add{f g:F1}{a b:Rat}(G:Lin f a b)(I:Lin g a b):Lin (fun x=>f x+g x) a b:=by
 obtain⟨m,q,h⟩:=G;obtain⟨L,T,h'⟩:=I
 exact⟨m+L,q+T,fun x k D=>by show f x+g x=_;rw[h x k D,h' x k D];grind⟩
def Lin.smul{f:F1}{a b:Rat}(w:Rat)(k:Lin f a b):Lin (fun x=>w*f x) a b:=by
 obtain⟨m,q,h⟩:=k
 exact⟨w*m,w*q,fun x D G=>by show w*f x=_;rw[h x D G];grind⟩
def Lin.of(m q a b:Rat):Lin (fun x=>m*x+q) a b:=⟨m,q,fun _ _ _=>rfl⟩
def Lin.congr{f g:F1}{a b:Rat}(h:Lin f a b)(e:∀ x,a<=x->x<=b->g x=f x):Lin g a b:=by
 obtain⟨m,q,h⟩:=h
 exact⟨m,q,fun x k D=>(e x k D).trans (h x k D)⟩
def Cv.comp{f g:F1}{L:Hk}(c:Cv f L){K B:Rat->Prop}{p q:Rat}(D:p<=q)(d:Apn K B p q)(hK:∀ e∈L,K e.1)(T:Pc K B p q g)(hr:∀ x,p<=x->x<=q->(L[0]'(c.ne)).1<=g x/\g x<=(L[L.length - 1]'(by have:=c.ne;omega)).1):Lin (fun x=>f (g x)) p q:=by
 rcases T with⟨k,_,h⟩|⟨b,Y,h⟩
 ·exact⟨0,f k,fun x G I=>by show f (g x)=_;rw[h x G I];grind⟩
 ·obtain⟨m,t,hl⟩:=c.between (p:=p+b) (q:=q+b) (by rw[<-h p (by grind) D];exact(hr p (by grind) D).1) (by grind) (by rw[<-h q D (by grind)];exact(hr q D (by grind)).2) fun e he=>by
   rcases d e.1 b (hK e he) Y with G|G<;>grind
  exact⟨m,m*b+t,fun x G I=>by show f (g x)=_;rw[h x G I,hl (x+b) (by grind) (by grind)];grind⟩
structure Stp where
 fst:Rat
 lst:Rat
 pln:Rat
 pay:Rat
 ru:Rat
 rd:Rat
 rs:Rat
 mx:Rat
def Stp.T(s:Stp)(x:Rat):Rat:=mn (x+(s.rs - s.ru)) (s.mx - s.ru)
def Stp.bef(s:Stp)(x:Rat):Rat:=mn (Uo.mx (mn (Uo.mx (s.T x) s.pln) s.pay) (Uo.mx s.fst (x+-s.ru))) (mn s.lst (x+s.rd))
def Stp.G(s:Stp)(c:F1)(w x:Rat):Rat:=c (s.bef x)+w*(mn (s.T x) (s.bef x)+(-1*x+s.ru))
structure Stp.Ok(s:Stp)(c:F1)(w:Rat):Prop where
 conc:Conc c s.fst s.lst
 w0:0<=w
 p0:s.fst<=s.pln/\s.pln<=s.lst
 p1:∀ y,s.fst<=y->y<=s.lst->c y<=c s.pln
 q0:s.fst<=s.pay/\s.pay<=s.lst
 q1:∀ y,s.fst<=y->y<=s.lst->c y+w*y<=c s.pay+w*s.pay
 ru0:0<=s.ru
 rd0:0<=s.rd
 rs0:0<=s.rs
def Conc.congr{f g:F1}{a b:Rat}(h:Conc f a b)(e:∀ x,g x=f x):Conc g a b:=fun x z s k D G I L T=>by rw[e,e,e];exact h x z s k D G I L T
def Stp.Ok.phi{s:Stp}{c:F1}{w:Rat}(k:s.Ok c w)(t:Rat):Conc (fun y=>c y+w*mn t y) s.fst s.lst:=k.conc.add (Conc.smul k.w0 (Conc.congr ((Conc.lin 0 t s.fst s.lst).mn (Conc.lin 1 0 s.fst s.lst)) fun x=>by unfold Uo.mn;grind))
def Stp.Ok.top{s:Stp}{c:F1}{w:Rat}(k:s.Ok c w)(t:Rat){y:Rat}(I:s.fst<=y)(L:y<=s.lst):c y+w*mn t y<=c (mn (Uo.mx t s.pln) s.pay)+w*mn t (mn (Uo.mx t s.pln) s.pay):=by
 have hp:=k.p1 y I L;have hq:=k.q1 y I L
 have Y:=k.p1 s.pay k.q0.1 k.q0.2;have hqq:=k.q1 s.pln k.p0.1 k.p0.2
 have m1:w*mn t y<=w*t:=ml (by unfold mn;grind) k.w0
 have m2:w*mn t y<=w*y:=ml (by unfold mn;grind) k.w0
 by_cases G:s.pay<=Uo.mx t s.pln
 ·have e:mn (Uo.mx t s.pln) s.pay=s.pay:=by unfold mn;grind
  rw[e]
  by_cases ht:s.pay<=t
  ·have D:mn t s.pay=s.pay:=by unfold mn;grind
   rw[D];grind
  ·have D:mn t s.pay=t:=by unfold mn;grind
   have T:s.pay<=s.pln:=by revert G;unfold Uo.mx;grind
   have:=ml T k.w0
   rw[D];grind
 ·by_cases ht:t<=s.pln
  ·have e:mn (Uo.mx t s.pln) s.pay=s.pln:=by revert G;unfold mn Uo.mx;grind
   have D:mn t s.pln=t:=by unfold mn;grind
   rw[e,D];grind
  ·have e:mn (Uo.mx t s.pln) s.pay=t:=by revert G;unfold mn Uo.mx;grind
   have D:mn t t=t:=by unfold mn;grind
   have T:t<s.pay:=by revert G;unfold Uo.mx;grind
   have:=k.p0;have:=k.q0
   rw[e,D]
   by_cases hy:t<=y
   ·have:=k.conc.fall k.p0.1 k.p1 (show s.pln<=t by grind) hy L
    grind
   ·have:=(Conc.add k.conc (Conc.smul k.w0 (Conc.lin 1 0 s.fst s.lst))).rise (k:=s.pay) k.q0.2 (fun t' a b=>by show c t'+w*(1*t'+0)<=c s.pay+w*(1*s.pay+0);have:=k.q1 t' a b;grind) I (show y<=t by grind) (by grind)
    have this:c y+w*(1*y+0)<=c t+w*(1*t+0):=this
    grind
def Stp.dom(s:Stp)(x:Rat):Prop:=s.fst - s.rd<=x/\x<=s.lst+s.ru/\x<=s.mx
def Stp.Ok.befR{s:Stp}{c:F1}{w:Rat}(k:s.Ok c w){x:Rat}(D:s.dom x):s.fst<=s.bef x/\s.bef x<=s.lst/\x - s.ru<=s.bef x/\s.bef x<=x+s.rd:=by
 obtain⟨a,b,e⟩:=D
 have:=k.ru0;have:=k.rd0;have G:=k.p0;have I:=k.q0
 unfold Stp.bef
 generalize mn (Uo.mx (s.T x) s.pln) s.pay=z
 unfold mn Uo.mx;grind
def Stp.Ok.best{s:Stp}{c:F1}{w:Rat}(k:s.Ok c w){x y r:Rat}(L:s.dom x)(y1:s.fst<=y)(y2:y<=s.lst)(y3:x - s.ru<=y)(y4:y<=x+s.rd)(r1:r<=s.rs)(r2:x+r<=s.mx)(r3:x+r<=y+s.ru):c y+w*r<=s.G c w x:=by
 have Y:=k.p0;have h1:=k.q0
 have D:s.fst<=mn (Uo.mx (s.T x) s.pln) s.pay/\mn (Uo.mx (s.T x) s.pln) s.pay<=s.lst:=by unfold mn Uo.mx;grind
 have I:=Ahu (k.phi (s.T x)) D.1 D.2 (fun t a b=>k.top (s.T x) a b) (lo:=Uo.mx s.fst (x+-s.ru)) (hi:=mn s.lst (x+s.rd)) (by unfold Uo.mx;grind) (by unfold mn;grind) (y:=y) (by unfold Uo.mx;grind) (by unfold mn;grind)
 have hr:r<=mn (s.T x) y+(-1*x+s.ru):=by unfold Stp.T mn;grind
 have:=ml hr k.w0
 have I:c y+w*mn (s.T x) y<=c (s.bef x)+w*mn (s.T x) (s.bef x):=I
 unfold Stp.G;grind
def Stp.Ok.res{s:Stp}{c:F1}{w:Rat}(k:s.Ok c w){x:Rat}(D:s.dom x):0<=mn (s.T x) (s.bef x)+(-1*x+s.ru)/\mn (s.T x) (s.bef x)+(-1*x+s.ru)<=s.rs/\x+(mn (s.T x) (s.bef x)+(-1*x+s.ru))<=s.mx/\x+(mn (s.T x) (s.bef x)+(-1*x+s.ru))<=s.bef x+s.ru:=by
 have G:=k.befR D
 have I:=k.rs0;have L:=D.2.2
 generalize s.bef x=y at *
 unfold Stp.T mn;grind
def Stp.Ok.conc'{s:Stp}{c:F1}{w:Rat}(k:s.Ok c w){lo hi:Rat}(h:∀ x,lo<=x->x<=hi->s.dom x):Conc (s.G c w) lo hi:=fun x z t h1 h2 h3 h4 D I=>by
 have dx:=h x h1 h2;have dz:=h z h3 h4
 have dm:s.dom ((1 - t)*x+t*z):=by
  have a1:=Aor dx.1 dz.1 D I;have a2:=Aor dx.2.1 dz.2.1 D I;have a3:=Aor dx.2.2 dz.2.2 D I
  exact⟨by grind,by grind,by grind⟩
 obtain⟨L,Y,b3,b4⟩:=k.befR dx;obtain⟨e1,e2,e3,e4⟩:=k.befR dz
 obtain⟨f1,f2,f3,f4⟩:=k.res dx;obtain⟨g1,g2,g3,g4⟩:=k.res dz
 have kc:=k.conc _ _ t L Y e1 e2 D I
 have H:=k.best (y:=(1 - t)*s.bef x+t*s.bef z) (r:=(1 - t)*(mn (s.T x) (s.bef x)+(-1*x+s.ru))+t*(mn (s.T z) (s.bef z)+(-1*z+s.ru))) dm (by have:=Aor L e1 D I;grind) (by have:=Aor Y e2 D I;grind) (by have:=Aor b3 e3 D I;grind) (by have:=Aor b4 e4 D I;grind) (by have:=Aor f2 g2 D I;grind) (by have:=Aor f3 g3 D I;grind) (by have:=Aor f4 g4 D I;grind)
 refine A40 ?_ H
 unfold Stp.G
 grind
def Stp.Ok.lin{s:Stp}{c:F1}{w:Rat}(k:s.Ok c w){L:Hk}(v:Cv c L)(hf:s.fst=(L[0]'(v.ne)).1)(hl:s.lst=(L[L.length - 1]'(by have:=v.ne;omega)).1)(hp:∃ e∈L,s.pln=e.1)(hq:∃ e∈L,s.pay=e.1){p q:Rat}(D:p<=q)(hd:∀ x,p<=x->x<=q->s.dom x)
  (cand:∀ t,(t=s.mx - s.rs\/t=s.mx - s.ru - s.rd\/∃ e∈L,t=e.1 - s.rd\/t=e.1+s.ru\/t=e.1+s.ru - s.rs)->t<=p\/q<=t):Lin (s.G c w) p q:=by
 have Y:=v.ne
 have d:Apn (fun x=>x=s.mx - s.ru\/∃ e∈L,x=e.1) (fun b=>b=-s.ru\/b=s.rd\/b=s.rs - s.ru) p q:=fun x b hx hb=>by
  rcases hx with rfl|⟨e,I,rfl⟩<;>rcases hb with rfl|rfl|rfl
  ·right;have:=(hd q D (by grind)).2.2;grind
  ·exact cand _ (.inr (.inl rfl))
  ·rcases cand _ (.inl rfl)with h|h<;>grind
  ·rcases cand (e.1+s.ru) (.inr (.inr ⟨e,I,.inr (.inl rfl)⟩))with h|h<;>grind
  ·exact cand _ (.inr (.inr ⟨e,I,.inl rfl⟩))
  ·rcases cand (e.1+s.ru - s.rs) (.inr (.inr ⟨e,I,.inr (.inr rfl)⟩))with h|h<;>grind
 obtain⟨ep,hep,ep1⟩:=hp;obtain⟨eq,heq,eq1⟩:=hq
 have c1:Pc (fun x=>x=s.mx - s.ru\/∃ e∈L,x=e.1) (fun b=>b=-s.ru\/b=s.rd\/b=s.rs - s.ru) p q s.T :=
  Pc.mn d (.inr ⟨s.rs - s.ru,.inr (.inr rfl),fun _ _ _=>rfl⟩) (.inl ⟨s.mx - s.ru,.inl rfl,fun _ _ _=>rfl⟩)
 have ck:∀ z:Rat,(∃ e∈L,z=e.1)->Pc (fun x=>x=s.mx - s.ru\/∃ e∈L,x=e.1) (fun b=>b=-s.ru\/b=s.rd\/b=s.rs - s.ru) p q (fun _=>z):=fun z hz=>.inl ⟨z,.inr hz,fun _ _ _=>rfl⟩
 have c2:Pc (fun x=>x=s.mx - s.ru\/∃ e∈L,x=e.1) (fun b=>b=-s.ru\/b=s.rd\/b=s.rs - s.ru) p q s.bef :=
  Pc.mn d (Pc.mx d (Pc.mn d (Pc.mx d c1 (ck _ ⟨ep,hep,ep1⟩)) (ck _ ⟨eq,heq,eq1⟩)) (Pc.mx d (ck _ ⟨_,A24 Y,hf⟩) (.inr ⟨_,.inl rfl,fun _ _ _=>rfl⟩)))
   (Pc.mn d (ck _ ⟨_,A24 (by omega),hl⟩) (.inr ⟨_,.inr (.inl rfl),fun _ _ _=>rfl⟩))
 exact(v.comp D d (fun e I=>.inr ⟨e,I,rfl⟩) c2 fun x h1 h2=>by have:=k.befR (hd x h1 h2);rw[<-hf,<-hl];exact⟨this.1,this.2.1⟩).add (Lin.smul w ((Pc.mn d c1 c2).lin.add (Lin.of (-1) s.ru p q)))
def Lin.join{f:F1}{a b c:Rat}(k:Lin f a b)(D:Lin f b c)(I:a<b)(L:b<c)(e:(f b - f a)*(c - b)=(f c - f b)*(b - a)):Lin f a c:=by
 obtain⟨m,q,k⟩:=k;obtain⟨G,q',D⟩:=D
 have e1:=k a (by grind) (by grind);have e2:=k b (by grind) (by grind);have e3:=D b (by grind) (by grind);have e4:=D c (by grind) (by grind)
 have em:m=G:=by
  have:(b - a)*((c - b)*(m - G))=0:=by grind
  rcases Rat.mul_eq_zero.1 this with h|h
  ·grind
  ·rcases Rat.mul_eq_zero.1 h with h|h<;>grind
 subst em
 refine⟨m,q,fun x T k2=>?_⟩
 by_cases Y:x<=b
 ·exact k x T Y
 ·rw[D x (by grind) k2];grind
def Ahv(L:Hk)(x:Int)(v:Rat):Bool:=if h:2<=L.length then(L[L.length - 1].2 - L[L.length - 2].2)*(x - L[L.length - 1].1)==(v - L[L.length - 1].2)*(L[L.length - 1].1 - L[L.length - 2].1)else false
def JB(L:Hk)(x:Int)(v:Rat):Hk:=(if Ahv L x v then L.take (L.length - 1)else L)++[(x,v)]
def cJ{a b:Int}(h:a<b):(a:Rat)<b:=A6f.2 h
def Bq{a b:Int}(h:a<=b):(a:Rat)<=b:=A3n.2 h
def Cv.one(f:F1)(x:Int):Cv f [(x,f x)]:=⟨by simp,fun i h=>by simp,fun i h=>by simp at h,fun i h=>by simp at h⟩
def Cv.snoc{f:F1}{L:Hk}(c:Cv f L){x:Int}(k:(L[L.length - 1]'(by have:=c.ne;omega)).1<x)(D:Lin f (L[L.length - 1]'(by have:=c.ne;omega)).1 x):Cv f (L++[(x,f x)]):=by
 have G:=c.ne
 refine⟨by simp,fun i h=>?_,fun i h=>?_,fun i h=>?_⟩
 ·by_cases hi:i<L.length
  ·rw[A3q hi];exact c.val i hi
  ·have:i=L.length:=by simp at h;omega
   subst this;simp
 ·simp at h
  by_cases hi:i+1<L.length
  ·rw[A3q hi,A3q (by omega)];exact c.lt i hi
  ·have:i=L.length - 1:=by omega
   subst this;rw[A3q (by omega),A43 (by omega)];simpa using k
 ·simp at h
  by_cases hi:i+1<L.length
  ·rw[A3q hi,A3q (by omega)];exact c.lin i hi
  ·have:i=L.length - 1:=by omega
   subst this;rw[A3q (by omega),A43 (by omega)];simpa using D
def Cv.init{f:F1}{L:Hk}(c:Cv f L){n:Nat}(D:0<n):Cv f (L.take n):=by
 have k:=c.ne
 refine⟨by rw[A3b];omega,fun i h=>?_,fun i h=>?_,fun i h=>?_⟩<;>rw[A3b]at h
 ·rw[A4u];exact c.val i (by omega)
 ·rw[A4u,A4u];exact c.lt i (by omega)
 ·rw[A4u,A4u];exact c.lin i (by omega)
structure Upto(f:F1)(L:Hk)(a b:Int):Prop where
 cv:Cv f L
 fst:(L[0]'cv.ne).1=a
 lst:(L[L.length - 1]'(by have:=cv.ne;omega)).1=b
def Upto.add{f:F1}{L:Hk}{a b x:Int}(u:Upto f L a b)(h:b<x)(T:Lin f b x):Upto f (JB L x (f x)) a x:=by
 obtain⟨c,Y,hb⟩:=u
 have G:=c.ne
 unfold JB
 cases D:Ahv L x (f x)with
|false =>
  have k:=c.snoc (x:=x) (by omega) (by rw[hb];exact T)
  exact⟨k,by simp only[A4m,if_false];rw[A3q G];exact Y,by simp⟩
| true =>
  unfold Ahv at D
  split at D
  ·rename_i h2
   rw[beq_iff_eq,<-c.val _ (show L.length - 1<L.length by omega),<-c.val _ (show L.length - 2<L.length by omega)]at D
   have I:=c.lt (L.length - 2) (by omega);have k2:=c.lin (L.length - 2) (by omega)
   have e1:L.length - 2+1=L.length - 1:=by omega
   simp only[e1]at I k2
   rw[hb]at D I k2
   have ci:=c.init (n:=L.length - 1) (by omega)
   have hlen:(L.take (L.length - 1)).length=L.length - 1:=by rw[A3b];omega
   have el:((L.take (L.length - 1))[(L.take (L.length - 1)).length - 1]'(by omega))=L[L.length - 2]:=by
    rw[A4u];congr 1;omega
   have k:=ci.snoc (x:=x) (by rw[el];omega) (by rw[el];exact k2.join T (cJ I) (cJ h) D)
   refine⟨k,?_,by simp⟩
   simp only[if_true]
   rw[A3q (by omega),A4u];exact Y
  ·cases D
def bL(f:F1)(xs:List Int):Hk:=xs.foldl (fun L x=>JB L x (f x)) []
def Asc(xs:List Int):Prop:=∀ i (h:i+1<xs.length),xs[i]<xs[i+1]
def Adc{f:F1}{xs:List Int}(D:Asc xs)(G:∀ i (h:i+1<xs.length),Lin f xs[i] xs[i+1]):∀ k (h:k<xs.length),Upto f (bL f (xs.take (k+1))) xs[0] xs[k]
| 0,h=>by
  have e:xs.take 1=[xs[0]]:=by cases xs with
   |nil=>simp at h
   |cons a r=>simp
  rw[e];exact⟨Cv.one f _,rfl,rfl⟩
| k+1,h=>by
  have e:bL f (xs.take (k+1+1))=JB (bL f (xs.take (k+1))) xs[k+1] (f xs[k+1]):=by
   unfold bL;rw[A39 h,A8f];rfl
  rw[e]
  exact(Adc D G k (by omega)).add (D k h) (G k h)
def Avx{f:F1}{xs:List Int}(G:0<xs.length)(k:Asc xs)(D:∀ i (h:i+1<xs.length),Lin f xs[i] xs[i+1]):Upto f (bL f xs) xs[0] xs[xs.length - 1]:=by
 have:=Adc k D (xs.length - 1) (by omega)
 rwa [A2t (by omega)]at this
def Asc.lt{xs:List Int}(k:Asc xs):∀ j i (_:i<j) (D:j<xs.length),xs[i]<xs[j]
|0,_,h,_=>absurd h (by omega)
|j+1,i,h,D=>by
  have:=k j D
  by_cases e:i=j
  ·subst e;exact this
  ·have:=k.lt j i (by omega) (by omega);omega
def Asc.gap{xs:List Int}(k:Asc xs){i:Nat}(h:i+1<xs.length){t:Int}(D:t∈xs):t<=xs[i]\/xs[i+1]<=t:=by
 obtain⟨j,G,rfl⟩:=A5l.1 D
 by_cases I:j<=i
 ·left;by_cases e:j=i
  ·subst e;exact A65 _
  ·exact A8w (k.lt i j (by omega) (by omega))
 ·right;by_cases e:j=i+1
  ·subst e;exact A65 _
  ·exact A8w (k.lt j (i+1) (by omega) G)
structure Grid(lo hi:Int)(cs xs:List Int):Prop where
 asc:Asc xs
 mem:∀ t,t∈xs↔t=lo\/t=hi\/(t∈cs/\lo<t/\t<hi)
def Grid.all{lo hi:Int}{cs xs:List Int}(g:Grid lo hi cs xs)(h:lo<=hi){t:Int}(k:t∈xs):lo<=t/\t<=hi:=by rcases(g.mem t).1 k with rfl|rfl|D<;>omega
def Grid.ends{lo hi:Int}{cs xs:List Int}(g:Grid lo hi cs xs)(h:lo<=hi):∃ k:0<xs.length,xs[0]=lo/\xs[xs.length - 1]=hi:=by
 have m1:=(g.mem lo).2 (.inl rfl);have m2:=(g.mem hi).2 (.inr (.inl rfl))
 have k:0<xs.length:=List.length_pos_of_mem m1
 obtain⟨i,D,e1⟩:=A5l.1 m1
 obtain⟨j,I,G⟩:=A5l.1 m2
 have a1:=(g.all h (A24 k)).1
 have a2:=(g.all h (A24 (show xs.length - 1<xs.length by omega))).2
 refine⟨k,?_,?_⟩
 ·by_cases e:i=0
  ·subst e;exact e1
  ·have:=g.asc.lt i 0 (by omega) D;omega
 ·by_cases e:j=xs.length - 1
  ·subst e;exact G
  ·have:=g.asc.lt (xs.length - 1) j (by omega) (by omega);omega
def Grid.cand{lo hi:Int}{cs xs:List Int}(g:Grid lo hi cs xs)(k:lo<=hi){i:Nat}(h:i+1<xs.length){t:Int}(D:t∈cs):t<=xs[i]\/xs[i+1]<=t:=by
 have a1:=g.all k (A24 (show i<xs.length by omega));have a2:=g.all k (A24 h)
 by_cases G:t<=lo
 ·left;omega
 ·by_cases I:hi<=t
  ·right;omega
  ·exact g.asc.gap h ((g.mem t).2 (.inr (.inr ⟨D,by omega,by omega⟩)))
def Grid.built{f:F1}{lo hi:Int}{cs xs:List Int}(g:Grid lo hi cs xs)(h:lo<=hi)(D:∀ p q:Int,lo<=p->p<=q->q<=hi->(∀ t∈cs,t<=p\/q<=t)->Lin f p q):Upto f (bL f xs) lo hi:=by
 obtain⟨G,e1,I⟩:=g.ends h
 have:=Avx (f:=f) G g.asc fun i k=>by
  exact D _ _ (g.all h (A24 _)).1 (A8w (g.asc i k)) (g.all h (A24 _)).2 fun t L=>g.cand h k L
 rwa [e1,I]at this
def Asc.eq:∀{xs ys:List Int},Asc xs->Asc ys->(∀ t,t∈xs↔t∈ys)->xs=ys
|[],[],_,_,_=>rfl
|[],b::r,_,_,h=>absurd ((h b).2 (by simp)) (by simp)
|a::r,[],_,_,h=>absurd ((h a).1 (by simp)) (by simp)
| a::r,b::s,G,I,h=>by
  have l1:∀ t∈r,a<t:=fun t k=>by
   obtain⟨j,L,rfl⟩:=A5l.1 k
   exact G.lt (j+1) 0 (by omega) (by simp;omega)
  have l2:∀ t∈s,b<t:=fun t k=>by
   obtain⟨j,L,rfl⟩:=A5l.1 k
   exact I.lt (j+1) 0 (by omega) (by simp;omega)
  have e:a=b:=by
   have T:a∈b::s:=(h a).1 (by simp)
   have k2:b∈a::r:=(h b).2 (by simp)
   rcases A28.1 T with e|e
   ·exact e
   ·rcases A28.1 k2 with D|D
    ·exact D.symm
    ·have:=l2 _ e;have:=l1 _ D;omega
  subst e
  rw[Asc.eq (xs:=r) (ys:=s) (fun i hi=>G (i+1) (by simp;omega)) (fun i hi=>I (i+1) (by simp;omega)) fun t=>by
   have:=h t;simp only[A28]at this
   constructor
   ·intro k;have:=l1 t k;rcases(h t).1 (by simp[k])|>A28.1 with e|e
    ·omega
    ·exact e
   ·intro k;have:=l2 t k;rcases(h t).2 (by simp[k])|>A28.1 with e|e
    ·omega
    ·exact e]
def Lt(a b:Int):Int:=if a<=b then a else b
def NL(a b:Int):Int:=if a<=b then b else a
def Amd(a b:Int):((Lt a b:Int):Rat)=mn a b:=by
 unfold Lt mn
 by_cases h:a<=b
 ·rw[if_pos h,if_pos (Bq h)]
 ·rw[if_neg h,if_neg (fun k=>h (A3n.1 k))]
def Avy(a b:Int):((NL a b:Int):Rat)=mx a b:=by
 unfold NL mx
 by_cases h:a<=b
 ·rw[if_pos h,if_pos (Bq h)]
 ·rw[if_neg h,if_neg (fun k=>h (A3n.1 k))]
def pk(s:Rat):Hk->Int->Rat->Int
|[],b,_=>b
|(x,v)::r,b,m=>if m<v+s*x then pk s r x (v+s*x)else pk s r b m
def E2(s:Rat):Hk->Int
|[]=>0
|(x,v)::r=>pk s r x (v+s*x)
def Apo(s:Rat):∀(L:Hk)(b:Int)(m:Rat),(pk s L b m=b/\∀ e∈L,e.2+s*e.1<=m)\/∃ e∈L,pk s L b m=e.1/\m<=e.2+s*e.1/\∀ e'∈L,e'.2+s*e'.1<=e.2+s*e.1
|[],b,m=>.inl ⟨rfl,by simp⟩
| (x,v)::r,b,m=>by
  rw[pk]
  split
  ·rename_i h
   rcases Apo s r x (v+s*x)with⟨k,D⟩|⟨e,G,k,D,I⟩
   ·exact .inr ⟨(x,v),by simp,k,by show m<=v+s*x;grind,A4v.2 ⟨A37,D⟩⟩
   ·exact .inr ⟨e,by simp[G],k,by grind,A4v.2 ⟨D,I⟩⟩
  ·rename_i h
   rcases Apo s r b m with⟨k,D⟩|⟨e,G,k,D,I⟩
   ·exact .inl ⟨k,A4v.2 ⟨by show v+s*x<=m;grind,D⟩⟩
   ·exact .inr ⟨e,by simp[G],k,D,A4v.2 ⟨by show v+s*x<=_;grind,I⟩⟩
def Aj9(s:Rat){L:Hk}(h:0<L.length):∃ e∈L,E2 s L=e.1/\∀ e'∈L,e'.2+s*e'.1<=e.2+s*e.1:=by
 match L,h with
|(x,v)::r,_ =>
  rw[E2]
  rcases Apo s r x (v+s*x)with⟨k,D⟩|⟨e,G,k,D,I⟩
  ·exact⟨(x,v),by simp,k,A4v.2 ⟨A37,D⟩⟩
  ·exact⟨e,by simp[G],k,A4v.2 ⟨D,I⟩⟩
structure Un where
 min:Int
 max:Int
 ru:Int
 rd:Int
 sr:Int
 tr:Int
 rs:Int
 nl:Int
 rp:Int
 out:Int
 on:Bool
 C:F1
 cL:Hk
structure Un.Ok(u:Un):Prop where
 b0:0<=u.min/\u.min<=u.max/\u.max<=1048576
 ru0:0<=u.ru/\u.ru<=1048576
 rd0:0<=u.rd/\u.rd<=1048576
 rs0:0<=u.rs/\u.rs<=1048576
 sr0:u.min<=u.sr/\u.sr<=u.max
 tr0:u.min<=u.tr/\u.tr<=u.max
 o0:u.on=true->u.min<=u.out/\u.out<=u.max
 cc:Upto u.C u.cL u.min u.max
 cv:Conc u.C u.min u.max
def Av(u:Un)(b:Rat):Rat:=mx 0 (b - u.rp)
def own(u:Un)(a:Rat):F1:=fun x=>a*x+u.C x - u.nl
def fstP(L:Hk):Int:=(L.headD (0,0)).1
def lstP(L:Hk):Int:=(L.getLastD (0,0)).1
def xU(u:Un)(L:Hk)(w:Rat):Stp:=⟨fstP L,lstP L,E2 0 L,E2 w L,u.ru,u.rd,u.rs,u.max⟩
def VN(lo hi:Int)(cs:List Int):List Int:=((List.range (hi - lo+1).toNat).map fun(i:Nat)=>lo+(i:Int)).filter fun t=>t==lo||t==hi||cs.contains t
def NM(u:Un)(L:Hk):List Int:=[u.max - u.rs,u.max - u.ru - u.rd]++u.cL.map (·.1)++L.flatMap fun e=>[e.1 - u.rd,e.1+u.ru,e.1+u.ru - u.rs]
def YT(u:Un)(a b:Rat)(f:F1)(L:Hk):F1:=fun x=>(xU u L (Av u b)).G f (Av u b) x+own u a x
def zZ(u:Un)(a b:Rat)(f:F1)(L:Hk):Hk:=bL (YT u a b f L) (VN (NL u.min (fstP L - u.rd)) (Lt u.max (lstP L+u.ru)) (NM u L))
def cM(u:Un)(a b:Rat):F1:=fun x=>own u a x+Av u b*mn u.rs (u.sr - x)
def Ame(u:Un)(a b:Rat):Hk:=bL (cM u a b) (VN u.min u.sr ((u.sr - u.rs)::u.cL.map (·.1)))
def App{lo hi:Int}{cs:List Int}:Asc (VN lo hi cs):=by
 have h:(VN lo hi cs).Pairwise (·<·):=by
  unfold VN
  refine List.Pairwise.filter _ ?_
  rw[List.pairwise_map]
  exact List.Pairwise.imp (fun h=>by omega) List.pairwise_lt_range
 intro i k
 exact A4h.1 h i (i+1) (by omega) k (by omega)
def z6 {lo hi:Int} {cs:List Int} (h:lo<=hi):Grid lo hi cs (VN lo hi cs):=⟨App,fun t=>by
 unfold VN
 simp only[A5g,A3w,A9b,A5y,beq_iff_eq,List.contains_iff_mem]
 constructor
 ·rintro⟨⟨i,G,rfl⟩,(k|k)|k⟩
  ·exact .inl k
  ·exact .inr (.inl k)
  ·by_cases e1:(i:Int)=0
   ·left;omega
   ·by_cases D:lo+(i:Int)=hi
    ·exact .inr (.inl D)
    ·exact .inr (.inr ⟨k,by omega,by omega⟩)
 ·rintro(rfl|rfl|⟨k,I,L⟩)
  ·exact⟨⟨0,by omega,by omega⟩,.inl (.inl rfl)⟩
  ·exact⟨⟨(t - lo).toNat,by omega,by omega⟩,.inl (.inr rfl)⟩
  ·exact⟨⟨(t - lo).toNat,by omega,by omega⟩,.inr k⟩⟩
def Ahw:∀{L:Hk}(h:0<L.length),fstP L=L[0].1
|_::_,_=>rfl
def Upto.fstP{f:F1}{L:Hk}{a b:Int}(u:Upto f L a b):fstP L=a:=(Ahw u.cv.ne).trans u.fst
def Upto.lstP{f:F1}{L:Hk}{a b:Int}(u:Upto f L a b):lstP L=b:=by
 have:=u.cv.ne;have h:=u.lst
 unfold Uo.lstP
 rw[A6u,A6t,A2r (by omega)];exact h
def Upto.pk{f:F1}{L:Hk}{a b:Int}(u:Upto f L a b)(s:Rat):(∃ e∈L,E2 s L=e.1)/\(a<=E2 s L/\E2 s L<=b)/\∀ x:Rat,a<=x->x<=b->f x+s*x<=f (E2 s L)+s*E2 s L:=by
 obtain⟨e,D,k,G⟩:=Aj9 s u.cv.ne
 obtain⟨i,hi,rfl⟩:=A5l.1 D
 refine⟨⟨_,D,k⟩,?_,fun x I k2=>?_⟩
 ·have a1:=u.cv.mono i 0 (by omega) hi;have a2:=u.cv.mono (L.length - 1) i (by omega) (by omega)
  rw[u.fst]at a1;rw[u.lst]at a2;rw[k];exact⟨a1,a2⟩
 ·have:=u.cv.most (s:=s) (M:=L[i].2+s*L[i].1) G (x:=x) (by rw[u.fst];exact I) (by rw[u.lst];exact k2)
  rw[k,u.cv.val i hi];exact this
structure Stage(u:Un)(f:F1)(L:Hk)(lo hi:Int):Prop where
 up:Upto f L lo hi
 cc:Conc f lo hi
 l0:u.min<=lo
 l1:lo<=hi
 l2:hi<=u.max
def rH(u:Un)(b:Rat):0<=Av u b:=by unfold Av mx;grind
def Stage.ok{u:Un}{f:F1}{L:Hk}{lo hi:Int}(s:Stage u f L lo hi)(k:u.Ok)(b:Rat):(xU u L (Av u b)).Ok f (Av u b):=by
 have p:=s.up.pk 0;have q:=s.up.pk (Av u b)
 have e1:(xU u L (Av u b)).fst=lo:=congrArg (fun z:Int=>(z:Rat)) s.up.fstP
 have D:(xU u L (Av u b)).lst=hi:=congrArg (fun z:Int=>(z:Rat)) s.up.lstP
 refine⟨by rw[e1,D];exact s.cc,rH u b,?_,?_,?_,?_,Bq k.ru0.1,Bq k.rd0.1,Bq k.rs0.1⟩<;>rw[e1,D]
 ·exact⟨Bq p.2.1.1,Bq p.2.1.2⟩
 ·intro y G I;have:=p.2.2 y G I;show f y<=f (E2 0 L:Int);grind
 ·exact⟨Bq q.2.1.1,Bq q.2.1.2⟩
 ·exact q.2.2
def Ade{u:Un}(k:u.Ok)(a:Rat){lo hi:Rat}(D:u.min<=lo)(G:hi<=u.max):Conc (own u a) lo hi:=Conc.congr ((Conc.lin a (-u.nl) lo hi).add (k.cv.sub D G)) fun x=>by unfold own;grind
def Aka{u:Un}(k:u.Ok)(a:Rat){p q:Int}(D:u.min<=p)(h:p<=q)(G:q<=u.max)(hc:∀ e∈u.cL,e.1<=p\/q<=e.1):Lin (own u a) p q:=by refine((Lin.of a (-u.nl) p q).add (k.cc.cv.between (by rw[k.cc.fst];exact Bq D) (Bq h) (by rw[k.cc.lst];exact Bq G) fun e I=>(hc e I).imp Bq Bq)).congr fun x _ _=>by unfold own;grind
def iO{u:Un}(k:u.Ok)(a b:Rat){f:F1}{L:Hk}{lo hi:Int}(s:Stage u f L lo hi):Stage u (YT u a b f L) (zZ u a b f L) (NL u.min (lo - u.rd)) (Lt u.max (hi+u.ru)):=by
 have ko:=s.ok k b
 have Y:=s.l0;have h1:=s.l1;have h2:=s.l2;have h3:=k.b0;have h4:=k.ru0;have h5:=k.rd0
 have e1:fstP L=lo:=s.up.fstP
 have G:lstP L=hi:=s.up.lstP
 have l0:u.min<=NL u.min (lo - u.rd)/\lo - u.rd<=NL u.min (lo - u.rd):=by unfold NL;split<;>omega
 have l1:NL u.min (lo - u.rd)<=Lt u.max (hi+u.ru):=by unfold NL Lt;split<;>split<;>omega
 have l2:Lt u.max (hi+u.ru)<=u.max/\Lt u.max (hi+u.ru)<=hi+u.ru:=by unfold Lt;split<;>omega
 have dm:∀ x:Rat,(NL u.min (lo - u.rd):Int)<=x->x<=(Lt u.max (hi+u.ru):Int)->(xU u L (Av u b)).dom x:=fun x x1 x2=>by
  have a1:=Bq l0.2;have a2:=Bq l2.1;have a3:=Bq l2.2
  rw[A3i]at a1;rw[A3y]at a3
  refine⟨?_,?_,?_⟩
  ·show((fstP L:Int):Rat) - u.rd<=x;rw[e1];grind
  ·show x<=((lstP L:Int):Rat)+u.ru;rw[G];grind
  ·show x<=(u.max:Rat);grind
 refine⟨?_,?_,l0.1,l1,l2.1⟩
 ·unfold zZ;rw[e1,G]
  refine(z6 l1).built l1 fun p q p1 pq I hc=>?_
  refine(ko.lin s.up.cv (congrArg (fun z:Int=>(z:Rat)) (e1.trans s.up.fst.symm)) (congrArg (fun z:Int=>(z:Rat)) (G.trans s.up.lst.symm)) ?_ ?_ (Bq pq) (fun x x1 x2=>dm x (A40 (Bq p1) x1) (A40 x2 (Bq I))) ?_).add (Aka k a (by omega) pq (by omega) fun e D=>hc _ (by unfold NM;simp;exact .inr (.inr (.inl ⟨_,D⟩))))
  ·obtain⟨e,D,h⟩:=(s.up.pk 0).1;exact⟨e,D,congrArg (fun z:Int=>(z:Rat)) h⟩
  ·obtain⟨e,D,h⟩:=(s.up.pk (Av u b)).1;exact⟨e,D,congrArg (fun z:Int=>(z:Rat)) h⟩
  ·have cc:∀ t:Int,t∈NM u L->(t:Rat)<=p\/(q:Rat)<=t:=fun t T=>(hc t T).imp Bq Bq
   rintro t (rfl|rfl|⟨e,D,rfl|rfl|rfl⟩)
   ·have:=cc (u.max - u.rs) (by simp[NM]);rwa [A3i]at this
   ·have:=cc (u.max - u.ru - u.rd) (by simp[NM]);rwa [A3i,A3i]at this
   ·have:=cc (e.1 - u.rd) (by unfold NM;rw[A27];exact .inr (A7n.2 ⟨e,D,by simp⟩));rwa [A3i]at this
   ·have:=cc (e.1+u.ru) (by unfold NM;rw[A27];exact .inr (A7n.2 ⟨e,D,by simp⟩));rwa [A3y]at this
   ·have:=cc (e.1+u.ru - u.rs) (by unfold NM;rw[A27];exact .inr (A7n.2 ⟨e,D,by simp⟩));rwa [A3i,A3y]at this
 ·exact(ko.conc' dm).add (Ade k a (Bq l0.1) (Bq l2.1))
def Amf{u:Un}(k:u.Ok)(a b:Rat):Stage u (cM u a b) (Ame u a b) u.min u.sr:=by
 have I:=k.b0;have D:=k.sr0
 refine⟨?_,?_,A65 _,D.1,D.2⟩
 ·refine(z6 D.1).built D.1 fun p q p1 pq L hc=>?_
  refine(Aka k a p1 pq (by omega) fun e G=>hc _ (by simp;exact .inr ⟨_,G⟩)).add (Lin.smul _ ?_)
  have hs:u.sr - u.rs<=p\/q<=u.sr - u.rs:=hc _ (by simp)
  rcases hs with h|h
  ·have:=Bq h;rw[A3i]at this
   exact(Lin.of (-1) u.sr p q).congr fun x x1 x2=>by unfold mn;grind
  ·have:=Bq h;rw[A3i]at this
   exact(Lin.of 0 u.rs p q).congr fun x x1 x2=>by unfold mn;grind
 ·exact(Ade k a A37 (Bq D.2)).add (Conc.smul (rH u b) (Conc.congr ((Conc.lin 0 u.rs _ _).mn (Conc.lin (-1) u.sr _ _)) fun x=>by unfold mn;grind))
end Gx.Uo
namespace Gx.Uo
def Apq(u:Un)(x:Int):Int:=Lt (x+u.rs) u.max
def gQ(u:Un)(L:Hk)(w:Rat)(x:Int):Int:=Lt (NL (Lt (NL (Apq u x - u.ru) (E2 0 L)) (E2 w L)) (NL (fstP L) (x - u.ru))) (Lt (lstP L) (x+u.rd))
def bM(u:Un)(L:Hk)(w:Rat)(x:Int):Int:=if 0<w then Lt (Apq u x) (gQ u L w x+u.ru) - x else 0
def Auk{u:Un}{L:Hk}{w:Rat}{x:Int}:((Apq u x - u.ru:Int):Rat)=(xU u L w).T x:=by
 unfold Apq Stp.T
 rw[A3i,Amd,A3y]
 show mn ((x:Rat)+u.rs) u.max - u.ru=mn ((x:Rat)+(u.rs - u.ru)) (u.max - u.ru)
 unfold mn;grind
def JC{u:Un}{L:Hk}{w:Rat}{x:Int}:((gQ u L w x:Int):Rat)=(xU u L w).bef x:=by
 unfold gQ Stp.bef
 rw[Amd,Avy,Amd,Avy,Avy,Amd,Auk (L:=L) (w:=w),A3i,A3y,A6g (x:Rat)]
 rfl
def As4{u:Un}{L:Hk}{w:Rat}{x:Int}(h:0<w):((bM u L w x:Int):Rat)=mn ((xU u L w).T x) ((xU u L w).bef x)+(-1*x+u.ru):=by
 unfold bM
 rw[if_pos h,A3i,Amd,A3y,JC,<-Auk,A3i]
 unfold mn;grind
structure HourOk(u:Un)(was:Bool)(q p r:Rat):Prop where
 lo:u.min<=p
 r0:0<=r
 r1:r<=u.rs
 hi:p+r<=u.max
 ramp:if was then p+r - q<=u.ru/\q - p<=u.rd else p+r<=u.sr
def OU(u:Un)(a b p r:Rat):Rat:=own u a p+(b - u.rp)*r
def Adf(u:Un)(b:Rat):b - u.rp<=Av u b:=by unfold Av mx;grind
def rI{u:Un}{b:Rat}(h:0<Av u b):Av u b=b - u.rp:=by revert h;unfold Av mx;grind
def Adg{u:Un}(k:u.Ok){a b:Rat}{f:F1}{L:Hk}{lo hi:Int}(s:Stage u f L lo hi){y p r:Rat}(y1:lo<=y)(y2:y<=hi)(h:HourOk u true y p r):f y+OU u a b p r<=YT u a b f L p/\(NL u.min (lo - u.rd):Int)<=p/\p<=(Lt u.max (hi+u.ru):Int):=by
 have hr:p+r - y<=u.ru/\y - p<=u.rd:=h.ramp
 obtain⟨Y,G,I,T,_⟩:=h
 have e1:(xU u L (Av u b)).fst=lo:=congrArg (fun z:Int=>(z:Rat)) s.up.fstP
 have D:(xU u L (Av u b)).lst=hi:=congrArg (fun z:Int=>(z:Rat)) s.up.lstP
 have H:=(s.ok k b).best (x:=p) (y:=y) (r:=r) ⟨by rw[e1];show(lo:Rat) - u.rd<=p;grind,by rw[D];show p<=(hi:Rat)+u.ru;grind,by show p<=(u.max:Rat);grind⟩ (by rw[e1];exact y1) (by rw[D];exact y2) (by show p - u.ru<=y;grind) (by show y<=p+u.rd;grind) I T (by show p+r<=y+u.ru;grind)
 have:=A41 (Adf u b) G
 refine⟨by unfold OU YT;grind,?_,?_⟩
 ·rw[Avy,A3i];unfold mx;grind
 ·rw[Amd,A3y];unfold mn;grind
def GL{u:Un}(k:u.Ok){a b:Rat}{f:F1}{L:Hk}{lo hi x:Int}(s:Stage u f L lo hi)(x1:NL u.min (lo - u.rd)<=x)(x2:x<=Lt u.max (hi+u.ru)):(lo<=gQ u L (Av u b) x/\gQ u L (Av u b) x<=hi)/\HourOk u true (gQ u L (Av u b) x) x (bM u L (Av u b) x)/\f (gQ u L (Av u b) x)+OU u a b x (bM u L (Av u b) x)=YT u a b f L x:=by
 have ko:=s.ok k b
 have e1:(xU u L (Av u b)).fst=lo:=congrArg (fun z:Int=>(z:Rat)) s.up.fstP
 have e2:(xU u L (Av u b)).lst=hi:=congrArg (fun z:Int=>(z:Rat)) s.up.lstP
 have D:=Bq x1;have I:=Bq x2
 rw[Avy,A3i]at D;rw[Amd,A3y]at I
 have a1:(u.min:Rat)<=x/\(lo:Rat) - u.rd<=x:=by revert D;unfold mx;grind
 have a2:(x:Rat)<=u.max/\(x:Rat)<=hi+u.ru:=by revert I;unfold mn;grind
 have dm:(xU u L (Av u b)).dom x:=⟨by rw[e1];exact a1.2,by rw[e2];exact a2.2,a2.1⟩
 obtain⟨b1,b2,b3,b4⟩:=ko.befR dm
 obtain⟨c1,c2,c3,c4⟩:=ko.res dm
 have b3:(x:Rat) - u.ru<=(xU u L (Av u b)).bef x:=b3
 have b4:(xU u L (Av u b)).bef x<=(x:Rat)+u.rd:=b4
 rw[e1,<-JC]at b1;rw[e2,<-JC]at b2;rw[<-JC]at b3 b4
 refine⟨⟨A3n.1 b1,A3n.1 b2⟩,?_⟩
 have rs0:=Bq k.rs0.1
 by_cases hw:0<Av u b
 ·have er:=As4 (u:=u) (L:=L) (x:=x) hw
  have Y:((bM u L (Av u b) x:Int):Rat)=mn ((xU u L (Av u b)).T x) ((xU u L (Av u b)).bef x)+(-1*x+(xU u L (Av u b)).ru):=er
  rw[<-Y]at c1 c2 c3 c4
  refine⟨⟨a1.1,c1,c2,c3,?_⟩,?_⟩
  ·have c4:(x:Rat)+(bM u L (Av u b) x:Int)<=(xU u L (Av u b)).bef x+u.ru:=c4
   rw[<-JC]at c4
   simp only[if_true];constructor<;>grind
  ·unfold OU YT Stp.G
   rw[<-Y,JC,<-rI hw];grind
 ·have hz:Av u b=0:=by have:=rH u b;grind
  have er:bM u L (Av u b) x=0:=by unfold bM;rw[if_neg hw]
  rw[er]
  refine⟨⟨a1.1,A37,rs0,by grind,?_⟩,?_⟩
  ·simp only[if_true];constructor<;>grind
  ·unfold OU YT Stp.G
   rw[JC,hz];grind
def Apr{u:Un}{a b p r q:Rat}(h:HourOk u false q p r):OU u a b p r<=cM u a b p/\(u.min:Rat)<=p/\p<=u.sr:=by
 have hr:p+r<=u.sr:=h.ramp
 obtain⟨k,D,G,I,_⟩:=h
 have:=A41 (Adf u b) D
 have:=ml (show r<=mn (u.rs:Rat) (u.sr - p) by unfold mn;grind) (rH u b)
 exact⟨by unfold OU cM;grind,k,by grind⟩
def Adh(u:Un)(w:Rat)(x:Int):Int:=if 0<w then Lt u.rs (u.sr - x)else 0
def Aps{u:Un}(k:u.Ok){a b q:Rat}{x:Int}(x1:u.min<=x)(x2:x<=u.sr):HourOk u false q x (Adh u (Av u b) x)/\OU u a b x (Adh u (Av u b) x)=cM u a b x:=by
 have rs0:=Bq k.rs0.1;have s0:=Bq k.sr0.2
 have D:=Bq x1;have I:=Bq x2
 unfold Adh
 by_cases G:0<Av u b
 ·rw[if_pos G,Amd,A3i]
  refine⟨⟨D,by unfold mn;grind,by unfold mn;grind,by unfold mn;grind,?_⟩,?_⟩
  ·simp only[A4m,if_false];unfold mn;grind
  ·unfold OU cM;rw[<-rI G]
 ·have L:Av u b=0:=by have:=rH u b;grind
  rw[if_neg G]
  refine⟨⟨D,A37,rs0,by grind,?_⟩,?_⟩
  ·simp only[A4m,if_false];grind
  ·unfold OU cM;rw[L];grind
section
variable(u:Un)(a b:Nat->Rat)(fi:Nat)
def X1:Bool:=fi==0&&u.on
def oL:Hk:=[(u.out,0)]
def runF:Nat->F1×Hk
|0=>if X1 u fi then(YT u (a fi) (b fi) (fun _=>0) (oL u),zZ u (a fi) (b fi) (fun _=>0) (oL u))else(cM u (a fi) (b fi),Ame u (a fi) (b fi))
|k+1=>(YT u (a (fi+k+1)) (b (fi+k+1)) (runF k).1 (runF k).2,zZ u (a (fi+k+1)) (b (fi+k+1)) (runF k).1 (runF k).2)
def Hu:Nat->Int
|0=>if X1 u fi then NL u.min (u.out - u.rd)else u.min
|k+1=>NL u.min (Hu k - u.rd)
def S5:Nat->Int
|0=>if X1 u fi then Lt u.max (u.out+u.ru)else u.sr
|k+1=>Lt u.max (S5 k+u.ru)
variable{u}{a b}{fi}
def xV(h:X1 u fi=true):u.on=true:=by unfold X1 at h;simp at h;exact h.2
def UJ(k:u.Ok)(h:u.on=true):Stage u (fun _=>0) (oL u) u.out u.out:=⟨⟨Cv.one (fun _=>0) u.out,rfl,rfl⟩,Conc.congr (Conc.lin 0 0 _ _) fun x=>by grind,(k.o0 h).1,A65 _,(k.o0 h).2⟩
def Hm(k:u.Ok):∀ n,Stage u (runF u a b fi n).1 (runF u a b fi n).2 (Hu u fi n) (S5 u fi n)
|0=>by
  unfold runF Hu S5
  cases h:X1 u fi with
  |true=>exact iO k _ _ (UJ k (xV h))
  |false=>exact Amf k _ _
|n+1=>iO k _ _ (Hm k n)
variable(u)(a b)(fi)
def iP(p r:Nat->Rat):Nat->Prop
|0=>HourOk u (X1 u fi) u.out (p 0) (r 0)
|n+1=>iP p r n/\HourOk u true (p n) (p (n+1)) (r (n+1))
def OV(p r:Nat->Rat):Nat->Rat
|0=>OU u (a fi) (b fi) (p 0) (r 0)
|n+1=>OV p r n+OU u (a (fi+n+1)) (b (fi+n+1)) (p (n+1)) (r (n+1))
def fP:Nat->Int->Nat->Int
|0,x,_=>x
|n+1,x,i=>if i=n+1 then x else fP n (gQ u (runF u a b fi n).2 (Av u (b (fi+n+1))) x) i
def fR:Nat->Int->Nat->Int
|0,x,_=>if X1 u fi then bM u (oL u) (Av u (b fi)) x else Adh u (Av u (b fi)) x
|n+1,x,i=>if i=n+1 then bM u (runF u a b fi n).2 (Av u (b (fi+n+1))) x else fR n (gQ u (runF u a b fi n).2 (Av u (b (fi+n+1))) x) i
variable{u}{a b}{fi}
def Adi(k:u.Ok){p r:Nat->Rat}:∀ n,iP u fi p r n->OV u a b fi p r n<=(runF u a b fi n).1 (p n)/\(Hu u fi n:Rat)<=p n/\p n<=S5 u fi n
| 0,h=>by
  unfold iP at h
  unfold OV runF Hu S5
  cases hc:X1 u fi with
  |true =>
   rw[hc]at h
   have:=Adg k (a:=a fi) (b:=b fi) (UJ k (xV hc)) A37 A37 h
   exact⟨by have:=this.1;simp only[if_true];grind,this.2⟩
  |false=>rw[hc]at h;exact Apr h
|n+1,h=>by
  have D:=Adi k n h.1
  have:=Adg k (a:=a (fi+n+1)) (b:=b (fi+n+1)) (Hm (a:=a) (b:=b) (fi:=fi) k n) D.2.1 D.2.2 h.2
  refine⟨?_,this.2⟩
  unfold OV runF
  have:=this.1
  grind
def rJ{p k r D:Nat->Rat}:∀ n,(∀ i≤n,p i=k i/\r i=D i)->iP u fi p r n->iP u fi k D n
|0,e,h=>by unfold iP at *;rw[<-(e 0 (by omega)).1,<-(e 0 (by omega)).2];exact h
|n+1,e,h=>by
  unfold iP at *
  rw[<-(e n (by omega)).1,<-(e (n+1) (by omega)).1,<-(e (n+1) (by omega)).2]
  exact⟨rJ n (fun i hi=>e i (by omega)) h.1,h.2⟩
def iQ{p k r D:Nat->Rat}:∀ n,(∀ i≤n,p i=k i/\r i=D i)->OV u a b fi p r n=OV u a b fi k D n
|0,e=>by unfold OV;rw[<-(e 0 (by omega)).1,<-(e 0 (by omega)).2]
|n+1,e=>by
  unfold OV
  rw[<-(e (n+1) (by omega)).1,<-(e (n+1) (by omega)).2,iQ n fun i hi=>e i (by omega)]
def pP:∀ n (x:Int),fP u a b fi n x n=x
|0,_=>rfl
|n+1,_=>by rw[fP,if_pos rfl]
def Adj(k:u.Ok):∀ n (x:Int),Hu u fi n<=x->x<=S5 u fi n->iP u fi (fun i=>fP u a b fi n x i) (fun i=>fR u a b fi n x i) n/\OV u a b fi (fun i=>fP u a b fi n x i) (fun i=>fR u a b fi n x i) n=(runF u a b fi n).1 x
| 0,x,x1,x2=>by
  unfold iP OV runF
  unfold Hu at x1;unfold S5 at x2
  simp only[fP,fR]
  cases hc:X1 u fi with
  |true =>
   rw[hc]at x1 x2
   have:=GL k (a:=a fi) (b:=b fi) (UJ k (xV hc)) x1 x2
   have e:gQ u (oL u) (Av u (b fi)) x=u.out:=Int.le_antisymm this.1.2 this.1.1
   rw[e]at this
   refine⟨this.2.1,?_⟩
   have:=this.2.2
   simp only[if_true];grind
  |false=>rw[hc]at x1 x2;exact Aps k x1 x2
| n+1,x,x1,x2=>by
  have:=GL k (a:=a (fi+n+1)) (b:=b (fi+n+1)) (Hm (a:=a) (b:=b) (fi:=fi) k n) x1 x2
  obtain⟨⟨y1,y2⟩,I,L⟩:=this
  have D:=Adj k n _ y1 y2
  have e:∀ i≤n,((fP u a b fi n (gQ u (runF u a b fi n).2 (Av u (b (fi+n+1))) x) i:Int):Rat)=(fP u a b fi (n+1) x i:Int)/\((fR u a b fi n (gQ u (runF u a b fi n).2 (Av u (b (fi+n+1))) x) i:Int):Rat)=(fR u a b fi (n+1) x i:Int):=fun i hi=>by
   rw[fP,fR,if_neg (by omega),if_neg (by omega)];exact⟨rfl,rfl⟩
  have e1:fP u a b fi (n+1) x n=gQ u (runF u a b fi n).2 (Av u (b (fi+n+1))) x:=by rw[fP,if_neg (by omega),pP]
  have G:fR u a b fi (n+1) x (n+1)=bM u (runF u a b fi n).2 (Av u (b (fi+n+1))) x:=by rw[fR,if_pos rfl]
  refine⟨⟨rJ n e D.1,?_⟩,?_⟩
  ·simp only[e1,G,pP];exact I
  ·unfold OV
   rw[<-iQ n e,D.2]
   simp only[G,pP]
   exact L
end
def Apt{u:Un}{f:F1}{L:Hk}{lo hi t:Int}(s:Stage u f L lo hi)(h:lo<=t){y:Rat}(y1:(lo:Rat)<=y)(y2:y<=hi)(y3:y<=t):f y<=f (Lt (E2 0 L) t:Int):=by
 have p:=s.up.pk 0
 have D:∀ x:Rat,(lo:Rat)<=x->x<=hi->f x<=f (E2 0 L:Int):=fun x G k=>by have:=p.2.2 x G k;grind
 have a1:=Bq p.2.1.1;have a2:=Bq p.2.1.2
 rw[Amd];unfold mn
 by_cases k:(E2 0 L:Rat)<=t
 ·rw[if_pos k];exact D y y1 y2
 ·rw[if_neg k];exact s.cc.rise a2 D y1 y3 (by grind)
end Gx.Uo
namespace Gx.Uo
abbrev Nj:=Int×Int
structure Mk where
 profit:Rat
 hour:Nat
 pos:Nj
 run:Bool
abbrev FG:=Nat->Nj->Option Mk
structure Pl where
 nxt:Nj->List Nj
 cost:Nj->Nj->Int
 s0:Nj
 may:Nat->Int->Bool
 H:Nat
 rev:Nat->Nat->Option Rat
 shut:Bool
 succ:Nj->Int->Option Nj
section
variable(P:Pl)
def W3(T:FG)(h:Nat)(s:Nj)(m:Mk):FG:=fun h' s'=>if h'=h/\s'=s then(match T h s with|none=>some m|some o=>if o.profit<m.profit then some m else some o)else T h' s'
def Of(last:Nat)(s:Nj):Option (Nat×Nj):=if last+1<P.H then(P.succ s 0).bind fun e=>if P.may (last+1) 0 then some (last+2,e)else none else some (last+1,s)
def G4(f i:Nat)(s:Nj)(m:Mk)(T:FG):FG:=match Of P (f+i) s,P.rev f i with
|some (h,e),some v=>W3 T h e {m with profit:=m.profit+v}
|_,_=>T
def GM(f:Nat)(m:Mk):Nat->Nat->Nj->FG->FG
|0,_,_,T=>T
|k+1,i,s,T=>if P.may (f+i) 2 then(match P.succ s 2 with|some s'=>GM f m k (i+1) s' (G4 P f i s m T)|none=>G4 P f i s m T)else T
def Oh(h:Nat)(s:Nj)(pr:Rat)(T:FG)(t:Nj):FG:=if P.may h t.1 then(if t.1=2 then GM P h ⟨pr - P.cost s t,h,s,true⟩ (P.H - h) 0 t T else if s.1=2/\P.shut=true then T else W3 T (h+1) t ⟨pr - P.cost s t,h,s,false⟩)else T
def Oi(h:Nat)(T:FG)(s:Nj):FG:=match T h s with|some m=>(P.nxt s).foldl (Oh P h s m.profit) T|none=>T
def Aul(all:List Nj)(T:FG)(h:Nat):FG:=all.foldl (Oi P h) T
def Ahx:FG:=fun h s=>if h=0/\s=P.s0 then some ⟨0,0,P.s0,false⟩else none
def Hv(all:List Nj)(n:Nat):FG:=(List.range n).foldl (Aul P all) (Ahx P)
def Up(h:Nat)(T T':FG):Prop:=(∀ h'≤h,T' h'=T h')/\∀ h' s m,T h' s=some m->∃ m',T' h' s=some m'/\m.profit<=m'.profit
def Up.rfl'(h:Nat)(T:FG):Up h T T:=⟨fun _ _=>rfl,fun _ _ m e=>⟨m,e,A37⟩⟩
def Up.trans {h:Nat} {A B C:FG} (x:Up h A B) (y:Up h B C):Up h A C:=⟨fun h' k=>(y.1 h' k).trans (x.1 h' k),fun h' s m e=>by
 obtain⟨m1,e1,l1⟩:=x.2 h' s m e
 obtain⟨m2,D,l2⟩:=y.2 h' s m1 e1
 exact⟨m2,D,A40 l1 l2⟩⟩
def cO{h hr:Nat}(hh:h<hr)(T:FG)(s:Nj)(m:Mk):Up h T (W3 T hr s m)/\∃ D,W3 T hr s m hr s=some D/\m.profit<=D.profit:=by
 refine⟨⟨fun h' k=>?_,fun h' G m0 e=>?_⟩,?_⟩
 ·funext G;unfold W3;rw[if_neg (by omega)]
 ·unfold W3
  by_cases c:h'=hr/\G=s
  ·rw[if_pos c];obtain⟨rfl,rfl⟩:=c;rw[e]
   dsimp only
   split
   ·exact⟨m,rfl,by grind⟩
   ·exact⟨m0,rfl,A37⟩
  ·rw[if_neg c];exact⟨m0,e,A37⟩
 ·unfold W3;rw[if_pos ⟨rfl,rfl⟩]
  cases T hr s with
  |none=>exact⟨m,rfl,A37⟩
  |some o =>
   dsimp only
   split
   ·exact⟨m,rfl,A37⟩
   ·exact⟨o,rfl,by grind⟩
variable{P}
def Apu{last h:Nat}{s e:Nj}(k:Of P last s=some (h,e)):last<h:=by
 unfold Of at k
 split at k
 ·obtain⟨e',_,k⟩:=A49.1 k
  split at k
  ·cases k;omega
  ·cases k
 ·cases k;omega
def Adk{f i:Nat}{s:Nj}{m:Mk}{T:FG}:Up f T (G4 P f i s m T)/\∀ h e v,Of P (f+i) s=some (h,e)->P.rev f i=some v->∃ k,G4 P f i s m T h e=some k/\m.profit+v<=k.profit:=by
 unfold G4
 cases D:Of P (f+i) s with
|none=>exact⟨Up.rfl' _ _,fun _ _ _ h=>by cases h⟩
| some q =>
  cases I:P.rev f i with
  |none=>exact⟨Up.rfl' _ _,fun _ _ _ _ h=>by cases h⟩
  |some v =>
   obtain⟨h,e⟩:=q
   have:=cO (h:=f) (hr:=h) (by have:=Apu D;omega) T e {m with profit:=m.profit+v}
   refine⟨this.1,fun h' e' v' G k2=>?_⟩
   cases G;cases k2
   exact this.2
def iR(P:Pl)(t:Nj):Nat->Option Nj
|0=>some t
|i+1=>(iR P t i).bind fun s=>P.succ s 2
def Adl{t t':Nj}(h:P.succ t 2=some t'):∀ i,iR P t (i+1)=iR P t' i
|0=>by simp[iR,h]
|i+1=>by rw[iR,Adl h i];rfl
def Akb{f:Nat}{m:Mk}:∀(k i:Nat)(s:Nj)(T:FG),Up f T (GM P f m k i s T)/\∀ j,j<k->(∀ q≤j,P.may (f+i+q) 2=true)->∀ c,iR P s j=some c->∀ h e v,Of P (f+i+j) c=some (h,e)->P.rev f (i+j)=some v->∃ L,GM P f m k i s T h e=some L/\m.profit+v<=L.profit
|0,i,s,T=>⟨Up.rfl' _ _,fun j h=>absurd h (by omega)⟩
| k+1,i,s,T=>by
  rw[GM]
  by_cases I:P.may (f+i) 2=true
  ·rw[if_pos I]
   have o:=Adk (P:=P) (f:=f) (i:=i) (s:=s) (m:=m) (T:=T)
   cases hs:P.succ s 2 with
   | none =>
    refine⟨o.1,fun j Y _ c hc h e v D G=>?_⟩
    cases j with
    |zero=>simp only[iR,A3k]at hc;subst hc;exact o.2 h e v D G
    | succ j =>
     exfalso
     have:∀ j,iR P s (j+1)=none:=fun j=>by
      induction j with
      |zero=>simp[iR,hs]
      |succ j ih=>rw[iR,ih];rfl
     rw[this j]at hc;cases hc
   | some s' =>
    have r:=Akb (f:=f) (m:=m) k (i+1) s' (G4 P f i s m T)
    refine⟨o.1.trans r.1,fun j Y hq c hc h e v D G=>?_⟩
    cases j with
    |zero =>
     simp only[iR,A3k]at hc;subst hc
     obtain⟨m1,e1,l1⟩:=o.2 h e v D G
     obtain⟨m2,e2,l2⟩:=r.1.2 h e m1 e1
     exact⟨m2,e2,A40 l1 l2⟩
    |succ j =>
     rw[Adl hs]at hc
     refine r.2 j (by omega) (fun q hq'=>?_) c hc h e v ?_ ?_
     ·rw[show f+(i+1)+q=f+i+(q+1) by omega];exact hq (q+1) (by omega)
     ·rw[show f+(i+1)+j=f+i+(j+1) by omega];exact D
     ·rw[show i+1+j=i+(j+1) by omega];exact G
  ·rw[if_neg I]
   exact⟨Up.rfl' _ _,fun j _ hq=>absurd (hq 0 (by omega)) I⟩
def Led(P:Pl)(T:FG)(h:Nat)(s t:Nj)(pr:Rat):Prop:=P.may h t.1=true ->
 (t.1≠2->¬(s.1=2/\P.shut=true)->∃ m',T (h+1) t=some m'/\pr - P.cost s t<=m'.profit) /\
 (t.1=2->∀ j,h+j<P.H->(∀ q≤j,P.may (h+q) 2=true)->∀ c,iR P t j=some c->∀ hr e v,Of P (h+j) c=some (hr,e)->P.rev h j=some v->∃ m',T hr e=some m'/\pr - P.cost s t+v<=m'.profit)
def Led.up{T T':FG}{h hh:Nat}{s t:Nj}{pr:Rat}(l:Led P T h s t pr)(u:Up hh T T'):Led P T' h s t pr:=fun k=>by
 obtain⟨l1,l2⟩:=l k
 refine⟨fun a b=>?_,fun a j b c d e f g v x y=>?_⟩
 ·obtain⟨m1,e1,p1⟩:=l1 a b
  obtain⟨m2,D,p2⟩:=u.2 _ _ m1 e1
  exact⟨m2,D,A40 p1 p2⟩
 ·obtain⟨m1,e1,p1⟩:=l2 a j b c d e f g v x y
  obtain⟨m2,D,p2⟩:=u.2 _ _ m1 e1
  exact⟨m2,D,A40 p1 p2⟩
def xW{h:Nat}{s t:Nj}{pr:Rat}{T:FG}:Up h T (Oh P h s pr T t)/\Led P (Oh P h s pr T t) h s t pr:=by
 unfold Oh Led
 by_cases D:P.may h t.1=true
 ·rw[if_pos D]
  by_cases k:t.1=2
  ·rw[if_pos k]
   have r:=Akb (P:=P) (f:=h) (m:=⟨pr - P.cost s t,h,s,true⟩) (P.H - h) 0 t T
   exact⟨r.1,fun _=>⟨fun a=>absurd k a,fun _ j Y hq c hc hr e v I L=>r.2 j (by omega) (fun q G=>hq q G) c hc hr e v I (by rw[A22];exact L)⟩⟩
  ·rw[if_neg k]
   by_cases hs:s.1=2/\P.shut=true
   ·rw[if_pos hs];exact⟨Up.rfl' _ _,fun _=>⟨fun _ a=>absurd hs a,fun a=>absurd a k⟩⟩
   ·rw[if_neg hs]
    have:=cO (h:=h) (hr:=h+1) (by omega) T t ⟨pr - P.cost s t,h,s,false⟩
    exact⟨this.1,fun _=>⟨fun _ _=>this.2,fun a=>absurd a k⟩⟩
 ·rw[if_neg D];exact⟨Up.rfl' _ _,fun a=>absurd a D⟩
def Apv{h:Nat}{s:Nj}{pr:Rat}:∀(l:List Nj)(T:FG),Up h T (l.foldl (Oh P h s pr) T)/\∀ t∈l,Led P (l.foldl (Oh P h s pr) T) h s t pr
|[],T=>⟨Up.rfl' _ _,fun _ h=>by cases h⟩
|a::l,T=>by
  rw[A5q]
  have D:=xW (P:=P) (h:=h) (s:=s) (t:=a) (pr:=pr) (T:=T)
  have k:=Apv (h:=h) (s:=s) (pr:=pr) l (Oh P h s pr T a)
  exact⟨D.1.trans k.1,A4v.2 ⟨D.2.up k.1,k.2⟩⟩
def Ahy{h:Nat}:∀(l:List Nj)(T:FG),Up h T (l.foldl (Oi P h) T)/\∀ s∈l,∀ m,T h s=some m->∀ t∈P.nxt s,Led P (l.foldl (Oi P h) T) h s t m.profit
|[],T=>⟨Up.rfl' _ _,fun _ h=>by cases h⟩
| a::l,T=>by
  rw[A5q]
  have k:Up h T (Oi P h T a)/\∀ m,T h a=some m->∀ t∈P.nxt a,Led P (Oi P h T a) h a t m.profit:=by
   unfold Oi
   cases I:T h a with
   |none=>exact⟨Up.rfl' _ _,fun _ h=>by cases h⟩
   |some m =>
    have:=Apv (P:=P) (h:=h) (s:=a) (pr:=m.profit) (P.nxt a) T
    exact⟨this.1,fun L e=>by cases e;exact this.2⟩
  have D:=Ahy (h:=h) l (Oi P h T a)
  refine⟨k.1.trans D.1,A4v.2 ⟨fun m e t G=>(k.2 m e t G).up D.1,fun s hs m e t G=>D.2 s hs m (by rw[k.1.1 h (A2s _)];exact e) t G⟩⟩
def cP{all:List Nj}{n:Nat}:Hv P all (n+1)=Aul P all (Hv P all n) n:=by unfold Hv;rw[A82,A8f];rfl
def Apw{all:List Nj}:∀ n k,Up n (Hv P all n) (Hv P all (n+k))
|n,0=>Up.rfl' _ _
|n,k+1=>by
  have h:=(Ahy (P:=P) (h:=n+k) all (Hv P all (n+k))).1
  rw[show n+(k+1)=n+k+1 by omega,cP]
  exact(Apw n k).trans ⟨fun h' hh=>h.1 h' (by omega),h.2⟩
def Akc{all:List Nj}{h:Nat}(hh:h<P.H){s:Nj}(hs:s∈all){m:Mk}(D:Hv P all P.H h s=some m){t:Nj}(G:t∈P.nxt s):Led P (Hv P all P.H) h s t m.profit:=by
 obtain⟨k,I⟩:∃ k,P.H=h+1+k:=⟨P.H - h - 1,by omega⟩
 have u:=Apw (P:=P) (all:=all) (h+1) k
 have v:=Ahy (P:=P) (h:=h) all (Hv P all h)
 have e:Hv P all (h+1)=all.foldl (Oi P h) (Hv P all h):=cP
 rw[I]at D ⊢
 refine Led.up ?_ u
 rw[e]
 refine v.2 s hs m ?_ t G
 rw[<-D,u.1 h (by omega),e,v.1.1 h (A2s _)]
def From(P:Pl)(T:FG)(hr:Nat)(e:Nj)(m:Mk):Prop:=∃ m0,m.hour<P.H/\T m.hour m.pos=some m0/\∃ t∈P.nxt m.pos,P.may m.hour t.1=true /\
  ((m.run=false/\t.1≠2/\¬(m.pos.1=2/\P.shut=true)/\hr=m.hour+1/\e=t/\m.profit=m0.profit - P.cost m.pos t) \/
   (m.run=true/\t.1=2/\∃ j c v,m.hour+j<P.H/\(∀ q≤j,P.may (m.hour+q) 2=true)/\iR P t j=some c/\Of P (m.hour+j) c=some (hr,e)/\P.rev m.hour j=some v/\m.profit=m0.profit - P.cost m.pos t+v))
def oF(P:Pl)(h:Nat)(T:FG):Prop:=(∀ s,T 0 s=Ahx P 0 s)/\∀ hr e m,0<hr->T hr e=some m->m.hour<=h/\m.hour<hr/\From P T hr e m
def From.to{T T':FG}{hr:Nat}{e:Nj}{m:Mk}(f:From P T hr e m)(h:T' m.hour=T m.hour):From P T' hr e m:=by obtain⟨m0,a,b,c⟩:=f;exact⟨m0,a,by rw[h];exact b,c⟩
def xX{h hr:Nat}(hh:h<hr){T:FG}{e:Nj}{m:Mk}(x:oF P h T)(mh:m.hour=h)(f:From P T hr e m):oF P h (W3 T hr e m):=by
 have u:=(cO hh T e m).1
 refine⟨fun s=>by rw[u.1 0 (by omega)];exact x.1 s,fun D e' G I k=>?_⟩
 have step:G.hour<=h/\G.hour<D/\From P T D e' G:=by
  unfold W3 at k
  by_cases c:D=hr/\e'=e
  ·rw[if_pos c]at k;obtain⟨rfl,rfl⟩:=c
   cases hT:T D e' with
   |none=>rw[hT]at k;cases k;exact⟨by omega,by omega,f⟩
   |some o =>
    rw[hT]at k;dsimp only at k
    split at k
    ·cases k;exact⟨by omega,by omega,f⟩
    ·cases k;exact x.2 _ _ _ I hT
  ·rw[if_neg c]at k;exact x.2 _ _ _ I k
 exact⟨step.1,step.2.1,step.2.2.to (u.1 _ step.1)⟩
def Adm{h:Nat}{m m0:Mk}{s0 t:Nj}(hH:h<P.H)(mh:m.hour=h)(mp:m.pos=s0)(mr:m.run=true)(ht:t∈P.nxt s0)(I:t.1=2)(G:m.profit=m0.profit - P.cost s0 t):∀(k i:Nat)(s:Nj)(T:FG),i+k=P.H - h->iR P t i=some s->(∀ q<i,P.may (h+q) 2=true)->T h s0=some m0->oF P h T->oF P h (GM P h m k i s T)
|0,_,_,_,_,_,_,_,x=>x
| k+1,i,s,T,hi,hc,hq,hT,x=>by
  rw[GM]
  by_cases L:P.may (h+i) 2=true
  ·rw[if_pos L]
   have D:∀ q≤i,P.may (h+q) 2=true:=fun q Y=>by
    by_cases e:q=i
    ·subst e;exact L
    ·exact hq q (by omega)
   have y:oF P h (G4 P h i s m T)/\G4 P h i s m T h s0=some m0:=by
    unfold G4
    cases he:Of P (h+i) s with
    |none=>exact⟨x,hT⟩
    | some q =>
     cases hv:P.rev h i with
     |none=>exact⟨x,hT⟩
     | some v =>
      obtain⟨hr,e⟩:=q
      have lt:=Apu he
      refine⟨xX (by omega) x mh ⟨m0,by show m.hour<P.H;omega,by show T m.hour m.pos=some m0;rw[mh,mp];exact hT,t,by show t∈P.nxt m.pos;rw[mp];exact ht,?_,.inr ⟨mr,I,i,s,v,?_,?_,hc,?_,?_,?_⟩⟩,?_⟩
      ·show P.may m.hour t.1=true;rw[mh,I];exact D 0 (by omega)
      ·show m.hour+i<P.H;omega
      ·show ∀ q≤i,P.may (m.hour+q) 2=true;rw[mh];exact D
      ·show Of P (m.hour+i) s=some (hr,e);rw[mh];exact he
      ·show P.rev m.hour i=some v;rw[mh];exact hv
      ·show m.profit+v=m0.profit - P.cost m.pos t+v;rw[G,mp]
      ·show W3 T hr e _ h s0=some m0
       rw[(cO (h:=h) (hr:=hr) (by omega) T e _).1.1 h (A2s _)];exact hT
   cases hs:P.succ s 2 with
   |none=>exact y.1
   |some s'=>exact Adm hH mh mp mr ht I G k (i+1) s' _ (by omega) (by rw[iR,hc];exact hs) (fun q Y=>D q (by omega)) y.2 y.1
  ·rw[if_neg L];exact x
def Ahz{h:Nat}(hH:h<P.H){s t:Nj}{m0:Mk}{T:FG}(G:t∈P.nxt s)(hT:T h s=some m0)(x:oF P h T):oF P h (Oh P h s m0.profit T t):=by
 unfold Oh
 by_cases D:P.may h t.1=true
 ·rw[if_pos D]
  by_cases k:t.1=2
  ·rw[if_pos k];exact Adm hH rfl rfl rfl G k rfl (P.H - h) 0 t T (by omega) rfl (fun q hq=>absurd hq (by omega)) hT x
  ·rw[if_neg k]
   by_cases hs:s.1=2/\P.shut=true
   ·rw[if_pos hs];exact x
   ·rw[if_neg hs];exact xX (by omega) x rfl ⟨m0,hH,hT,t,G,D,.inl ⟨rfl,k,hs,rfl,rfl,rfl⟩⟩
 ·rw[if_neg D];exact x
def Akd{h:Nat}(hH:h<P.H){s:Nj}{m0:Mk}:∀(l:List Nj)(T:FG),(∀ t∈l,t∈P.nxt s)->T h s=some m0->oF P h T->oF P h (l.foldl (Oh P h s m0.profit) T)
|[],_,_,_,x=>x
|a::l,T,k,hT,x=>by
  rw[A5q]
  exact Akd hH l _ (fun t D=>k t (by simp[D])) (by rw[xW.1.1 h (A2s _)];exact hT) (Ahz hH (k a (by simp)) hT x)
def Ake{h:Nat}(hH:h<P.H):∀(l:List Nj)(T:FG),oF P h T->oF P h (l.foldl (Oi P h) T)
|[],_,x=>x
|a::l,T,x=>by
  rw[A5q]
  refine Ake hH l _ ?_
  unfold Oi
  cases k:T h a with
  |none=>exact x
  |some m=>exact Akd hH _ _ (fun _ h=>h) k x
def UK{all:List Nj}:∀ n≤P.H,(∀ s,Hv P all n 0 s=Ahx P 0 s)/\∀ hr e m,0<hr->Hv P all n hr e=some m->m.hour<n/\m.hour<hr/\From P (Hv P all n) hr e m
| 0,_=>⟨fun _=>rfl,fun hr e m k h=>by
  exfalso
  have h:Ahx P hr e=some m:=h
  unfold Ahx at h;rw[if_neg (by omega)] at h;cases h⟩
|n+1,G=>by
  have D:=UK (all:=all) n (by omega)
  have x:oF P n (Hv P all n):=⟨D.1,fun hr e m k h=>by have:=D.2 hr e m k h;exact⟨by omega,this.2⟩⟩
  have y:=Ake (P:=P) (h:=n) (by omega) all _ x
  rw[show Hv P all (n+1)=all.foldl (Oi P n) (Hv P all n)from cP]
  exact⟨y.1,fun hr e m k h=>by have:=y.2 hr e m k h;exact⟨by omega,this.2⟩⟩
end
end Gx.Uo
namespace Gx.Uo
def FH(U:Un)(H f n:Nat):Int:=if f+n+1<H then Lt (S5 U f n) U.tr else S5 U f n
def So(U:Un)(a b:Nat->Rat)(H f n:Nat):Int:=Lt (E2 0 (runF U a b f n).2) (FH U H f n)
def oG(U:Un)(a b:Nat->Rat)(H f n:Nat):Option Rat:=if FH U H f n<Hu U f n then none else some ((runF U a b f n).1 (So U a b H f n))
structure PlOk(U:Un)(a b:Nat->Rat)(P:Pl)(all:List Nj):Prop where
 u:U.Ok
 sc:∀ s t,t∈P.nxt s->P.succ s t.1=some t
 sm:∀ s k t,P.succ s k=some t->t∈P.nxt s/\t.1=k
 on0:P.s0.1=2↔U.on=true
 shut:P.shut=true↔U.tr<U.out
 rev:∀ f n,f+n<P.H->P.rev f n=oG U a b P.H f n
 k2:∀ s t,s.1=2->t∈P.nxt s->t.1=0\/t.1=2
 c2:∀ s t,s.1=2->P.cost s t=0
 mem:P.s0∈all/\∀ s t,t∈P.nxt s->t∈all
section
variable(U:Un)(a b:Nat->Rat)(P:Pl)(S:Nat->Nj)(p r:Nat->Rat)
def vC(h:Nat):Rat:=if h=0 then(U.out:Rat)else p (h - 1)
def was(h:Nat):Bool:=(S h).1==2
structure HourP(h:Nat):Prop where
 nx:S (h+1)∈P.nxt (S h)
 may:P.may h (S (h+1)).1=true
 on:(S (h+1)).1=2->HourOk U (was S h) (vC U p h) (p h) (r h)
 off:(S (h+1)).1≠2->((S h).1=2->vC U p h<=U.tr)/\p h=0/\r h=0
def Vl:Nat->Rat
|0=>0
|h+1=>Vl h - P.cost (S h) (S (h+1))+(if (S (h+1)).1=2 then OU U (a h) (b h) (p h) (r h)else 0)
variable{U a b P S p r}
def xY:∀ l:Nat,(S (l+1)).1=2->∃ f≤l,(∀ i,f<=i->i<=l->(S (i+1)).1=2)/\(f=0\/(S f).1≠2)
|0,h=>⟨0,A2s _,fun i _ hi=>by obtain rfl:i=0:=(by omega);exact h,.inl rfl⟩
| l+1,h=>by
  by_cases e:(S (l+1)).1=2
  ·obtain⟨f,G,k,D⟩:=xY l e
   refine⟨f,by omega,fun i a b=>?_,D⟩
   by_cases c:i=l+1
   ·subst c;exact h
   ·exact k i a (by omega)
  ·exact⟨l+1,A2s _,fun i a b=>by obtain rfl:i=l+1:=(by omega);exact h,.inr e⟩
variable{all:List Nj}
def Adn(k:PlOk U a b P all)(G:S 0=P.s0){f:Nat}(hs:f=0\/(S f).1≠2):X1 U f=was S f:=by
 unfold X1 was
 rcases hs with rfl|hs
 ·rw[G]
  cases D:U.on with
  |true=>rw[(k.on0).2 D];rfl
  |false =>
   have:P.s0.1≠2:=fun e=>by rw[(k.on0).1 e]at D;cases D
   simp[this]
 ·have e:((S f).1==2)=false:=by simpa using hs
  rw[e]
  by_cases c:f=0
  ·subst c
   cases D:U.on with
   |false=>rfl
   |true=>rw[G]at hs;exact absurd ((k.on0).2 D) hs
  ·simp[c]
def rK(k:PlOk U a b P all)(T:S 0=P.s0){f:Nat}(hs:f=0\/(S f).1≠2):∀ n,(∀ i≤n,(S (f+i+1)).1=2/\HourP U P S p r (f+i))->iP U f (fun i=>p (f+i)) (fun i=>r (f+i)) n/\Vl U a b P S p r (f+n+1)=Vl U a b P S p r f - P.cost (S f) (S (f+1))+OV U a b f (fun i=>p (f+i)) (fun i=>r (f+i)) n
| 0,h=>by
  obtain⟨e,o⟩:=h 0 (A2s _)
  have q:=o.on e
  refine⟨?_,?_⟩
  ·unfold iP
   rw[Adn k T hs]
   by_cases c:f=0
   ·subst c;exact q
   ·have:was S f=false:=by
     rcases hs with c'|c'
     ·exact absurd c' c
     ·unfold was;simpa using c'
    rw[this]
    have D:HourOk U (was S f) (vC U p f) (p f) (r f):=q
    rw[this]at D
    exact⟨D.lo,D.r0,D.r1,D.hi,D.ramp⟩
  ·show Vl U a b P S p r f - _+_=_
   have e':(S (f+1)).1=2:=e
   rw[if_pos e'];rfl
| n+1,h=>by
  obtain⟨G,I⟩:=rK k T hs n fun i hi=>h i (by omega)
  obtain⟨e,o⟩:=h (n+1) (A2s _)
  have Y:=(h n (by omega)).1
  refine⟨⟨G,?_⟩,?_⟩
  ·have q:=o.on e
   have w:was S (f+(n+1))=true:=by unfold was;rw[show f+(n+1)=f+n+1 by omega,Y];rfl
   have qq:vC U p (f+(n+1))=p (f+n):=by unfold vC;rw[if_neg (by omega)];rfl
   rw[w,qq]at q;exact q
  ·show Vl U a b P S p r (f+n+1) - _+_=_
   have L:(S (f+(n+1))).1=2:=Y
   have en:OV U a b f (fun i=>p (f+i)) (fun i=>r (f+i)) (n+1)=OV U a b f (fun i=>p (f+i)) (fun i=>r (f+i)) n+OU U (a (f+(n+1))) (b (f+(n+1))) (p (f+(n+1))) (r (f+(n+1))):=rfl
   rw[if_pos e,I,k.c2 _ _ L,en]
   have:((0:Int):Rat)=0:=rfl
   rw[this];grind
def Apx(k:PlOk U a b P all){f:Nat}:∀ n,(∀ i≤n,(S (f+i+1)).1=2/\HourP U P S p r (f+i))->iR P (S (f+1)) n=some (S (f+n+1))
|0,_=>rfl
|n+1,h=>by
  rw[iR,Apx k n fun i hi=>h i (by omega)]
  obtain⟨e,o⟩:=h (n+1) (A2s _)
  have:=k.sc _ _ o.nx
  rw[e]at this;exact this
def Apy(k:PlOk U a b P all){H f n:Nat}{p r:Nat->Rat}(h:iP U f p r n)(I:f+n+1<H->p n<=U.tr):∃ v,oG U a b H f n=some v/\OV U a b f p r n<=v:=by
 obtain⟨L,D,G⟩:=Adi k.u (a:=a) (b:=b) n h
 have st:=Hm (a:=a) (b:=b) (fi:=f) k.u n
 have pe:p n<=FH U H f n:=by
  unfold FH
  split
  ·rename_i c;have:=I c;rw[Amd];unfold mn;grind
  ·exact G
 have lo:Hu U f n<=FH U H f n:=A3n.1 (A40 D pe)
 refine⟨_,by unfold oG;rw[if_neg (by omega)],A40 L ?_⟩
 exact Apt st lo D G pe
def UL(k:PlOk U a b P all)(I:S 0=P.s0)(G:∀ h<P.H,HourP U P S p r h):∀ n≤P.H,(n=0\/(S n).1≠2\/n=P.H)->∃ m,Hv P all P.H n (S n)=some m/\Vl U a b P S p r n<=m.profit
|0,_,_=>⟨⟨0,0,P.s0,false⟩,by rw[(UK (P:=P) (all:=all) P.H (A2s _)).1,I];unfold Ahx;rw[if_pos ⟨rfl,rfl⟩],A37⟩
| n+1,hn,hs=>by
  have inAll:∀ i≤P.H,S i∈all:=fun i hi=>by
   cases i with
   |zero=>rw[I];exact k.mem.1
   |succ i=>exact k.mem.2 _ _ (G i (by omega)).nx
  have runTo:∀ l,l<P.H->l<n+1->(S (l+1)).1=2->(l+1<P.H->(S (l+2)).1≠2)->(l+1<P.H->vC U p (l+1)<=U.tr)->∃ m,Hv P all P.H (if l+1<P.H then l+2 else l+1) (S (if l+1<P.H then l+2 else l+1))=some m/\Vl U a b P S p r (l+1)<=m.profit:=fun l hl hln e L hq=>by
   obtain⟨f,hf,h1,h2⟩:=xY l e
   have D:∀ i≤l - f,(S (f+i+1)).1=2/\HourP U P S p r (f+i):=fun i hi=>⟨h1 _ (by omega) (by omega),G _ (by omega)⟩
   obtain⟨m0,t0,l0⟩:=UL k I G f (by omega) (by rcases h2 with c|c;exact .inl c;exact .inr (.inl c))
   obtain⟨fe,pe⟩:=rK k I h2 (l - f) D
   obtain⟨v,hv,lv⟩:=Apy (H:=P.H) k fe fun c=>by
    have:=hq (by omega)
    unfold vC at this;rw[if_neg (by omega)]at this
    show p (f+(l - f))<=_;rw[show f+(l - f)=l+1 - 1 by omega];exact this
   have e1:=D 0 (by omega)
   have led:=Akc (P:=P) (all:=all) (h:=f) (by omega) (inAll f (by omega)) t0 (t:=S (f+1)) e1.2.nx e1.2.may
   have ch:=Apx k (l - f) D
   have pl:Vl U a b P S p r (l+1)=Vl U a b P S p r f - P.cost (S f) (S (f+1))+OV U a b f (fun i=>p (f+i)) (fun i=>r (f+i)) (l - f):=by rw[<-pe];congr 1;omega
   have en:Of P (f+(l - f)) (S (f+(l - f)+1))=some (if l+1<P.H then l+2 else l+1,S (if l+1<P.H then l+2 else l+1)):=by
    unfold Of
    rw[show f+(l - f)=l by omega]
    by_cases c:l+1<P.H
    ·rw[if_pos c,if_pos c]
     have o:=G (l+1) c
     have z:(S (l+1+1)).1=0:=by
      rcases k.k2 _ _ e o.nx with z|z
      ·exact z
      ·exact absurd z (L c)
     have s1:=k.sc _ _ o.nx
     rw[z]at s1
     have om:=o.may;rw[z]at om
     rw[s1,A34,if_pos om]
    ·rw[if_neg c,if_neg c]
   obtain⟨Y,tm,lm⟩:=led.2 e1.1 (l - f) (by omega) (fun q T=>by have:=(D q T).2.may;rwa [(D q T).1]at this) _ ch _ _ v en (by rw[k.rev _ _ (by omega)];exact hv)
   exact⟨Y,tm,by rw[pl];grind⟩
  by_cases e:(S (n+1)).1=2
  ·
   have hH:n+1=P.H:=by
    rcases hs with c|c|c
    ·omega
    ·exact absurd e c
    ·exact c
   have:=runTo n (by omega) (by omega) e (fun c=>by omega) (fun c=>by omega)
   rwa [if_neg (by omega)]at this
  ·have o:=G n (by omega)
   have off:=o.off e
   have pn:Vl U a b P S p r (n+1)=Vl U a b P S p r n - P.cost (S n) (S (n+1)):=by
    show _ - _+_=_
    rw[if_neg e];grind
   by_cases w:(S n).1=2/\n≠0
   ·
    obtain⟨l,rfl⟩:∃ l,n=l+1:=⟨n - 1,by omega⟩
    have:=runTo l (by omega) (by omega) w.1 (fun _=>e) (fun _=>off.1 w.1)
    rw[if_pos (by omega)]at this
    obtain⟨m,t,le⟩:=this
    refine⟨m,t,?_⟩
    rw[pn,k.c2 _ _ w.1]
    have:((0:Int):Rat)=0:=rfl
    rw[this];grind
   ·obtain⟨m0,t0,l0⟩:=UL k I G n (by omega) (by
     by_cases c:n=0
     ·exact .inl c
     ·exact .inr (.inl fun x=>w ⟨x,c⟩))
    have led:=Akc (P:=P) (all:=all) (h:=n) (by omega) (inAll n (by omega)) t0 o.nx o.may
    obtain⟨Y,tm,lm⟩:=led.1 e (fun c=>by
     have hn0:n=0:=Decidable.byContradiction fun x=>w ⟨c.1,x⟩
     subst hn0
     have q:=off.1 c.1
     have sh:=k.shut.1 c.2
     unfold vC at q;rw[if_pos rfl]at q
     have:=cJ sh
     grind)
    exact⟨Y,tm,by rw[pn];grind⟩
 termination_by n=>n
end
end Gx.Uo
namespace Gx.Uo
def Akf{U:Un}{f:Nat}{p r:Nat->Rat}:∀ n,iP U f p r n->HourOk U (X1 U f) U.out (p 0) (r 0)/\∀ i<n,HourOk U true (p i) (p (i+1)) (r (i+1))
|0,h=>⟨h,fun i hi=>absurd hi (by omega)⟩
|n+1,h=>by
  obtain⟨k,D⟩:=Akf n h.1
  refine⟨k,fun i hi=>?_⟩
  by_cases e:i=n
  ·subst e;exact h.2
  ·exact D i (by omega)
section
variable{U:Un}{a b:Nat->Rat}{P:Pl}{all:List Nj}
def l9{S S':Nat->Nj}{p k r G:Nat->Rat}{h:Nat}(e1:S h=S' h)(D:S (h+1)=S' (h+1))(e3:p h=k h)(e4:r h=G h)(I:h≠0->p (h - 1)=k (h - 1))(o:HourP U P S p r h):HourP U P S' k G h:=by
 have eq:vC U p h=vC U k h:=by unfold vC;split;rfl;exact I ‹_›
 have ew:was S h=was S' h:=by unfold was;rw[e1]
 obtain⟨o1,o2,o3,o4⟩:=o
 rw[e1,D]at o1;rw[D]at o2;rw[D,eq,ew,e3,e4]at o3;rw[e1,D,eq,e3,e4]at o4
 exact⟨o1,o2,o3,o4⟩
def YU{S S':Nat->Nj}{p G r I:Nat->Rat}:∀ n,(∀ i≤n,S i=S' i)->(∀ i<n,p i=G i/\r i=I i)->Vl U a b P S p r n=Vl U a b P S' G I n
|0,_,_=>rfl
|n+1,k,D=>by
  unfold Vl
  rw[YU n (fun i hi=>k i (by omega)) (fun i hi=>D i (by omega)),k n (by omega),k (n+1) (by omega),(D n (by omega)).1,(D n (by omega)).2]
def Ah0(k:PlOk U a b P all){t:Nj}(D:t.1=2):∀ j c,iR P t j=some c->c.1=2/\∀ i<j,∃ x y,iR P t i=some x/\iR P t (i+1)=some y/\y∈P.nxt x/\y.1=2
|0,c,h=>by simp only[iR,A3k]at h;subst h;exact⟨D,fun i hi=>absurd hi (by omega)⟩
|j+1,c,h=>by
  have I:=h
  rw[iR]at h
  obtain⟨x,G,hs⟩:=A49.1 h
  obtain⟨_,L⟩:=Ah0 k D j x G
  obtain⟨n1,n2⟩:=k.sm _ _ _ hs
  refine⟨n2,fun i hi=>?_⟩
  by_cases e:i=j
  ·subst e;exact⟨x,c,G,I,n1,n2⟩
  ·exact L i (by omega)
def Ah1(k:PlOk U a b P all){n:Nat}{s:Nj}{m:Mk}(h:Hv P all P.H n s=some m):n=0\/s.1≠2\/n=P.H:=by
 by_cases L:n=0
 ·exact .inl L
 ·obtain⟨_,_,m0,a1,a2,t,a3,a4,⟨_,I,_,_,rfl,_⟩|⟨_,I,j,c,v,T,b3,Y,D,b6,b7⟩⟩:=(UK (P:=P) (all:=all) P.H (A2s _)).2 n s m (by omega) h
  ·exact .inr (.inl I)
  ·unfold Of at D
   split at D
   ·obtain⟨e,e1,G⟩:=A49.1 D
    split at G
    ·cases G;right;left;rw[(k.sm _ _ _ e1).2];decide
    ·cases G
   ·cases D;right;right;omega
variable(U a b P all)
def To(n:Nat)(s:Nj):Nat:=if s.1=2 then n - 1 else n - 2
def Ps:Nat->Nat->Nj->Nat->Int×Int×Int
|0,_,_,_=>(0,0,0)
|k+1,n,s,i=>match Hv P all P.H n s with
  |none=>(0,0,0)
  | some m=>if i<m.hour then Ps k m.hour m.pos i else if s.1≠2/\i+1=n then (s.1,0,0) else if m.run=true then
    (2,fP U a b m.hour (To n s - m.hour) (So U a b P.H m.hour (To n s - m.hour)) (i - m.hour),fR U a b m.hour (To n s - m.hour) (So U a b P.H m.hour (To n s - m.hour)) (i - m.hour))else(0,0,0)
variable{U a b P all}
def As5(k:PlOk U a b P all){f n:Nat}{v:Rat}(h:oG U a b P.H f n=some v):Hu U f n<=So U a b P.H f n/\So U a b P.H f n<=S5 U f n/\(f+n+1<P.H->So U a b P.H f n<=U.tr)/\v=(runF U a b f n).1 (So U a b P.H f n):=by
 unfold oG at h
 split at h
 ·cases h
 ·rename_i G
  simp only[A3k]at h
  have pk:=((Hm (a:=a) (b:=b) (fi:=f) k.u n).up.pk 0).2.1
  have e1:FH U P.H f n<=S5 U f n/\(f+n+1<P.H->FH U P.H f n<=U.tr):=by
   unfold FH Lt;split
   ·split<;>constructor<;>intros<;>omega
   ·constructor<;>intros<;>omega
  have D:So U a b P.H f n<=FH U P.H f n/\Hu U f n<=So U a b P.H f n:=by
   unfold So Lt;split<;>omega
  exact⟨D.2,by omega,fun c=>by have:=e1.2 c;omega,h.symm⟩
def Akg (k:PlOk U a b P all):∀ n≤P.H,∀ s m,Hv P all P.H n s=some m->∀ q,n<q->∃ S:Nat->Nj,S 0=P.s0/\S n=s/\(∀ i<n,HourP U P S (fun i=>(Ps U a b P all q n s i).2.1) (fun i=>(Ps U a b P all q n s i).2.2) i/\(S (i+1)).1=(Ps U a b P all q n s i).1)/\Vl U a b P S (fun i=>(Ps U a b P all q n s i).2.1) (fun i=>(Ps U a b P all q n s i).2.2) n=m.profit
| 0,_,s,m,G,q,_=>by
  rw[(UK (P:=P) (all:=all) P.H (A2s _)).1]at G
  unfold Ahx at G
  split at G
  ·rename_i c;cases G
   exact⟨fun _=>P.s0,rfl,c.2.symm,fun i hi=>absurd hi (by omega),rfl⟩
  ·cases G
| n+1,hn,s,m,G,q+1,hq=>by
  obtain⟨_,mh,m0,a1,a2,t,a3,a4,cs⟩:=(UK (P:=P) (all:=all) P.H (A2s _)).2 (n+1) s m (by omega) G
  obtain⟨S0,I,s0n,hS,hpr⟩:=Akg k m.hour (by omega) m.pos m0 a2 q (by omega)
  have hk:=Ah1 k a2
  have low:∀ i<m.hour,Ps U a b P all (q+1) (n+1) s i=Ps U a b P all q m.hour m.pos i:=fun i hi=>by
   rw[Ps,G];dsimp only;rw[if_pos hi]
  rcases cs with⟨r1,Y,b2,b3,b4,b5⟩|⟨r1,Y,j,c,v,b2,b3,b4,b5,b6,b7⟩
  ·
   subst b4
   have L:n=m.hour:=by omega
   have top:Ps U a b P all (q+1) (n+1) s n=(s.1,0,0):=by
    rw[Ps,G];dsimp only;rw[if_neg (by omega),if_pos ⟨Y,rfl⟩]
   obtain⟨S,eS,eT⟩:∃ S:Nat->Nj,(∀ i≤m.hour,S0 i=S i)/\S (n+1)=s:=⟨fun i=>if i<=m.hour then S0 i else s,fun i hi=>(if_pos hi).symm,if_neg (by omega)⟩
   have e0:S n=m.pos:=by rw[<-eS n (by omega),L];exact s0n
   have o:HourP U P S (fun i=>((Ps U a b P all (q+1) (n+1) s i).2.1:Rat)) (fun i=>((Ps U a b P all (q+1) (n+1) s i).2.2:Rat)) n:=by
    refine⟨by rw[eT,e0];exact a3,by rw[eT,L];exact a4,fun c=>by rw[eT]at c;exact absurd c Y,fun _=>⟨fun c=>?_,by show((Ps U a b P all (q+1) (n+1) s n).2.1:Rat)=0;rw[top];rfl,by show((Ps U a b P all (q+1) (n+1) s n).2.2:Rat)=0;rw[top];rfl⟩⟩
    rw[e0]at c
    have z:m.hour=0:=by
     rcases hk with z|z|z
     ·exact z
     ·exact absurd c z
     ·omega
    unfold vC;rw[if_pos (by omega)]
    have:¬ U.tr<U.out:=fun x=>b2 ⟨c,k.shut.2 x⟩
    exact Bq (by omega)
   have eV:∀ i<m.hour,((Ps U a b P all q m.hour m.pos i).2.1:Rat)=(Ps U a b P all (q+1) (n+1) s i).2.1/\((Ps U a b P all q m.hour m.pos i).2.2:Rat)=(Ps U a b P all (q+1) (n+1) s i).2.2:=fun i hi=>by rw[low i hi];exact⟨rfl,rfl⟩
   refine⟨S,by rw[<-eS 0 (by omega)];exact I,eT,fun i hi=>?_,?_⟩
   ·by_cases c:i<m.hour
    ·obtain⟨h1,h2⟩:=hS i c
     refine⟨l9 (eS i (by omega)) (eS (i+1) (by omega)) (eV i c).1 (eV i c).2 (fun _=>(eV (i - 1) (by omega)).1) h1,?_⟩
     rw[low i c,<-h2,<-eS (i+1) (by omega)]
    ·have:i=n:=by omega
     subst this
     exact⟨o,by rw[top,eT]⟩
   ·show Vl U a b P _ _ _ n - _+_=_
    have e3:∀ z,z=m.hour->Vl U a b P S (fun i=>((Ps U a b P all (q+1) (n+1) s i).2.1:Rat)) (fun i=>((Ps U a b P all (q+1) (n+1) s i).2.2:Rat)) z=m0.profit:=by rintro _ rfl;exact(YU m.hour eS eV).symm.trans hpr
    rw[eT,e0,if_neg Y,e3 n L,b5];grind
  ·
   have hv:=(k.rev _ _ b2).symm.trans b6
   obtain⟨x1,x2,x3,x4⟩:=As5 k hv
   obtain⟨cK,cN⟩:=Ah0 k Y j c b4
   have en:(m.hour+j+1<P.H/\n+1=m.hour+j+2/\P.succ c 0=some s/\P.may (m.hour+j+1) 0=true/\s∈P.nxt c/\s.1=0)\/(¬ m.hour+j+1<P.H/\n+1=m.hour+j+1/\s=c):=by
    unfold Of at b5
    split at b5
    ·rename_i d
     obtain⟨e,e1,D⟩:=A49.1 b5
     split at D
     ·rename_i mm
      cases D
      have:=k.sm _ _ _ e1
      exact .inl ⟨d,by omega,e1,mm,this.1,this.2⟩
     ·cases D
    ·rename_i d;cases b5;exact .inr ⟨d,by omega,rfl⟩
   have lj:To (n+1) s - m.hour=j:=by
    unfold To
    rcases en with⟨_,e1,_,_,_,D⟩|⟨_,e1,rfl⟩
    ·rw[if_neg (by omega)];omega
    ·rw[if_pos cK];omega
   have mid:∀ i≤j,Ps U a b P all (q+1) (n+1) s (m.hour+i)=(2,fP U a b m.hour j (So U a b P.H m.hour j) i,fR U a b m.hour j (So U a b P.H m.hour j) i):=fun i hi=>by
    rw[Ps,G];dsimp only
    rw[if_neg (by omega),if_neg (by rcases en with⟨_,e1,_⟩|⟨_,_,rfl⟩;omega;exact fun d=>d.1 cK),if_pos r1,lj,show m.hour+i - m.hour=i by omega]
   obtain⟨fe,ne⟩:=Adj k.u (a:=a) (b:=b) (fi:=m.hour) j _ x1 x2
   obtain⟨T,f1⟩:=Akf j fe
   have eS:∀ i≤m.hour,S0 i=(fun i=>if i<=m.hour then S0 i else if i<=m.hour+j+1 then(iR P t (i - m.hour - 1)).getD t else s) i:=fun i hi=>(if_pos hi).symm
   have eV:∀ i<m.hour,((Ps U a b P all q m.hour m.pos i).2.1:Rat)=(Ps U a b P all (q+1) (n+1) s i).2.1/\((Ps U a b P all q m.hour m.pos i).2.2:Rat)=(Ps U a b P all (q+1) (n+1) s i).2.2:=fun i hi=>by rw[low i hi];exact⟨rfl,rfl⟩
   have eC:∀ i≤j,(fun i=>if i<=m.hour then S0 i else if i<=m.hour+j+1 then(iR P t (i - m.hour - 1)).getD t else s) (m.hour+i+1)=(iR P t i).getD t:=fun i hi=>by
    show(if m.hour+i+1<=m.hour then _ else if m.hour+i+1<=m.hour+j+1 then _ else s)=_
    rw[if_neg (by omega),if_pos (by omega),show m.hour+i+1 - m.hour - 1=i by omega]
   have eK:∀ i≤j,((iR P t i).getD t).1=2:=fun i hi=>by
    cases i with
    |zero=>exact Y
    |succ i=>obtain⟨_,y,_,D,_,e4⟩:=cN i (by omega);rw[D];exact e4
   have w0:m.hour=0\/(S0 m.hour).1≠2:=by
    rcases hk with z|z|z
    ·exact .inl z
    ·rw[s0n];exact .inr z
    ·omega
   have cw:X1 U m.hour=was S0 m.hour:=Adn k I w0
   generalize hSd:(fun i=>if i<=m.hour then S0 i else if i<=m.hour+j+1 then(iR P t (i - m.hour - 1)).getD t else s)=S at eS eC
   have Slast:S (n+1)=s:=by
    rw[<-hSd]
    rcases en with⟨_,e1,_⟩|⟨_,e1,rfl⟩
    ·show(if n+1<=m.hour then _ else if n+1<=m.hour+j+1 then _ else s)=_
     rw[if_neg (by omega),if_neg (by omega)]
    ·show(if n+1<=m.hour then _ else if n+1<=m.hour+j+1 then _ else _)=_
     rw[if_neg (by omega),if_pos (by omega),show n+1 - m.hour - 1=j by omega,b4];rfl
   have hr:∀ i≤j,(S (m.hour+i+1)).1=2/\HourP U P S (fun i=>((Ps U a b P all (q+1) (n+1) s i).2.1:Rat)) (fun i=>((Ps U a b P all (q+1) (n+1) s i).2.2:Rat)) (m.hour+i):=fun i hi=>by
    have D:(S (m.hour+i+1)).1=2:=by rw[eC i hi];exact eK i hi
    refine⟨D,⟨?_,by rw[D];exact b3 i hi,fun _=>?_,fun d=>absurd D d⟩⟩
    ·cases i with
     |zero =>
      have:=eC 0 (by omega)
      show S (m.hour+0+1)∈P.nxt (S m.hour)
      rw[this,<-eS m.hour (A2s _),s0n];exact a3
     |succ i =>
      obtain⟨x,y,c1,c2,c3,_⟩:=cN i (by omega)
      have z1:=eC i (by omega);have z2:=eC (i+1) (by omega)
      rw[c1]at z1;rw[c2]at z2
      show S (m.hour+(i+1)+1)∈P.nxt (S (m.hour+i+1))
      rw[z1,z2];exact c3
    ·show HourOk U _ _ ((Ps U a b P all (q+1) (n+1) s (m.hour+i)).2.1:Rat) ((Ps U a b P all (q+1) (n+1) s (m.hour+i)).2.2:Rat)
     rw[mid i hi]
     cases i with
     | zero =>
      have z:was S (m.hour+0)=X1 U m.hour:=by rw[cw];unfold was;rw[show m.hour+0=m.hour by omega,<-eS m.hour (A2s _)]
      rw[z]
      by_cases d:m.hour=0
      ·have:vC U (fun i=>((Ps U a b P all (q+1) (n+1) s i).2.1:Rat)) (m.hour+0)=U.out:=by unfold vC;rw[if_pos (by omega)]
       rw[this];exact T
      ·have:X1 U m.hour=false:=by unfold X1;simp[d]
       rw[this]at T ⊢
       exact⟨T.lo,T.r0,T.r1,T.hi,T.ramp⟩
     | succ i =>
      have z:was S (m.hour+(i+1))=true:=by
       unfold was;rw[show m.hour+(i+1)=m.hour+i+1 by omega,eC i (by omega),eK i (by omega)];rfl
      have z2:vC U (fun i=>((Ps U a b P all (q+1) (n+1) s i).2.1:Rat)) (m.hour+(i+1))=(fP U a b m.hour j (So U a b P.H m.hour j) i:Int):=by
       unfold vC;rw[if_neg (by omega),show m.hour+(i+1) - 1=m.hour+i by omega]
       show((Ps U a b P all (q+1) (n+1) s (m.hour+i)).2.1:Rat)=_
       rw[mid i (by omega)]
      rw[z,z2]
      exact f1 i (by omega)
   have pr0:Vl U a b P S (fun i=>((Ps U a b P all (q+1) (n+1) s i).2.1:Rat)) (fun i=>((Ps U a b P all (q+1) (n+1) s i).2.2:Rat)) (m.hour+j+1)=m.profit:=by
    have w1:m.hour=0\/(S m.hour).1≠2:=by rw[<-eS m.hour (A2s _)];exact w0
    have rf:=(rK k (by rw[<-eS 0 (by omega)];exact I) w1 j hr).2
    rw[rf,<-YU m.hour eS eV,hpr,<-eS m.hour (A2s _),s0n,eC 0 (by omega)]
    have ec:OV U a b m.hour (fun i=>((Ps U a b P all (q+1) (n+1) s (m.hour+i)).2.1:Rat)) (fun i=>((Ps U a b P all (q+1) (n+1) s (m.hour+i)).2.2:Rat)) j=v:=by
     rw[x4,<-ne]
     exact iQ j fun i hi=>by rw[mid i hi];exact⟨rfl,rfl⟩
    show m0.profit - (P.cost m.pos t:Rat)+OV U a b m.hour (fun i=>((Ps U a b P all (q+1) (n+1) s (m.hour+i)).2.1:Rat)) (fun i=>((Ps U a b P all (q+1) (n+1) s (m.hour+i)).2.2:Rat)) j=_
    rw[ec,b7]
   refine⟨S,by rw[<-eS 0 (by omega)];exact I,Slast,fun i hi=>?_,?_⟩
   ·by_cases d:i<m.hour
    ·obtain⟨h1,h2⟩:=hS i d
     refine⟨l9 (eS i (by omega)) (eS (i+1) (by omega)) (eV i d).1 (eV i d).2 (fun _=>(eV (i - 1) (by omega)).1) h1,?_⟩
     rw[low i d,<-h2,<-eS (i+1) (by omega)]
    ·by_cases d2:i<=m.hour+j
     ·obtain⟨w,rfl⟩:∃ w,i=m.hour+w:=⟨i - m.hour,by omega⟩
      have:=hr w (by omega)
      exact⟨this.2,by rw[this.1,mid w (by omega)]⟩
     ·rcases en with⟨e0,e1,D,e3,e4,e5⟩|⟨_,e1,_⟩
      ·have:i=n:=by omega
       subst this
       have top:Ps U a b P all (q+1) (i+1) s i=(s.1,0,0):=by
        rw[Ps,G];dsimp only;rw[if_neg (by omega),if_pos ⟨by omega,rfl⟩]
       have Sj:S i=c:=by
        have:=eC j (A2s _)
        rw[b4]at this
        rw[show i=m.hour+j+1 by omega];exact this
       refine⟨⟨by rw[Slast,Sj];exact e4,by rw[Slast,e5,show i=m.hour+j+1 by omega];exact e3,fun d=>by rw[Slast]at d;omega,fun _=>⟨fun _=>?_,by show((Ps U a b P all (q+1) (i+1) s i).2.1:Rat)=0;rw[top];rfl,by show((Ps U a b P all (q+1) (i+1) s i).2.2:Rat)=0;rw[top];rfl⟩⟩,by rw[Slast,top]⟩
       have z2:vC U (fun w=>((Ps U a b P all (q+1) (i+1) s w).2.1:Rat)) i=(fP U a b m.hour j (So U a b P.H m.hour j) j:Int):=by
        unfold vC;rw[if_neg (by omega),show i - 1=m.hour+j by omega]
        show((Ps U a b P all (q+1) (i+1) s (m.hour+j)).2.1:Rat)=_
        rw[mid j (A2s _)]
       rw[z2,pP]
       exact Bq (x3 e0)
      ·omega
   ·rcases en with⟨e0,e1,D,e3,e4,e5⟩|⟨_,e1,_⟩
    ·have e6:n=m.hour+j+1:=by omega
     have Sj:S n=c:=by
      have:=eC j (A2s _)
      rw[b4]at this;rw[e6];exact this
     show Vl U a b P S _ _ n - _+_=_
     rw[Slast,Sj,k.c2 _ _ cK,if_neg (by omega)]
     have:((0:Int):Rat)=0:=rfl
     rw[this]
     have pr0':=pr0
     rw[<-e6]at pr0'
     rw[pr0'];grind
    ·have e6:n+1=m.hour+j+1:=e1
     have pr0':=pr0
     rw[<-e6]at pr0';exact pr0'
 termination_by n=>n
end
end Gx.Uo
namespace Gx
open Go
def wrap_u8(a:Nat):wrap .u8 (a:Int)=((a%256:Nat):Int):=by rw[IntKind.wrap_u8];omega
def wrap_u32(a:Nat)(h:a<4294967296):wrap .u32 (a:Int)=(a:Int):=IntWalk.u32_in _ (by omega)
def Amg(a:Nat):wrap .u32 (a:Int)=((a%4294967296:Nat):Int):=by rw[IntKind.wrap_u32];omega
def Bc(a:Int)(h:-9223372036854775808<=a/\a<=9223372036854775807):wrap .i64 a=a:=IntWalk.i64_in _ h
def wrap_u64(a:Nat)(h:a<18446744073709551616):wrap .u64 (a:Int)=(a:Int):=IntWalk.u64_in _ (by omega)
def UM(w a:Nat):BitVec.ofInt w (a:Int)=BitVec.ofNat w a:=by simp
def Ah2{k:IntKind}(hs:k.signed=false){a b:Nat}(G:a<2 ^ k.bits)(D:b<2 ^ k.bits):Ahq k a b=((a &&& b:Nat):Int):=by
 unfold Ahq
 rw[UM,UM]
 have I:(BitVec.ofNat k.bits a &&& BitVec.ofNat k.bits b).toNat=a &&& b:=by
  rw[BitVec.toNat_and,A60,A60,A3s G,A3s D]
 rw[I]
 have L:a &&& b<2 ^ k.bits:=Nat.and_lt_two_pow _ D
 unfold wrap
 simp only[hs,A5u,A4m,if_false]
 have:(2 ^ k.bits:Int)=((2 ^ k.bits:Nat):Int):=by simp
 rw[this,<-Int.natCast_emod,A3s L]
def xZ{k:IntKind}(hs:k.signed=false){a b:Nat}(D:a<2 ^ k.bits)(G:b<2 ^ k.bits):Qe k a b=((a ||| b:Nat):Int):=by
 unfold Qe
 rw[UM,UM]
 have I:(BitVec.ofNat k.bits a ||| BitVec.ofNat k.bits b).toNat=a ||| b:=by
  rw[BitVec.toNat_or,A60,A60,A3s D,A3s G]
 rw[I]
 have L:a ||| b<2 ^ k.bits:=Nat.or_lt_two_pow D G
 unfold wrap
 simp only[hs,A5u,A4m,if_false]
 have:(2 ^ k.bits:Int)=((2 ^ k.bits:Nat):Int):=by simp
 rw[this,<-Int.natCast_emod,A3s L]
def Q5(a k:Nat):Int.fdiv (a:Int) (2 ^ k)=((a/2 ^ k:Nat):Int):=by
 have:(2 ^ k:Int)=((2 ^ k:Nat):Int):=by simp
 rw[this,A8a (a:Int) (Int.natCast_nonneg (2 ^ k))]
 rfl
def Aw{R:Type}{k:IntKind}{n:Int}{r:LA}{f:Int->O R}:Aj k (.int k n::r) f=f n:=by simp[Aj,k9,Lo]
def Aa{i n:Nat}(h:i<n):Ab (i:Int) n=true:=by simp[Ab];omega
end Gx
namespace Gx
def val:List Nat->Nat
|[]=>0
|x::r=>x+4294967296*val r
def Af(l:List Nat):Prop:=∀ x∈l,x<4294967296
def Ado:Nat->Nat->List Nat
|0,_=>[]
|f+1,n=>if n=0 then []else n%4294967296::Ado f (n/4294967296)
def Ak(n:Nat):List Nat:=Ado n n
def Akh:∀(f n:Nat),n<=f->∀ g,n<=g->Ado f n=Ado g n
|0,n,h,g,_=>by
  have:n=0:=by omega
  subst this;cases g<;>simp[Ado]
| f+1,n,h,g,D=>by
  by_cases k:n=0
  ·subst k;cases g<;>simp[Ado]
  ·cases g with
   |zero=>omega
   |succ g=>simp only[Ado,k,if_false];rw[Akh f _ (by omega) g (by omega)]
def D6:Ak 0=[]:=rfl
def JD{n:Nat}(h:n≠0):Ak n=n%4294967296::Ak (n/4294967296):=by
 unfold Ak
 cases n with
|zero=>omega
|succ n=>simp only[Ado,h,if_false];rw[Akh n _ (by omega) ((n+1)/4294967296) (by omega)]
def Ae:∀ n,val (Ak n)=n:=by
 intro n
 induction n using Nat.strongRecOn with
|_ n k =>
  by_cases h:n=0
  ·subst h;rfl
  ·rw[JD h,val,k _ (by omega)];omega
def Ac:∀ n,Af (Ak n):=by
 intro n
 induction n using Nat.strongRecOn with
| _ n D =>
  by_cases h:n=0
  ·subst h;intro x k;simp[D6]at k
  ·rw[JD h];intro x k
   simp at k
   rcases k with rfl|k
   ·omega
   ·exact D _ (by omega) x k
def Tp:Af []:=by intro x k;simp at k
def Dk{x:Nat}{r:List Nat}:Af (x::r)↔x<4294967296/\Af r:=by simp[Af]
def cQ{a b:List Nat}:Af (a++b)↔Af a/\Af b:=by simp[Af,or_imp,forall_and]
def Co{a:List Nat}(h:Af a)(n:Nat):Af (a.take n):=fun x k=>h x (A7v k)
def JE{a:List Nat}(h:Af a)(n:Nat):Af (a.drop n):=fun x k=>h x (List.mem_of_mem_drop k)
def A3{a:List Nat}(h:Af a){i:Nat}(hi:i<a.length):a[i]<4294967296:=h _ (A24 hi)
def Cw{a:List Nat}(h:Af a){v:Nat}(G:v<4294967296)(i:Nat):Af (a.set i v):=fun x D=>by
 rcases List.mem_or_eq_of_mem_set D with k|k
 ·exact h x k
 ·omega
def Cu(n:Nat):Af (replicate n 0):=fun x k=>by simp at k;omega
def Pu:∀(a b:List Nat),val (a++b)=val a+4294967296 ^ a.length*val b
|[],b=>by simp[val]
|x::r,b=>by
  simp only[A4e,val,A3a,Pu r b,A25]
  rw[A21,<-A4d,<-A20];congr 2;rw[A2w]
def Ei:∀ n,val (replicate n 0)=0
|0=>rfl
|n+1=>by rw[A76,val,Ei n]
def Bi:∀{a:List Nat},Af a->val a<4294967296 ^ a.length
|[],_=>by simp[val]
|x::r,h=>by
  have k:=Dk.1 h
  have D:=Bi k.2
  rw[val,A3a,A25]
  omega
def Ah3(a:List Nat)(x:Nat):val (a++[x])=val a+4294967296 ^ a.length*x:=by rw[Pu];simp[val]
def YV{n:Nat}(h:n≠0):Ak n≠[]:=by rw[JD h];simp
def rL{n:Nat}:Ak n=[]↔n=0:=by
 constructor
 ·intro h;by_cases k:n=0;exact k;exact absurd h (YV k)
 ·intro h;rw[h];rfl
def Br{n:Nat}:(Ak n).length=0↔n=0:=by rw[A66,rL]
def Bm:∀{l:List Nat},Af l->l=Ak (val l)++replicate (l.length - (Ak (val l)).length) 0/\(Ak (val l)).length<=l.length
|[],_=>by simp[val,D6]
| x::r,h=>by
  have G:=Dk.1 h
  obtain⟨k,I⟩:=Bm G.2
  rw[val]
  by_cases D:x+4294967296*val r=0
  ·have L:x=0:=by omega
   have hr:val r=0:=by omega
   rw[D,D6]
   rw[hr,D6]at k
   simp at k
   subst L
   refine⟨?_,by simp⟩
   rw[A5z,A5f,Nat.sub_zero,A3a,A76,<-k]
  ·rw[JD D,show(x+4294967296*val r)%4294967296=x by omega,show(x+4294967296*val r)/4294967296=val r by omega]
   refine⟨?_,by simp;exact I⟩
   rw[A4e,A3a,A3a,Nat.add_sub_add_right,<-k]
def rM:∀(n:Nat)(h:Ak n≠[]),(Ak n).getLast h≠0:=by
 intro n
 induction n using Nat.strongRecOn with
| _ n G =>
  intro h
  have I:n≠0:=fun e=>h (by rw[e];rfl)
  have e:=JD I
  by_cases D:n/4294967296=0
  ·rw[D,D6]at e
   have:n<4294967296:=by omega
   simp[e];omega
  ·have k:=YV D
   have:=G _ (by omega) k
   have L:(Ak n).getLast h=(Ak (n/4294967296)).getLast k:=by
    simp only[e];rw[List.getLast_cons k]
   rw[L];exact this
def Avz:∀{l:List Nat},Af l->(∀ h:l≠[],l.getLast h≠0)->Ak (val l)=l:=by
 intro l h T
 obtain⟨D,Y⟩:=Bm h
 by_cases I:l.length - (Ak (val l)).length=0
 ·rw[I]at D;simpa using D.symm
 ·exfalso
  obtain⟨k,I⟩:=Nat.exists_eq_succ_of_ne_zero I
  rw[I,A7w,<-A38]at D
  have G:l≠[]:=by intro e;rw[e]at D;simp at D
  apply T G
  have L:l.getLast?=some 0:=by rw[D,List.getLast?_append];rfl
  rw[List.getLast?_eq_some_getLast G]at L
  simpa using L
def C7 {n k:Nat} (h:n<4294967296 ^ k):(Ak n).length<=k:=by
  induction k generalizing n with
  | zero => have : n = 0 := by simpa using h
            subst this;simp[D6]
  | succ k G =>
    by_cases D:n=0
    · subst D;simp[D6]
    · rw[JD D,A3a]
      have:n/4294967296<4294967296 ^ k:=by
        rw[A25]at h
        exact A52 (by rw[A2w];exact h)
      have:=G this
      omega
def By{a b:Nat}(h:a<=b):(Ak a).length<=(Ak b).length:=by
 apply C7
 have:=Bi (Ac b)
 rw[Ae]at this
 omega
def x9{U V U3 V2 P d:Nat}(hV:V2*P<=V)(hU:U<(U3+1)*P)(h:U3<d*V2)(k:0<V):U/V<d:=by
 rw[A7i k]
 have G:(U3+1)*P<=d*V2*P:=A2x _ h
 have D:d*(V2*P)<=d*V:=A3f _ hV
 rw[<-A20]at D
 omega
def x_{U V U3 V2 P d:Nat}(hV:V<(V2+1)*P)(hU:U3*P<=U)(h:d*V2<=U3)(D:d<=V2+1)(k:0<V):d<=U/V+1:=by
 cases d with
|zero=>exact A9f _
| succ d =>
  have:d<=U/V:=by
   rw[A6j k]
   have G:(d+1)*V2*P<=U3*P:=A2x _ h
   have I:d*V<=d*((V2+1)*P):=A3f _ (by omega)
   have L:d*((V2+1)*P)<=(d+1)*V2*P:=by
    rw[<-A20]
    apply A2x
    rw[A21,A23];omega
   omega
  omega
def Adp{a b u v s t x y:Nat}(G:x+v*b=u*a)(I:y+s*a=t*b)(k:u*t=v*s+1):Nat.gcd x y=Nat.gcd a b:=by
 have e1:t*x+v*y=a:=by
  have D:t*x+t*v*b=t*u*a:=by rw[<-A20 t u a |>.symm,A20 t v b,<-A21,G]
  have L:v*y+v*s*a=v*t*b:=by rw[A20,A20,<-A21,I]
  have T:t*u*a=v*s*a+a:=by rw[A2w t u,k,A23,A8j]
  have Y:t*v*b=v*t*b:=by rw[A2w t v]
  omega
 have e2:s*x+u*y=b:=by
  have D:s*x+s*v*b=s*u*a:=by rw[A20,A20,<-A21,G]
  have L:u*y+u*s*a=u*t*b:=by rw[A20,A20,<-A21,I]
  have T:u*t*b=v*s*b+b:=by rw[k,A23,A8j]
  have Y:s*u*a=u*s*a:=by rw[A2w s u]
  have h5:s*v*b=v*s*b:=by rw[A2w s v]
  omega
 apply Nat.dvd_antisymm
 ·apply Nat.dvd_gcd
  ·rw[<-e1];exact Nat.dvd_add (A4p (A5j x y) t) (A4p (A6l x y) v)
  ·rw[<-e2];exact Nat.dvd_add (A4p (A5j x y) s) (A4p (A6l x y) u)
 ·apply Nat.dvd_gcd
  ·have D:Nat.gcd a b∣x+v*b:=by rw[G];exact A4p (A5j a b) u
   exact(A7p (A4p (A6l a b) v)).1 D
  ·have D:Nat.gcd a b∣y+s*a:=by rw[I];exact A4p (A6l a b) t
   exact(A7p (A4p (A5j a b) s)).1 D
def CI{a b x y P u v w:Nat}(k:x*P<=a)(G:b<(y+1)*P)(D:u*x=w+v*y)(I:v<=w):v*b<=u*a:=by
 have L:u*(x*P)<=u*a:=A3f _ k
 have T:v*b<=v*((y+1)*P):=A3f _ (by omega)
 have Y:v*((y+1)*P)<=u*(x*P):=by
  rw[<-A20,<-A20]
  apply A2x
  rw[D,A21];omega
 omega
end Gx
namespace Gx
open Go
section
variable{R:Type}
def Ad(l:List Nat):LA:=l.map fun n:Nat=>.int .u32 (n:Int)
def Y1(x:Nat)(l:List Nat):Ad (x::l)=.int .u32 (x:Int)::Ad l:=rfl
def Bx(l:List Nat):(Ad l).length=l.length:=by simp[Ad]
def Amh(l:List Nat)(n:Nat):(Ad l).drop n=Ad (l.drop n):=by simp[Ad,List.map_drop]
def Tq(l:List Nat)(n:Nat):(Ad l).take n=Ad (l.take n):=by simp[Ad,A9m]
def cR(l:List Nat)(j:Nat)(v:Nat):List.set (Ad l) j (.int .u32 (v:Int))=Ad (l.set j v):=by simp[Ad,A8x]
def C8(n:Nat):replicate n (AV.int .u32 0)=Ad (replicate n 0):=by simp[Ad]
def Adq{l:List Nat}{i:Nat}(h:i<l.length){f:Int->O R}:Aj .u32 (drop i (Ad l)) f=f (l[i]:Nat):=by rw[Amh,A4g h,Y1,Aw]
def CJ:∀ l:List Nat,Bb (Ad l)=true
|[]=>rfl
|x::r=>by rw[Y1,Bb];exact CJ r
def GN(a b:Nat):(a:Int)+(b:Int)=((a+b:Nat):Int):=by omega
def rN(a b:Nat):(a:Int)*(b:Int)=((a*b:Nat):Int):=by simp
def Ib{a:Nat}(h:a<18446744073709551616):wrap .u64 (a:Int)=(a:Int):=wrap_u64 a h
def Aki{a:Nat}(h:a<4294967296):wrap .u32 (a:Int)=(a:Int):=wrap_u32 a h
def YW(a:Nat):wrap .u32 (a:Int)=((a%4294967296:Nat):Int):=Amg a
def YX(a:Int):wrap .u64 a=a%18446744073709551616:=IntKind.wrap_u64 a
def iS{a b:Nat}(k:a<18446744073709551616)(D:b<=a):wrap .u64 ((a:Int) - (b:Int))=((a - b:Nat):Int):=by rw[YX];omega
def Apz{a b:Nat}(h:a<b)(k:b<=18446744073709551616):wrap .u64 ((a:Int) - (b:Int))=((18446744073709551616+a - b:Nat):Int):=by rw[YX];omega
def iT(a:Nat):Int.fdiv (a:Int) (2 ^ 32)=((a/4294967296:Nat):Int):=Q5 a 32
def Ax5(a:Nat):Int.fdiv (a:Int) (2 ^ 63)=((a/9223372036854775808:Nat):Int):=Q5 a 63
def i64{a:Int}(h:-9223372036854775808<=a/\a<=9223372036854775807):wrap .i64 a=a:=Bc a h
def Ah4{a b:Nat}(k:a<18446744073709551616)(D:b<18446744073709551616):Qe .u64 (a:Int) (b:Int)=((a ||| b:Nat):Int):=xZ rfl k D
def iU{a b k:Nat}(h:b<2 ^ k):a*2 ^ k ||| b=a*2 ^ k+b:=by rw[<-Nat.shiftLeft_eq,Nat.shiftLeft_add_eq_or_of_lt h]
end
end Gx
namespace Gx
open Go Go.Proofs
set_option maxRecDepth 100000
noncomputable section
variable{R:Type}(N:Nat)
def JF(N:Nat)(r0:Nat->O R)(a:Nat)(b:LA)(k0:Int->O R)(c:Int):O R:=(cond ((decide (c>0))==true) (cond (Ab (wrap .i64 (c - 1)) a) (Aj .u32 (b.drop (0+(((wrap .i64 (c - 1)).toNat)*1))) fun d=>cond (cond true (d==0) false) (k0 (wrap .i64 (c - 1))) (cond ((decide ((0:Int)<=(0:Int)))&&((decide (0<=c))&&((decide (c<=(a:Int)))&&(decide ((a:Int)<=(a:Int)))))) (r0 c.toNat) none)) none) (cond ((decide ((0:Int)<=(0:Int)))&&((decide (0<=c))&&((decide (c<=(a:Int)))&&(decide ((a:Int)<=(a:Int)))))) (r0 c.toNat) none))
def Tr(r0:Nat->O R)(a:Nat)(b:LA):Nat->Int->O R
|0=>fun _=>none
|n+1=>JF N r0 a b (Tr r0 a b n)
def cS(N:Nat)(r0:Nat->O R)(q0:Int->O R)(a:Nat)(b:LA):O R:=(q0 (a:Int))
def Zv:=(shut fun N a b r0=>cS (R:=R) N r0 (Tr N r0 a b N) a b).1
def YY(a b r0):(@Zv R N a b r0)=(cS N r0 (Tr N r0 a b N) a b):=by rw[Zv,(shut _).2]
def Ami(F:KF R):=Iv Tryz.f180 l6 [] [100000] N F
def UN(b:LA)(F:KF R):Nat->O R:=fun f=>F (.own 100000 0 f) [(100000,bQ 1 b)]
def Amj(a:Nat)(b:LA)(K:St->O R):=fun c=>K ⟨[(0,.own 100000 0 a),(3,iv c)],[(100000,bQ 1 b)]⟩
def z7(F:KF R)(a b):∀ n,Amj a b (Ao (Ami N F (pz 336) []) n)=(Tr N (UN b F) a b n):=Gu fun n e=>(B6 (JF N (UN b F) a b) e:_)
def cT:=Cc N 180 [] l6 (fun
|[.own 100000 0 a],[(100000,⟨false,false,true,false,1,b,false,none⟩)]=>some fun _ k=>Zv N a b (UN b k)
| _,_=>none) fun _ _=>by split;rename_i a b;intro R F;exact(B6 (cS N (UN b F) · a b) ((lW ..).trans (z7 ..)):_).trans (YY ..).symm;trivial
def Zw(a:Int)(r0:Nat->LA->O R):O R:=(Zv N 2 [.int .u32 (wrap .u32 a),.int .u32 (wrap .u32 (Int.fdiv a (2 ^ 32)))] fun b=>r0 b [.int .u32 (wrap .u32 a),.int .u32 (wrap .u32 (Int.fdiv a (2 ^ 32)))])
def B7:=(shut (@Zw R)).1
def CK:@B7 R=@Zw R:=(shut _).2
def Hn:=Cc N 170 [cT N] Apm (fun
|[.int .u64 a],[]=>some fun _ k=>B7 N a (Ge k)
| _,_=>none) fun _ _=>by split;intro R F;dsimp only;rw[CK];kernel_rfl;trivial
def YZ(N:Nat)(c:Bool)(a:Nat)(b:LA)(r0:Bool->O R):O R:=(cond (c==true) (r0 (cond true (decide ((a:Int)>0)) false)) (r0 false))
def La:=(shut (@YZ R)).1
def WV:@La R=@YZ R:=(shut _).2
def z8(a:Nat)(b:LA)(F:KF R):Bool->O R:=fun d=>F (.agg [.bool d,.own 100000 0 a]) [(100000,bQ 1 b)]
def CL:=Cc N 169 [] D5 (fun
|[.bool c,.own 100000 0 a],[(100000,⟨false,false,true,false,1,b,false,none⟩)]=>some fun _ k=>La N c a b (z8 a b k)
| _,_=>none) fun _ _=>by split;intro R F;dsimp only;rw[WV];kernel_rfl;trivial
def QJ(a:Int)(r0:Bool->Nat->LA->O R):O R:=(cond (decide (a<0)) (B7 N (wrap .u64 ((0:Int) - (wrap .u64 a))) fun b c=>La N true b c fun f=>r0 f b c) (B7 N (wrap .u64 a) fun d e=>La N false d e fun g=>r0 g d e))
def JG:=(shut (@QJ R)).1
def QK:@JG R=@QJ R:=(shut _).2
def z_:=Cc N 108 [Hn N,CL N] D5 (fun
|[.int .i64 a],[]=>some fun _ k=>JG N a (As3 k)
| _,_=>none) fun _ _=>by split;intro R F;dsimp only;rw[QK];kernel_rfl;trivial
def QL(a:Int)(r0:LA->O R):O R:=(JG N a fun c b d=>r0 [.bool c,.imm (d.take (b*1)) b 1 false false,.imm [.int .u32 1] 1 1 false false])
def A7:=(shut (@QL R)).1
def QM:@A7 R=@QL R:=(shut _).2
def Cp:=Cc N 51 [z_ N] G3 (fun
|[.int .i64 a],[]=>some fun _ k=>A7 N a (Dx k)
| _,_=>none) fun _ _=>by split;intro R F;dsimp only;rw[QM];kernel_rfl;trivial
def Ut(N:Nat)(r0:LA->Nat->O R)(c:LA)(a:Nat)(d b:Bool)(k0:Int->O R)(f:Int):O R:=(cond ((decide (f>0))==true) (cond (Ab (wrap .i64 (f - 1)) a) (Aj .u32 (c.drop (((wrap .i64 (f - 1)).toNat)*1)) fun g=>cond (cond true (g==0) false) (k0 (wrap .i64 (f - 1))) (cond ((decide ((0:Int)<=(0:Int)))&&((decide (0<=f))&&((decide (f<=(a:Int)))&&(decide ((a:Int)<=(a:Int)))))) (r0 (c.take (f.toNat*1)) f.toNat) none)) none) (cond ((decide ((0:Int)<=(0:Int)))&&((decide (0<=f))&&((decide (f<=(a:Int)))&&(decide ((a:Int)<=(a:Int)))))) (r0 (c.take (f.toNat*1)) f.toNat) none))
def J5(r0:LA->Nat->O R)(c:LA)(a:Nat)(d b:Bool):Nat->Int->O R
|0=>fun _=>none
|n+1=>Ut N r0 c a d b (J5 r0 c a d b n)
def JH(N:Nat)(r0:LA->Nat->O R)(q0:Int->O R)(c:LA)(a:Nat)(d b:Bool):O R:=(q0 (a:Int))
def C6:=(shut fun N c a d b r0=>JH (R:=R) N r0 (J5 N r0 c a d b N) c a d b).1
def WW(c a d b r0):(@C6 R N c a d b r0)=(JH N r0 (J5 N r0 c a d b N) c a d b):=by rw[C6,(shut _).2]
def za(F:KF R):=Iv Tryz.f180 l6 [] [] N F
def X2(b:Bool)(F:KF R):LA->Nat->O R:=fun h i=>F (.imm h i 1 false b) []
def zc(c:LA)(a:Nat)(d b:Bool)(K:St->O R):=fun f=>K ⟨[(0,.imm c a 1 d b),(3,iv f)],[]⟩
def oH(F:KF R)(c a d b):∀ n,zc c a d b (Ao (za N F (pz 336) []) n)=(J5 N (X2 b F) c a d b n):=Gu fun n e=>(B6 (Ut N (X2 b F) c a d b) e:_)
def Mg:=Cc N 180 [] l6 (fun
|[.imm c a 1 d b],[]=>some fun _ k=>C6 N c a d b (X2 b k)
| _,_=>none) fun _ _=>by split;rename_i c a d b;intro R F;exact(B6 (JH N (X2 b F) · c a d b) ((lW ..).trans (oH ..)):_).trans (WW ..).symm;trivial
def Ju(N:Nat)(r0:Int->O R)(b:LA)(a:Nat)(c d:Bool)(k0:Int->Int->Int->O R)(g h f:Int):O R:=(cond (decide (f<h)) (cond (Ab f a) (Aj .u32 (b.drop (f.toNat*1)) fun i=>cond (decide ((wrap .i64 (32*f))<0)) none (k0 (Qe .u64 g (wrap .u64 ((wrap .u64 i)*2 ^ (min ((wrap .i64 (32*f)).toNat) 64)))) h (wrap .i64 (f+1)))) none) (r0 g))
def If(r0:Int->O R)(b:LA)(a:Nat)(c d:Bool):Nat->Int->Int->Int->O R
|0=>fun _ _ _=>none
|n+1=>Ju N r0 b a c d (If r0 b a c d n)
def cV(N:Nat)(r0:Int->O R)(q0:Int->Int->Int->O R)(b:LA)(a:Nat)(c d:Bool):O R:=(q0 0 (a:Int) 0)
def Q6:=(shut fun N b a c d r0=>cV (R:=R) N r0 (If N r0 b a c d N) b a c d).1
def l_(b a c d r0):(@Q6 R N b a c d r0)=(cV N r0 (If N r0 b a c d N) b a c d):=by rw[Q6,(shut _).2]
def rO:Hints:={H:=hK 2 (hS (hK 1 (hS (hP [3,6,7,8] hL) hL)) hL)}
def Ah5(F:KF R):=Iv Tryz.f214 rO [] [] N F
def Ah6(b:LA)(a:Nat)(c d:Bool)(K:St->O R):=fun g h f=>K ⟨[(3,.int .u64 g),(6,.imm b a 1 c d),(7,iv h),(8,iv f)],[]⟩
def vR(F:KF R)(b a c d):∀ n,Ah6 b a c d (Ao (Ah5 N F (pz 1348) []) n)=(If N (Ada F) b a c d n):=Gu fun n e=>(B6 (Ju N (Ada F) b a c d) e:_)
def iV:=Cc N 214 [] rO (fun
|[.imm b a 1 c d],[]=>some fun _ k=>Q6 N b a c d (Ada k)
| _,_=>none) fun _ _=>by split;intro R F;exact(B6 (cV N (Ada F) · _ _ _ _) ((lW ..).trans (vR ..)):_).trans (l_ ..).symm;trivial
def Y_(b:LA)(c:Nat)(d a:Bool)(r0:Int->Bool->O R):O R:=(C6 N b c d a fun f e=>cond (decide ((e:Int)>2)) (r0 0 false) (Q6 N f e false a fun g=>r0 g true))
def GO:=(shut (@Y_ R)).1
def WX:@GO R=@Y_ R:=(shut _).2
def Adr:=Cc N 176 [Mg N,iV N] D5 (fun
|[.imm b c 1 d a],[]=>some fun _ k=>GO N b c d a (Adb k)
| _,_=>none) fun _ _=>by split;intro R F;dsimp only;rw[WX];kernel_rfl;trivial
def Fe(N:Nat)(r0:Int->Int->Bool->O R)(b a:Int)(d:Bool)(c:LA)(e:Bool):O R:=(cond e (r0 0 0 false) (cond (a==0) (r0 0 1 true) (Wg c fun f=>cond f (r0 (wrap .i64 ((0:Int) - (wrap .i64 b))) (wrap .i64 a) true) (r0 (wrap .i64 b) (wrap .i64 a) true))))
def Y2(r0:Int->Int->Bool->O R)(q0:Int->Int->Bool->O R)(c:LA)(d:Bool):O R:=(Dd 1 (c.drop 1) fun g h=>GO N g h false d fun b i=>Dd 1 (c.drop 2) fun j l=>GO N j l false d fun a m=>cond ((!i)==false) (cond ((cond false true (!m))==false) (cond ((cond false true (decide (b>=2147483648)))==false) (q0 b a (cond false true (decide (a>=2147483648)))) (q0 b a true)) (q0 b a true)) (q0 b a true))
def G5:=(shut fun N c d r0=>Y2 (R:=R) N r0 (fun b a=>Fe N r0 b a d c) c d).1
def X3(c d r0):(@G5 R N c d r0)=(Y2 N r0 (fun b a=>Fe N r0 b a d c) c d):=by rw[G5,(shut _).2]
def mA:Hints:={H:=hK 3 (hS (hS (hJ [1,5,6,21] hL hL) hL) hL)}
def rP:Oe:=[Adr N]
def Ads(F:KF R):=Iv Tryz.f115 mA (rP N) [] N F
def QN(F:KF R):Int->Int->Bool->O R:=fun n o p=>F (.tup [iv n,iv o,.bool p]) []
def Adt(b a:Int)(d:Bool)(c:LA)(K:St->O R):=fun e=>K ⟨[(1,op 0),(5,.int .u64 b),(6,.int .u64 a),(21,.bool e)],hq [bP d 0 c]⟩
def rQ(F:KF R)(b a d c):Adt b a d c (A1 (Ads N F (pz 5441) []))=(Fe N (QN F) b a d c):=by kernel_rfl
def JI:=Cc N 115 (rP N) mA (fun
|[.pagg c d],[]=>some fun _ k=>G5 N c d (QN k)
| _,_=>none) fun _ _=>by split;intro R F;exact(B6 (Y2 N (QN F) · _ _) (rD fun b a=>(jW ..).trans (rQ ..)):_).trans (X3 ..).symm;trivial
def Kp(r0:LA->O R)(a b c:Int)(k1:Int->Int->O R)(d f:Int):O R:=(cond (f != 0) (cond (f==0) none (k1 f (Int.tmod d f))) (cond (d==0) none (B7 N (wrap .u64 (Int.tdiv c d)) fun g i=>cond (d==0) none (B7 N (wrap .u64 (Int.tdiv (wrap .u64 b) d)) fun h j=>r0 [.bool (decide (a<0)),.imm (i.take (g*1)) g 1 false false,.imm (j.take (h*1)) h 1 false false]))))
def C9(r0:LA->O R)(a b c:Int):Nat->Int->Int->O R
|0=>fun _ _=>none
|n+1=>Kp N r0 a b c (C9 r0 a b c n)
def Wl(N:Nat)(r0:LA->O R)(a b:Int)(q1:Int->Int->Int->O R)(c:Int):O R:=(q1 c (wrap .u64 b) c)
def Q7(r0:LA->O R)(a b:Int)(c:Int):O R:=Wl N r0 a b (fun c=>C9 N r0 a b c N) c
def X4(N:Nat)(r0:LA->O R)(q0:Int->O R)(a b:Int):O R:=(cond (decide (a<0)) (q0 (wrap .u64 ((0:Int) - (wrap .u64 a)))) (q0 (wrap .u64 a)))
def Jv:=(shut fun N a b r0=>X4 (R:=R) N r0 (Q7 N r0 a b) a b).1
def NN(a b r0):(@Jv R N a b r0)=(X4 N r0 (Q7 N r0 a b) a b):=by rw[Jv,(shut _).2]
def QO:Hints:={H:=hK 2 (hJ [0,1,4,5] hL (hK 1 (hS (hS (hP [0,1,4,5,6,7] hL) hL) hL))),modes:=[(3,0)]}
def WY:Oe:=[Hn N]
def QP(F:KF R):=Iv Tryz.f127 QO (WY N) [] N F
def rR(a b c:Int)(K:St->O R):=fun d f=>K ⟨[(0,iv a),(1,iv b),(4,op 0),(5,.int .u64 c),(6,.int .u64 d),(7,.int .u64 f)],hq [bN 0 [.bool false,.nsl,.nsl]]⟩
def rS(a b:Int)(K:St->O R):=fun c=>K ⟨[(0,iv a),(1,iv b),(4,op 0),(5,.int .u64 c)],hq [bN 0 [.bool false,.nsl,.nsl]]⟩
def cW(F:KF R)(a b c):∀ n,rR a b c (Ao (QP N F (pz 5456) []) n)=(C9 N (Dx F) a b c n):=Gu fun n e=>(B6 (Kp N (Dx F) a b c) e:_)
def cX(F:KF R)(a b):rS a b (A1 (QP N F (pz 85) []))=(Q7 N (Dx F) a b):=(B6 (Wl N (Dx F) a b) (vQ fun c=>(lW ..).trans (cW ..)):_)
def FI:=Cc N 127 (WY N) QO (fun
|[.int .i64 a,.int .i64 b],[]=>some fun _ k=>Jv N a b (Dx k)
| _,_=>none) fun _ _=>by split;intro R F;exact(B6 (X4 N (Dx F) · _ _) ((jW ..).trans (cX ..)):_).trans (NN ..).symm;trivial
def WZ(N:Nat)(r0:LA->O R)(k0:O R):O R:=(r0 [])
def Q8(r0:LA->O R):Nat->O R
|0=>none
|n+1=>WZ N r0 (Q8 r0 n)
def JJ(N:Nat)(r0:LA->O R)(q0:O R):O R:=q0
def GP:=(shut fun N r0=>JJ (R:=R) N r0 (Q8 N r0 N)).1
def W_ r0:(@GP R N r0)=(JJ N r0 (Q8 N r0 N)):=by rw[GP,(shut _).2]
def zd(F:KF R):=Iv Tryz.f180 l6 [] [] N F
def X5(F:KF R):LA->O R:=fun a=>F (Bbq 0 0) (hq [bQ 1 a])
def zf(K:St->O R):=K ⟨[(0,.nsl),(3,iv 0)],[]⟩
def oI(F:KF R):∀ n,zf (Ao (zd N F (pz 336) []) n)=(Q8 N (X5 F) n):=Gu fun n e=>(B6 (WZ N (X5 F)) e:_)
def Adu:=Cc N 180 [] l6 (fun
|[.nsl],[]=>some fun _ k=>GP N (X5 k)
| _,_=>none) fun _ _=>by split;intro R F;exact(B6 (JJ N (X5 F)) ((lW ..).trans (oI ..)):_).trans (W_ ..).symm;trivial
def Zx(N:Nat)(r0:Int->O R)(c:LA)(a:Nat)(b:Bool)(d:LA)(k0:Int->O R)(f:Int):O R:=(cond (decide (f>=0)) (cond (Ab f a) (Aj .u32 (c.drop (f.toNat*1)) fun j=>cond (Ab f 0) (Aj .u32 (d.drop (0+(f.toNat*1))) fun l=>cond (decide (j<l)) (r0 (-1)) (cond (Ab f a) (Aj .u32 (c.drop (f.toNat*1)) fun m=>cond (Ab f 0) (Aj .u32 (d.drop (0+(f.toNat*1))) fun o=>cond (decide (m>o)) (r0 1) (k0 (wrap .i64 (f - 1)))) none) none)) none) none) (r0 0))
def O2(r0:Int->O R)(c:LA)(a:Nat)(b:Bool)(d:LA):Nat->Int->O R
|0=>fun _=>none
|n+1=>Zx N r0 c a b d (O2 r0 c a b d n)
def CM(r0:Int->O R)(q0:LA->Nat->LA->Int->O R)(g:LA)(h:Nat)(i b:Bool):O R:=(C6 N g h i b fun c a=>GP N fun d=>cond ((a:Int) != 0) (cond (decide ((a:Int)<0)) (r0 (-1)) (r0 1)) (q0 c a d (wrap .i64 ((a:Int) - 1))))
def Ts:=(shut fun N g h i b r0=>CM (R:=R) N r0 (fun c a d=>O2 N r0 c a b d N) g h i b).1
def QQ(g h i b r0):(@Ts R N g h i b r0)=(CM N r0 (fun c a d=>O2 N r0 c a b d N) g h i b):=by rw[Ts,(shut _).2]
def BX:=Azx (Mg N) (Adu N) (Eq.refl 180)
def cY:Oe:=[BX N]
def vS(F:KF R):=Iv Tryz.f128 xT (cY N) [] N F
def vT(c:LA)(a:Nat)(b:Bool)(d:LA)(K:St->O R):=fun f=>K ⟨[(0,.imm c a 1 false b),(1,Bbq 0 0),(5,iv f)],hq [bQ 1 d]⟩
def iW(F:KF R)(c a b d):∀ n,vT c a b d (Ao (vS N F (pz 5444) []) n)=(O2 N (Ee F) c a b d n):=Gu fun n e=>(B6 (Zx N (Ee F) c a b d) e:_)
def cZ:=Cc N 128 (cY N) xT (fun
|[.imm g h 1 i b,.nsl],[]=>some fun _ k=>Ts N g h i b (Ee k)
| _,_=>none) fun _ _=>by split;intro R F;exact(B6 (CM N (Ee F) · _ _ _ _) (Axh fun c a d=>(lW ..).trans (iW ..)):_).trans (QQ ..).symm;trivial
def UO(a:LA)(b:Bool)(r0:LA->Bool->LA->Nat->Bool->O R):O R:=(Dd 1 (a.drop 2) fun c d=>Ts N c d false b fun e=>cond (e==0) (r0 [.bool false,.nsl] false [.int .u32 1] 1 false) (cond (ble 2 a.length) (Dd 1 (a.drop 2) fun f g=>cond ((beq 0 0)&&((beq ((a.take 2).length) 2)&&(beq 2 2))) (cond (ble 2 ((a.take 2).length)) (r0 ((a.take 2).take 2) b f g b) none) none) none))
def Mh:=(shut (@UO R)).1
def JK:@Mh R=@UO R:=(shut _).2
def Adv(F:KF R):LA->Bool->LA->Nat->Bool->O R:=fun h i j l m=>F (.tup [.pagg h i,.imm j l 1 false m]) []
def Zy:=Cc N 117 [cZ N] { H:=hL,nils:=[(3,1)],modes:=[(3,0),(1,1)] } (fun
|[.pagg a b],[]=>some fun _ k=>Mh N a b (Adv k)
| _,_=>none) fun _ _=>by split;intro R F;dsimp only;rw[JK];kernel_rfl;trivial
def JL(N:Nat)(k1:Nat->Int->Int->LA->O R)(r0:Nat->LA->O R)(f:LA)(a:Nat)(c:Bool)(i:Nat)(h l:Int)(g:LA)(b:Nat)(d:Bool)(j:Int)(k2:Int->Int->Int->LA->O R)(w x m:Int)(u:LA):O R:=(cond (decide (m<x)) (cond (Ab m a) (Aj .u32 (f.drop (m.toNat*1)) fun y=>cond (Ab (wrap .i64 (h+m)) i) (Aj .u32 (u.drop (0+(((wrap .i64 (h+m)).toNat)*1))) fun z=>cond (Ab (wrap .i64 (h+m)) i) (cond ((beq 1 1)&&((ble ((0+(((wrap .i64 (h+m)).toNat)*1))+1) u.length)&&(!false))) (k2 (Int.fdiv (wrap .u64 (w+(wrap .u64 ((wrap .u64 ((wrap .u64 l)*(wrap .u64 y)))+(wrap .u64 z))))) (2 ^ 32)) x (wrap .i64 (m+1)) (u.set (0+(((wrap .i64 (h+m)).toNat)*1)) (.int .u32 (wrap .u32 (wrap .u64 (w+(wrap .u64 ((wrap .u64 ((wrap .u64 l)*(wrap .u64 y)))+(wrap .u64 z))))))))) none) none) none) none) (cond (Ab (wrap .i64 (h+(a:Int))) i) (cond ((beq 1 1)&&((ble ((0+(((wrap .i64 (h+(a:Int))).toNat)*1))+1) u.length)&&(!false))) (k1 i j (wrap .i64 (h+1)) (u.set (0+(((wrap .i64 (h+(a:Int))).toNat)*1)) (.int .u32 (wrap .u32 w)))) none) none))
def Tt(k1:Nat->Int->Int->LA->O R)(r0:Nat->LA->O R)(f:LA)(a:Nat)(c:Bool)(i:Nat)(h l:Int)(g:LA)(b:Nat)(d:Bool)(j:Int):Nat->Int->Int->Int->LA->O R
|0=>fun _ _ _ _=>none
|n+1=>JL N k1 r0 f a c i h l g b d j (Tt k1 r0 f a c i h l g b d j n)
def Zz(r0:Nat->LA->O R)(f:LA)(a:Nat)(c:Bool)(g:LA)(b:Nat)(d:Bool)(k1:Nat->Int->Int->LA->O R)(q2:Nat->Int->Int->Int->Int->Int->Int->LA->O R)(i:Nat)(j h:Int)(v:LA):O R:=(cond (decide (h<j)) (cond (Ab h b) (Aj .u32 (g.drop (h.toNat*1)) fun l=>cond (l==0) (k1 i j (wrap .i64 (h+1)) v) (q2 i h l j 0 (a:Int) 0 v)) none) (Zv N i v fun aa=>r0 aa v))
def Nk(r0:Nat->LA->O R)(f:LA)(a:Nat)(c:Bool)(g:LA)(b:Nat)(d:Bool):Nat->Nat->Int->Int->LA->O R
|0=>fun _ _ _ _=>none
|n+1=>Zz N r0 f a c g b d (Nk r0 f a c g b d n) (fun i h l j=>Tt N (Nk r0 f a c g b d n) r0 f a c i h l g b d j N)
def ZA(N:Nat)(r0:Nat->LA->O R)(g:LA)(b:Nat)(d:Bool)(f:LA)(a:Nat)(c:Bool)(q1:Nat->Int->Int->LA->O R):O R:=(cond ((decide (0<=(wrap .i64 ((b:Int)+(a:Int)))))&&((decide ((wrap .i64 ((b:Int)+(a:Int)))<=(wrap .i64 ((b:Int)+(a:Int)))))&&((decide ((wrap .i64 ((b:Int)+(a:Int)))<=140737488355328))&&(decide (((wrap .i64 ((b:Int)+(a:Int)))*((4:Nat):Int))<=140737488355328))))) (q1 ((wrap .i64 ((b:Int)+(a:Int))).toNat) (b:Int) 0 (replicate ((wrap .i64 ((b:Int)+(a:Int))).toNat) (.int .u32 0))) none)
def UP(r0:Nat->LA->O R)(g:LA)(b:Nat)(d:Bool)(f:LA)(a:Nat)(c:Bool):O R:=ZA N r0 g b d f a c (Nk N r0 f a c g b d N)
def UQ(r0:Nat->LA->O R)(q0:LA->Nat->LA->Nat->O R)(o:LA)(p:Nat)(q d:Bool)(r:LA)(s:Nat)(t c:Bool):O R:=(C6 N o p q d fun g b=>C6 N r s t c fun f a=>cond (((b:Int)==0)==false) (cond (cond false true ((a:Int)==0)) (r0 0 []) (q0 g b f a)) (r0 0 []))
def JM:=(shut fun N o p q d r s t c r0=>UQ (R:=R) N r0 (fun g b f a=>UP N r0 g b d f a c) o p q d r s t c).1
def JN(o p q d r s t c r0):(@JM R N o p q d r s t c r0)=(UQ N r0 (fun g b f a=>UP N r0 g b d f a c) o p q d r s t c):=by rw[JM,(shut _).2]
def xa:Hints:={H:=hK 2 (hJ [0,1] hL (hK 1 (hS (hK 1 (hS (hP [1,5,29,30,31] (hK 2 (hS (hS (hK 3 (hS (hK 1 (hS (hP [1,5,6,7,8,29,30,31,38,39,40] hL) hL)) hL)) hL) hL))) hL)) hL))),nils:=[(4,1)],modes:=[(2,1)]}
def Gf:=Azx (Mg N) (cT N) (Eq.refl 180)
def Adw:Oe:=[Gf N]
def iX(F:KF R):=Iv Tryz.f131 xa (Adw N) [] N F
def Amk(f:LA)(a:Nat)(c:Bool)(i:Nat)(h l:Int)(g:LA)(b:Nat)(d:Bool)(j:Int)(K:St->O R):=fun w x m u=>K ⟨[(1,.imm f a 1 false c),(5,Bbq 0 i),(6,iv h),(7,.int .u32 l),(8,.int .u64 w),(29,.imm g b 1 false d),(30,iv j),(31,iv h),(38,.imm f a 1 false c),(39,iv x),(40,iv m)],hq [bQ 1 u]⟩
def iY(f:LA)(a:Nat)(c:Bool)(g:LA)(b:Nat)(d:Bool)(K:St->O R):=fun i j h v=>K ⟨[(1,.imm f a 1 false c),(5,Bbq 0 i),(29,.imm g b 1 false d),(30,iv j),(31,iv h)],hq [bQ 1 v]⟩
def Aml(g:LA)(b:Nat)(d:Bool)(f:LA)(a:Nat)(c:Bool)(K:St->O R):=K ⟨[(0,.imm g b 1 false d),(1,.imm f a 1 false c)],[]⟩
def zg Q1 (F:KF R) (f a c i h l g b d j):∀ n,Amk f a c i h l g b d j (Ao (iX N F (pz 91553596740) [Q1]) n)=(Tt N (iY f a c g b d Q1) (Ge F) f a c i h l g b d j n):=Gu fun n e=>(B6 (JL N (iY f a c g b d Q1) (Ge F) f a c i h l g b d j) e:_)
def zh(F:KF R)(f a c g b d):∀ n,iY f a c g b d (Ao (iX N F (pz 21828) []) n)=(Nk N (Ge F) f a c g b d n):=Gu fun n e=>(QH (Zz N (Ge F) f a c g b d) e (Aoq fun i h l j=>(lW ..).trans ((zg ..).trans (xP (Tt _ · _ _ _ _ _ _ _ _ _ _ _ _) e))):_)
def zi(F:KF R)(g b d f a c):Aml g b d f a c (A1 (iX N F (pz 85) []))=(UP N (Ge F) g b d f a c):=(B6 (ZA N (Ge F) g b d f a c) ((lW ..).trans (zh ..)):_)
def c6:=Cc N 131 (Adw N) xa (fun
|[.imm o p 1 q d,.imm r s 1 t c],[]=>some fun _ k=>JM N o p q d r s t c (Ge k)
| _,_=>none) fun _ _=>by split;intro R F;exact(B6 (UQ N (Ge F) · _ _ _ _ _ _ _ _) (Aoq fun g b f a=>(jW ..).trans (zi ..)):_).trans (JN ..).symm;trivial
def zj(a:LA)(c:Bool)(b:LA)(d:Bool)(r0:Bool->Nat->LA->O R):O R:=(Wg a fun g=>Wg b fun h=>Dd 1 (a.drop 1) fun i j=>Dd 1 (b.drop 1) fun l m=>JM N i j false c l m false d fun e f=>La N (!(g==h)) e f fun n=>r0 n e f)
def QR:=(shut (@zj R)).1
def rT:@QR R=@zj R:=(shut _).2
def rU:=Cc N 119 [c6 N,CL N] D5 (fun
|[.pagg a c,.pagg b d],[]=>some fun _ k=>QR N a c b d (As3 k)
| _,_=>none) fun _ _=>by split;intro R F;dsimp only;rw[rT];kernel_rfl;trivial
def rV(c:LA)(d:Nat)(e b:Bool)(r0:Nat->LA->O R):O R:=(C6 N c d e b fun f a=>cond ((decide (0<=(a:Int)))&&((decide ((a:Int)<=(a:Int)))&&((decide ((a:Int)<=140737488355328))&&(decide (((a:Int)*((4:Nat):Int))<=140737488355328))))) (cond ((!b)||(Bb f)) (r0 a (D2 (replicate a (.int .u32 0)) 0 (f.take ((min a a)*1)))) none) none)
def CN:=(shut (@rV R)).1
def mB:@CN R=@rV R:=(shut _).2
def UR:=Cc N 182 [Mg N] Apm (fun
|[.imm c d 1 e b],[]=>some fun _ k=>CN N c d e b (Ge k)
| _,_=>none) fun _ _=>by split;intro R F;dsimp only;rw[mB];kernel_rfl;trivial
def rW(a:LA)(b:Bool)(r0:Bool->Nat->LA->O R):O R:=(Wg a fun e=>Dd 1 (a.drop 1) fun f g=>CN N f g false b fun c d=>La N e c d fun h=>r0 h c d)
def pQ:=(shut (@rW R)).1
def mC:@pQ R=@rW R:=(shut _).2
def Amm:=Cc N 181 [UR N,CL N] D5 (fun
|[.pagg a b],[]=>some fun _ k=>pQ N a b (As3 k)
| _,_=>none) fun _ _=>by split;intro R F;dsimp only;rw[mC];kernel_rfl;trivial
def Lv(N:Nat)(r0:Int->O R)(f:LA)(a:Nat)(b:Bool)(g:LA)(c:Nat)(d:Bool)(k0:Int->O R)(h:Int):O R:=(cond (decide (h>=0)) (cond (Ab h a) (Aj .u32 (f.drop (h.toNat*1)) fun q=>cond (Ab h c) (Aj .u32 (g.drop (h.toNat*1)) fun r=>cond (decide (q<r)) (r0 (-1)) (cond (Ab h a) (Aj .u32 (f.drop (h.toNat*1)) fun s=>cond (Ab h c) (Aj .u32 (g.drop (h.toNat*1)) fun t=>cond (decide (s>t)) (r0 1) (k0 (wrap .i64 (h - 1)))) none) none)) none) none) (r0 0))
def E3(r0:Int->O R)(f:LA)(a:Nat)(b:Bool)(g:LA)(c:Nat)(d:Bool):Nat->Int->O R
|0=>fun _=>none
|n+1=>Lv N r0 f a b g c d (E3 r0 f a b g c d n)
def Q9(r0:Int->O R)(q0:LA->Nat->LA->Nat->Int->O R)(i:LA)(j:Nat)(l b:Bool)(m:LA)(o:Nat)(p d:Bool):O R:=(C6 N i j l b fun f a=>C6 N m o p d fun g c=>cond ((a:Int) != (c:Int)) (cond (decide ((a:Int)<(c:Int))) (r0 (-1)) (r0 1)) (q0 f a g c (wrap .i64 ((a:Int) - 1))))
def Ej:=(shut fun N i j l b m o p d r0=>Q9 (R:=R) N r0 (fun f a g c=>E3 N r0 f a b g c d N) i j l b m o p d).1
def CO(i j l b m o p d r0):(@Ej R N i j l b m o p d r0)=(Q9 N r0 (fun f a g c=>E3 N r0 f a b g c d N) i j l b m o p d):=by rw[Ej,(shut _).2]
def NO:Oe:=[Mg N]
def iZ(F:KF R):=Iv Tryz.f128 xT (NO N) [] N F
def i6(f:LA)(a:Nat)(b:Bool)(g:LA)(c:Nat)(d:Bool)(K:St->O R):=fun h=>K ⟨[(0,.imm f a 1 false b),(1,.imm g c 1 false d),(5,iv h)],[]⟩
def VO(F:KF R)(f a b g c d):∀ n,i6 f a b g c d (Ao (iZ N F (pz 5444) []) n)=(E3 N (Ee F) f a b g c d n):=Gu fun n e=>(B6 (Lv N (Ee F) f a b g c d) e:_)
def Kq:=Cc N 128 (NO N) xT (fun
|[.imm i j 1 l b,.imm m o 1 p d],[]=>some fun _ k=>Ej N i j l b m o p d (Ee k)
| _,_=>none) fun _ _=>by split;intro R F;exact(B6 (Q9 N (Ee F) · _ _ _ _ _ _ _ _) (Aoq fun f a g c=>(lW ..).trans (VO ..)):_).trans (CO ..).symm;trivial
def E4(N:Nat)(r0:Int->O R)(b c:Int):O R:=(cond (decide (b>=256)) (cond (Ab (wrap .u8 (Int.fdiv b (2 ^ 8))) 256) (r0 (wrap .i64 ((wrap .i64 (c+8))+(wrap .i64 ((UInt8.toNat (List.getD ([0,1,2,2,3,3,3,3,4,4,4,4,4,4,4,4,5,5,5,5,5,5,5,5,5,5,5,5,5,5,5,5,6,6,6,6,6,6,6,6,6,6,6,6,6,6,6,6,6,6,6,6,6,6,6,6,6,6,6,6,6,6,6,6,7,7,7,7,7,7,7,7,7,7,7,7,7,7,7,7,7,7,7,7,7,7,7,7,7,7,7,7,7,7,7,7,7,7,7,7,7,7,7,7,7,7,7,7,7,7,7,7,7,7,7,7,7,7,7,7,7,7,7,7,7,7,7,7,8,8,8,8,8,8,8,8,8,8,8,8,8,8,8,8,8,8,8,8,8,8,8,8,8,8,8,8,8,8,8,8,8,8,8,8,8,8,8,8,8,8,8,8,8,8,8,8,8,8,8,8,8,8,8,8,8,8,8,8,8,8,8,8,8,8,8,8,8,8,8,8,8,8,8,8,8,8,8,8,8,8,8,8,8,8,8,8,8,8,8,8,8,8,8,8,8,8,8,8,8,8,8,8,8,8,8,8,8,8,8,8,8,8,8,8,8,8,8,8,8,8,8,8,8,8,8,8]:Lu) ((wrap .u8 (Int.fdiv b (2 ^ 8))).toNat) 0):Nat):Int))))) none) (cond (Ab (wrap .u8 b) 256) (r0 (wrap .i64 (c+(wrap .i64 ((UInt8.toNat (List.getD ([0,1,2,2,3,3,3,3,4,4,4,4,4,4,4,4,5,5,5,5,5,5,5,5,5,5,5,5,5,5,5,5,6,6,6,6,6,6,6,6,6,6,6,6,6,6,6,6,6,6,6,6,6,6,6,6,6,6,6,6,6,6,6,6,7,7,7,7,7,7,7,7,7,7,7,7,7,7,7,7,7,7,7,7,7,7,7,7,7,7,7,7,7,7,7,7,7,7,7,7,7,7,7,7,7,7,7,7,7,7,7,7,7,7,7,7,7,7,7,7,7,7,7,7,7,7,7,7,8,8,8,8,8,8,8,8,8,8,8,8,8,8,8,8,8,8,8,8,8,8,8,8,8,8,8,8,8,8,8,8,8,8,8,8,8,8,8,8,8,8,8,8,8,8,8,8,8,8,8,8,8,8,8,8,8,8,8,8,8,8,8,8,8,8,8,8,8,8,8,8,8,8,8,8,8,8,8,8,8,8,8,8,8,8,8,8,8,8,8,8,8,8,8,8,8,8,8,8,8,8,8,8,8,8,8,8,8,8,8,8,8,8,8,8,8,8,8,8,8,8,8,8,8,8,8,8]:Lu) ((wrap .u8 b).toNat) 0):Nat):Int))))) none))
def Nl(N:Nat)(r0:Int->O R)(q0:Int->Int->O R)(a:Int):O R:=(cond (decide (a>=65536)) (q0 (Int.fdiv a (2 ^ 16)) 16) (q0 a 0))
def Kr:=(shut fun N a r0=>Nl (R:=R) N r0 (E4 N r0) a).1
def W4(a r0):(@Kr R N a r0)=(Nl N r0 (E4 N r0) a):=by rw[Kr,(shut _).2]
def Z0:Hints:={H:=hK 1 (hJ [0,2] hL hL)}
def ZB(F:KF R):=Iv Tryz.f223 Z0 [] [] N F
def ZC(K:St->O R):=fun b c=>K ⟨[(0,.int .u32 b),(2,iv c)],[]⟩
def OW(F:KF R):ZC (A1 (ZB N F (pz 21) []))=(E4 N (Ee F)):=by kernel_rfl
def c7:=Cc N 223 [] Z0 (fun
|[.int .u32 a],[]=>some fun _ k=>Kr N a (Ee k)
| _,_=>none) fun _ _=>by split;intro R F;exact(B6 (Nl N (Ee F) · _) ((jW ..).trans (OW ..)):_).trans (W4 ..).symm;trivial
def Hl(a:Int)(r0:Int->O R):O R:=(Kr N a fun b=>r0 (wrap .i64 (32 - b)))
def Cx:=(shut (@Hl R)).1
def Ks:@Cx R=@Hl R:=(shut _).2
def Mi:=Cc N 241 [c7 N] D5 (fun
|[.int .u32 a],[]=>some fun _ k=>Cx N a (Ee k)
| _,_=>none) fun _ _=>by split;intro R F;dsimp only;rw[Ks];kernel_rfl;trivial
def Z1(N:Nat)(c:Int)(b:LA)(a:Nat)(d e:Bool)(r0:Int->O R):O R:=(cond (decide (c<(a:Int))) (cond (Ab c a) (Aj .u32 (b.drop (c.toNat*1)) fun f=>r0 (wrap .u64 f)) none) (r0 0))
def Lb:=(shut (@Z1 R)).1
def CP:@Lb R=@Z1 R:=(shut _).2
def i7(b:LA)(a:Nat)(d e:Bool)(F:KF R):Int->O R:=fun g=>F (.int .u64 g) [(100000,bN 0 [.imm b a 1 d e])]
def oJ:=Cc N 250 [] D5 (fun
|[.int .i64 c,.optr 100000 0],[(100000,⟨false,false,false,false,0,[.imm b a 1 d e],false,none⟩)]=>some fun _ k=>Lb N c b a d e (i7 b a d e k)
| _,_=>none) fun _ _=>by split;intro R F;dsimp only;rw[CP];kernel_rfl;trivial
def ZD(b:LA)(c:Nat)(d e:Bool)(f a:Int)(r0:Int->O R):O R:=(Lb N (wrap .i64 (f - 1)) b c d e fun g=>Lb N (wrap .i64 (f - 2)) b c d e fun h=>cond (decide (a<0)) none (Lb N (wrap .i64 (f - 3)) b c d e fun i=>cond (decide ((wrap .i64 (32 - a))<0)) none (r0 (Qe .u64 (wrap .u64 ((Qe .u64 (wrap .u64 (g*2 ^ 32)) h)*2 ^ (min a.toNat 64))) (Int.fdiv i (2 ^ (min ((wrap .i64 (32 - a)).toNat) 64)))))))
def GQ:=(shut (@ZD R)).1
def XA:@GQ R=@ZD R:=(shut _).2
def Adx:=Cc N 242 [oJ N] D5 (fun
|[.imm b c 1 d e,.int .i64 f,.int .i64 a],[]=>some fun _ k=>GQ N b c d e f a (Ada k)
| _,_=>none) fun _ _=>by split;intro R F;dsimp only;rw[XA];kernel_rfl;trivial
def Uu(N:Nat)(k0:Int->Int->Int->Int->Int->Int->Int->Int->Bool->O R)(r0:LA->O R)(m c s t u v:Int)(z:Bool):O R:=(cond (c==0) none (cond (c==0) none (k0 c (Int.tmod m c) s t (wrap .u64 (s+(wrap .u64 ((wrap .u64 (Int.tdiv m c))*t)))) u v (wrap .u64 (u+(wrap .u64 ((wrap .u64 (Int.tdiv m c))*v)))) (!z))))
def I8(N:Nat)(r0:LA->O R)(k0:Int->Int->Int->Int->Int->Int->Int->Int->Bool->O R)(q1:Int->Int->Int->Int->Int->Int->Bool->O R)(w o x p aa y l q:Int)(r:Bool):O R:=(cond ((decide (o>=q))==true) (cond (cond true (decide ((wrap .u64 (w - o))>=(wrap .u64 (l+q)))) false) (q1 w o p aa l q r) (r0 [.int .u64 x,.int .u64 p,.int .u64 y,.int .u64 l,.bool r])) (r0 [.int .u64 x,.int .u64 p,.int .u64 y,.int .u64 l,.bool r]))
def Ek(r0:LA->O R):Nat->Int->Int->Int->Int->Int->Int->Int->Int->Bool->O R
|0=>fun _ _ _ _ _ _ _ _ _=>none
|n+1=>I8 N r0 (Ek r0 n) (Uu N (Ek r0 n) r0)
def CQ(r0:LA->O R)(q0:Int->Int->Int->Int->Int->Int->Int->Int->Bool->O R)(b:LA)(a:Nat)(i d:Bool)(f:LA)(g:Nat)(j h:Bool):O R:=(cond (Ab (wrap .i64 ((a:Int) - 1)) a) (Aj .u32 (b.drop (((wrap .i64 ((a:Int) - 1)).toNat)*1)) fun ac=>Cx N ac fun ab=>GQ N b a false d (a:Int) ab fun ad=>GQ N f g false h (a:Int) ab fun ae=>q0 ad ae 0 1 0 0 0 1 false) none)
def Z2:=(shut fun N b a i d f g j h r0=>CQ (R:=R) N r0 (Ek N r0 N) b a i d f g j h).1
def QS(b a i d f g j h r0):(@Z2 R N b a i d f g j h r0)=(CQ N r0 (Ek N r0 N) b a i d f g j h):=by rw[Z2,(shut _).2]
def XB:Hints:={H:=hK 7 (hS (hS (hP [4,7,8,9,10,11,12,13,14,15] (hJ [4,7,8,10,11,13,14,15] hL hL)) hL) hL),modes:=[(3,0)]}
def c8:Oe:=[Mi N,Adx N]
def XC(F:KF R):=Iv Tryz.f225 XB (c8 N) [] N F
def vU(K:St->O R):=fun m c s t u v z=>K ⟨[(4,op 0),(7,.int .u64 m),(8,.int .u64 c),(10,.int .u64 s),(11,.int .u64 t),(13,.int .u64 u),(14,.int .u64 v),(15,.bool z)],hq [bQ 0 [.int .u64 0,.int .u64 0,.int .u64 0,.int .u64 0,.bool false]]⟩
def XD(K:St->O R):=fun w o x p aa y l q r=>K ⟨[(4,op 0),(7,.int .u64 w),(8,.int .u64 o),(9,.int .u64 x),(10,.int .u64 p),(11,.int .u64 aa),(12,.int .u64 y),(13,.int .u64 l),(14,.int .u64 q),(15,.bool r)],hq [bQ 0 [.int .u64 0,.int .u64 0,.int .u64 0,.int .u64 0,.bool false]]⟩
def i8 Q0 (F:KF R):vU (A1 (XC N F (pz 5592321) [Q0]))=(Uu N (XD Q0) (Dx F)):=by kernel_rfl
def i9(F:KF R):∀ n,XD (Ao (XC N F (pz 349520) []) n)=(Ek N (Dx F) n):=Gu fun n e=>(QH (I8 N (Dx F)) e ((jW ..).trans ((i8 ..).trans (xP (Uu _ · _) e))):_)
def zk:=Cc N 225 (c8 N) XB (fun
|[.imm b a 1 i d,.imm f g 1 j h],[]=>some fun _ k=>Z2 N b a i d f g j h (Dx k)
| _,_=>none) fun _ _=>by split;intro R F;exact(B6 (CQ N (Dx F) · _ _ _ _ _ _ _ _) ((lW ..).trans (i9 ..)):_).trans (QS ..).symm;trivial
def Iw(r0:Nat->Nat->LA->LA->O R)(c:LA)(a:Nat)(d f:Bool)(b:Int)(k0:Int->Int->LA->O R)(i g:Int)(h:LA):O R:=(cond (decide (g>=0)) (cond (Ab g a) (Aj .u32 (c.drop (g.toNat*1)) fun j=>cond ((wrap .u64 b)==0) none (cond (Ab g a) (cond ((beq 1 1)&&((ble ((0+(g.toNat*1))+1) h.length)&&(!false))) (cond ((wrap .u64 b)==0) none (k0 (Int.tmod (Qe .u64 (wrap .u64 (i*2 ^ 32)) (wrap .u64 j)) (wrap .u64 b)) (wrap .i64 (g - 1)) (h.set (0+(g.toNat*1)) (.int .u32 (wrap .u32 (wrap .u64 (Int.tdiv (Qe .u64 (wrap .u64 (i*2 ^ 32)) (wrap .u64 j)) (wrap .u64 b)))))))) none) none)) none) (Zv N a h fun l=>B7 N i fun m o=>r0 l m h o))
def D3(r0:Nat->Nat->LA->LA->O R)(c:LA)(a:Nat)(d f:Bool)(b:Int):Nat->Int->Int->LA->O R
|0=>fun _ _ _=>none
|n+1=>Iw N r0 c a d f b (D3 r0 c a d f b n)
def Nm(N:Nat)(r0:Nat->Nat->LA->LA->O R)(q0:Int->Int->LA->O R)(c:LA)(a:Nat)(d f:Bool)(b:Int):O R:=(cond ((decide (0<=(a:Int)))&&((decide ((a:Int)<=(a:Int)))&&((decide ((a:Int)<=140737488355328))&&(decide (((a:Int)*((4:Nat):Int))<=140737488355328))))) (q0 0 (wrap .i64 ((a:Int) - 1)) (replicate a (.int .u32 0))) none)
def Ho:=(shut fun N c a d f b r0=>Nm (R:=R) N r0 (D3 N r0 c a d f b N) c a d f b).1
def W5(c a d f b r0):(@Ho R N c a d f b r0)=(Nm N r0 (D3 N r0 c a d f b N) c a d f b):=by rw[Ho,(shut _).2]
def Z3:Hints:={H:=hK 3 (hS (hK 1 (hS (hP [0,1,4,6,7] hL) hL)) hL),nils:=[(4,1),(5,1)],modes:=[(2,1),(2,1)]}
def CS:Oe:=[cT N,Hn N]
def ZE(F:KF R):=Iv Tryz.f227 Z3 (CS N) [] N F
def ZF(c:LA)(a:Nat)(d f:Bool)(b:Int)(K:St->O R):=fun i g h=>K ⟨[(0,.imm c a 1 d f),(1,.int .u32 b),(4,Bbq 0 a),(6,.int .u64 i),(7,iv g)],hq [bQ 1 h]⟩
def OX(F:KF R)(c a d f b):∀ n,ZF c a d f b (Ao (ZE N F (pz 5444) []) n)=(D3 N (l7 F) c a d f b n):=Gu fun n e=>(B6 (Iw N (l7 F) c a d f b) e:_)
def c9:=Cc N 227 (CS N) Z3 (fun
|[.imm c a 1 d f,.int .u32 b],[]=>some fun _ k=>Ho N c a d f b (l7 k)
| _,_=>none) fun _ _=>by split;intro R F;exact(B6 (Nm N (l7 F) · _ _ _ _ _) ((lW ..).trans (OX ..)):_).trans (W5 ..).symm;trivial
def Ra(N:Nat)(r0:Nat->LA->O R)(c:LA)(a:Nat)(d f:Bool)(b:Int)(k0:Nat->Int->Int->Int->LA->O R)(h:Nat)(j l g:Int)(i:LA):O R:=(cond (decide (g<l)) (cond (Ab g a) (Aj .u32 (c.drop (g.toNat*1)) fun m=>cond (decide (b<0)) none (cond (Ab g h) (cond ((beq 1 1)&&((ble ((0+(g.toNat*1))+1) i.length)&&(!false))) (k0 h (Int.fdiv (Qe .u64 j (wrap .u64 ((wrap .u64 m)*2 ^ (min b.toNat 64)))) (2 ^ 32)) l (wrap .i64 (g+1)) (i.set (0+(g.toNat*1)) (.int .u32 (wrap .u32 (Qe .u64 j (wrap .u64 ((wrap .u64 m)*2 ^ (min b.toNat 64)))))))) none) none)) none) (cond (Ab (a:Int) h) (cond ((beq 1 1)&&((ble ((0+(a*1))+1) i.length)&&(!false))) (r0 h (i.set (0+(a*1)) (.int .u32 (wrap .u32 j)))) none) none))
def Ig(r0:Nat->LA->O R)(c:LA)(a:Nat)(d f:Bool)(b:Int):Nat->Nat->Int->Int->Int->LA->O R
|0=>fun _ _ _ _ _=>none
|n+1=>Ra N r0 c a d f b (Ig r0 c a d f b n)
def CT(N:Nat)(r0:Nat->LA->O R)(q0:Nat->Int->Int->Int->LA->O R)(c:LA)(a:Nat)(d f:Bool)(b:Int):O R:=(cond ((decide (0<=(wrap .i64 ((a:Int)+1))))&&((decide ((wrap .i64 ((a:Int)+1))<=(wrap .i64 ((a:Int)+1))))&&((decide ((wrap .i64 ((a:Int)+1))<=140737488355328))&&(decide (((wrap .i64 ((a:Int)+1))*((4:Nat):Int))<=140737488355328))))) (q0 ((wrap .i64 ((a:Int)+1)).toNat) 0 (a:Int) 0 (replicate ((wrap .i64 ((a:Int)+1)).toNat) (.int .u32 0))) none)
def Tu:=(shut fun N c a d f b r0=>CT (R:=R) N r0 (Ig N r0 c a d f b N) c a d f b).1
def QT(c a d f b r0):(@Tu R N c a d f b r0)=(CT N r0 (Ig N r0 c a d f b N) c a d f b):=by rw[Tu,(shut _).2]
def XE:Hints:={H:=hK 3 (hS (hK 1 (hS (hP [0,1,5,6,13,14,15] hL) hL)) hL),nils:=[(4,1)],modes:=[(2,1)]}
def vV(F:KF R):=Iv Tryz.f243 XE [] [] N F
def vW(c:LA)(a:Nat)(d f:Bool)(b:Int)(K:St->O R):=fun h j l g i=>K ⟨[(0,.imm c a 1 d f),(1,iv b),(5,Bbq 0 h),(6,.int .u64 j),(13,.imm c a 1 d f),(14,iv l),(15,iv g)],hq [bQ 1 i]⟩
def i_(F:KF R)(c a d f b):∀ n,vW c a d f b (Ao (vV N F (pz 5444) []) n)=(Ig N (Ge F) c a d f b n):=Gu fun n e=>(B6 (Ra N (Ge F) c a d f b) e:_)
def zl:=Cc N 243 [] XE (fun
|[.imm c a 1 d f,.int .i64 b],[]=>some fun _ k=>Tu N c a d f b (Ge k)
| _,_=>none) fun _ _=>by split;intro R F;exact(B6 (CT N (Ge F) · _ _ _ _ _) ((lW ..).trans (i_ ..)):_).trans (QT ..).symm;trivial
def Nn(N:Nat)(r0:Int->LA->O R)(b c:Nat)(f j:Int)(d:LA)(a:Nat)(g h:Bool)(k4:Int->Int->Int->LA->O R)(t u o:Int)(r:LA):O R:=(cond (decide (o<u)) (cond (Ab o a) (Aj .u32 (d.drop (o.toNat*1)) fun y=>cond (Ab o c) (Aj .u32 (r.drop (b+(o.toNat*1))) fun z=>cond (Ab o c) (cond ((beq 1 1)&&((ble ((b+(o.toNat*1))+1) r.length)&&(!false))) (k4 (Int.fdiv (wrap .u64 (t+(wrap .u64 ((wrap .u64 z)+(wrap .u64 y))))) (2 ^ 32)) u (wrap .i64 (o+1)) (r.set (b+(o.toNat*1)) (.int .u32 (wrap .u32 (wrap .u64 (t+(wrap .u64 ((wrap .u64 z)+(wrap .u64 y))))))))) none) none) none) none) (cond (Ab f c) (Aj .u32 (r.drop (b+(f.toNat*1))) fun ag=>cond (Ab f c) (cond ((beq 1 1)&&((ble ((b+(f.toNat*1))+1) r.length)&&(!false))) (r0 (wrap .u32 (wrap .u64 (j - 1))) (r.set (b+(f.toNat*1)) (.int .u32 (wrap .u32 (ag+(wrap .u32 t)))))) none) none) none))
def Hp(r0:Int->LA->O R)(b c:Nat)(f j:Int)(d:LA)(a:Nat)(g h:Bool):Nat->Int->Int->Int->LA->O R
|0=>fun _ _ _ _=>none
|n+1=>Nn N r0 b c f j d a g h (Hp r0 b c f j d a g h n)
def I9(N:Nat)(r0:Int->LA->O R)(b c:Nat)(d:LA)(a:Nat)(g h:Bool)(f j:Int)(k3:Int->Int->Int->LA->O R)(q4:Int->Int->Int->LA->O R)(s v p:Int)(q:LA):O R:=(cond (decide (p<v)) (cond (Ab p a) (Aj .u32 (d.drop (p.toNat*1)) fun w=>cond (Ab p c) (Aj .u32 (q.drop (b+(p.toNat*1))) fun aa=>cond (Ab p c) (cond ((beq 1 1)&&((ble ((b+(p.toNat*1))+1) q.length)&&(!false))) (k3 (wrap .u64 ((Int.fdiv (wrap .u64 ((wrap .u64 (j*(wrap .u64 w)))+s)) (2 ^ 32))+(Int.fdiv (wrap .u64 ((wrap .u64 aa) - (wrap .u64 (wrap .u32 (wrap .u64 ((wrap .u64 (j*(wrap .u64 w)))+s)))))) (2 ^ 63)))) v (wrap .i64 (p+1)) (q.set (b+(p.toNat*1)) (.int .u32 (wrap .u32 (wrap .u64 ((wrap .u64 aa) - (wrap .u64 (wrap .u32 (wrap .u64 ((wrap .u64 (j*(wrap .u64 w)))+s)))))))))) none) none) none) none) (cond (Ab f c) (Aj .u32 (q.drop (b+(f.toNat*1))) fun x=>cond (Ab f c) (cond ((beq 1 1)&&((ble ((b+(f.toNat*1))+1) q.length)&&(!false))) (cond ((Int.fdiv (wrap .u64 ((wrap .u64 x) - s)) (2 ^ 63))==0) (r0 (wrap .u32 j) (q.set (b+(f.toNat*1)) (.int .u32 (wrap .u32 (wrap .u64 ((wrap .u64 x) - s)))))) (q4 0 (a:Int) 0 (q.set (b+(f.toNat*1)) (.int .u32 (wrap .u32 (wrap .u64 ((wrap .u64 x) - s))))))) none) none) none))
def Fw(r0:Int->LA->O R)(b c:Nat)(d:LA)(a:Nat)(g h:Bool)(f j:Int):Nat->Int->Int->Int->LA->O R
|0=>fun _ _ _ _=>none
|n+1=>I9 N r0 b c d a g h f j (Fw r0 b c d a g h f j n) (Hp N r0 b c f j d a g h N)
def Tv(N:Nat)(r0:Int->LA->O R)(b c:Nat)(d:LA)(a:Nat)(g h:Bool)(f:Int)(i:LA)(q3:Int->Int->Int->Int->LA->O R)(j:Int):O R:=(q3 j 0 (a:Int) 0 i)
def Ev(r0:Int->LA->O R)(b c:Nat)(d:LA)(a:Nat)(g h:Bool)(f:Int)(i:LA)(j:Int):O R:=Tv N r0 b c d a g h f i (fun j=>Fw N r0 b c d a g h f j N) j
def Tx(N:Nat)(k0:Int->Int->Int->O R)(r0:Int->LA->O R)(b c:Nat)(d:LA)(a:Nat)(g h:Bool)(f l m:Int)(i:LA)(q2:Int->O R):O R:=(cond (Ab (wrap .i64 (f - 1)) a) (Aj .u32 (d.drop (((wrap .i64 (f - 1)).toNat)*1)) fun ab=>cond ((Int.fdiv (wrap .u64 (m+(wrap .u64 ab))) (2 ^ 32)) != 0) (q2 (wrap .u64 (l - 1))) (k0 f (wrap .u64 (l - 1)) (wrap .u64 (m+(wrap .u64 ab))))) none)
def Kt(k0:Int->Int->Int->O R)(r0:Int->LA->O R)(b c:Nat)(d:LA)(a:Nat)(g h:Bool)(f l m:Int)(i:LA):O R:=Tx N k0 r0 b c d a g h f l m i (Ev N r0 b c d a g h f i)
def Ty(N:Nat)(r0:Int->LA->O R)(b c:Nat)(d:LA)(a:Nat)(g h:Bool)(i:LA)(k0:Int->Int->Int->O R)(q1:Int->Int->Int->O R)(q2:Int->Int->O R)(f l m:Int):O R:=(cond (((Int.fdiv l (2 ^ 32)) != 0)==false) (cond (Ab (wrap .i64 (f - 2)) a) (Aj .u32 (d.drop (((wrap .i64 (f - 2)).toNat)*1)) fun ah=>cond (Ab (wrap .i64 (f - 2)) c) (Aj .u32 (i.drop (b+(((wrap .i64 (f - 2)).toNat)*1))) fun ai=>cond (cond false true (decide ((wrap .u64 (l*(wrap .u64 ah)))>(Qe .u64 (wrap .u64 (m*2 ^ 32)) (wrap .u64 ai))))) (q1 f l m) (q2 f l)) none) none) (q1 f l m))
def Ew(r0:Int->LA->O R)(b c:Nat)(d:LA)(a:Nat)(g h:Bool)(i:LA):Nat->Int->Int->Int->O R
|0=>fun _ _ _=>none
|n+1=>Ty N r0 b c d a g h i (Ew r0 b c d a g h i n) (fun f l m=>Kt N (Ew r0 b c d a g h i n) r0 b c d a g h f l m i) (fun f=>Ev N r0 b c d a g h f i)
def Uv(N:Nat)(r0:Int->LA->O R)(q0:Int->Int->Int->O R)(b c:Nat)(d:LA)(a:Nat)(g h:Bool)(i:LA):O R:=(cond (Ab (a:Int) c) (Aj .u32 (i.drop (b+(a*1))) fun ac=>cond (Ab (wrap .i64 ((a:Int) - 1)) c) (Aj .u32 (i.drop (b+(((wrap .i64 ((a:Int) - 1)).toNat)*1))) fun ad=>cond (Ab (wrap .i64 ((a:Int) - 1)) a) (Aj .u32 (d.drop (((wrap .i64 ((a:Int) - 1)).toNat)*1)) fun ae=>cond ((wrap .u64 ae)==0) none (cond (Ab (wrap .i64 ((a:Int) - 1)) a) (Aj .u32 (d.drop (((wrap .i64 ((a:Int) - 1)).toNat)*1)) fun af=>cond ((wrap .u64 af)==0) none (q0 (a:Int) (wrap .u64 (Int.tdiv (Qe .u64 (wrap .u64 ((wrap .u64 ac)*2 ^ 32)) (wrap .u64 ad)) (wrap .u64 ae))) (Int.tmod (Qe .u64 (wrap .u64 ((wrap .u64 ac)*2 ^ 32)) (wrap .u64 ad)) (wrap .u64 af)))) none)) none) none) none)
def No:=(shut fun N b c d a g h i r0=>Uv (R:=R) N r0 (Ew N r0 b c d a g h i N) b c d a g h i).1
def GR(b c d a g h i r0):(@No R N b c d a g h i r0)=(Uv N r0 (Ew N r0 b c d a g h i N) b c d a g h i):=by rw[No,(shut _).2]
def NP:Hints:={H:=hK 4 (hJ [0,1,5,7] (hS (hP [0,1,5,7,8] (hJ [0,1,5,7,8] hL hL)) hL) (hK 1 (hS (hK 1 (hS (hP [0,1,5,7,9,84,85,86] hL) hL)) (hK 4 (hS (hK 1 (hS (hP [0,5,7,9,134,135,136] hL) hL)) hL)))))}
def Ku(F:KF R):=Iv Tryz.f244 NP [] [100000] N F
def Ch(F:KF R):Int->LA->O R:=fun aj ak=>F (.int .u32 aj) [(100000,bQ 1 ak)]
def oK(b c:Nat)(f j:Int)(d:LA)(a:Nat)(g h:Bool)(K:St->O R):=fun t u o r=>K ⟨[(0,.own 100000 b c),(5,iv f),(7,.int .u64 j),(9,.int .u64 t),(134,.imm d a 1 g h),(135,iv u),(136,iv o)],[(100000,bQ 1 r)]⟩
def oM(b c:Nat)(d:LA)(a:Nat)(g h:Bool)(f j:Int)(K:St->O R):=fun s v p q=>K ⟨[(0,.own 100000 b c),(1,.imm d a 1 g h),(5,iv f),(7,.int .u64 j),(9,.int .u64 s),(84,.imm d a 1 g h),(85,iv v),(86,iv p)],[(100000,bQ 1 q)]⟩
def oN(b c:Nat)(d:LA)(a:Nat)(g h:Bool)(f:Int)(i:LA)(K:St->O R):=fun j=>K ⟨[(0,.own 100000 b c),(1,.imm d a 1 g h),(5,iv f),(7,.int .u64 j)],[(100000,bQ 1 i)]⟩
def oO(b c:Nat)(d:LA)(a:Nat)(g h:Bool)(f l m:Int)(i:LA)(K:St->O R):=K ⟨[(0,.own 100000 b c),(1,.imm d a 1 g h),(5,iv f),(7,.int .u64 l),(8,.int .u64 m)],[(100000,bQ 1 i)]⟩
def Wm(b c:Nat)(d:LA)(a:Nat)(g h:Bool)(i:LA)(K:St->O R):=fun f l m=>K ⟨[(0,.own 100000 b c),(1,.imm d a 1 g h),(5,iv f),(7,.int .u64 l),(8,.int .u64 m)],[(100000,bQ 1 i)]⟩
def ZG(F:KF R)(b c f j d a g h):∀ n,oK b c f j d a g h (Ao (Ku N F (pz 357913924) []) n)=(Hp N (Ch F) b c f j d a g h n):=Gu fun n e=>(B6 (Nn N (Ch F) b c f j d a g h) e:_)
def ZH(F:KF R)(b c d a g h f j):∀ n,oM b c d a g h f j (Ao (Ku N F (pz 349508) []) n)=(Fw N (Ch F) b c d a g h f j n):=Gu fun n e=>(QH (I9 N (Ch F) b c d a g h f j) e ((lW ..).trans (ZG ..)):_)
def Z4(F:KF R)(b c d a g h f i):oN b c d a g h f i (A1 (Ku N F (pz 1365) []))=(Ev N (Ch F) b c d a g h f i):=(B6 (Tv N (Ch F) b c d a g h f i) (vQ fun j=>(lW ..).trans (ZH ..)):_)
def ZI Q0 (F:KF R) (b c d a g h f l m i):oO b c d a g h f l m i (A1 (Ku N F (pz 87297) [Q0]))=(Kt N (Wm b c d a g h i Q0) (Ch F) b c d a g h f l m i):=(B6 (Tx N (Wm b c d a g h i Q0) (Ch F) b c d a g h f l m i) ((jW ..).trans (Z4 ..)):_)
def ZJ(F:KF R)(b c d a g h i):∀ n,Wm b c d a g h i (Ao (Ku N F (pz 5456) []) n)=(Ew N (Ch F) b c d a g h i n):=Gu fun n e=>(Azy (Ty N (Ch F) b c d a g h i) e (Axh fun f l m=>(jW ..).trans ((ZI ..).trans (xP (Kt _ · _ _ _ _ _ _ _ _ _ _ _) e))) (vQ fun f=>(jW ..).trans (Z4 ..)):_)
def rX:=Cc N 244 [] NP (fun
|[.own 100000 b c,.imm d a 1 g h],[(100000,⟨false,false,true,false,1,i,false,none⟩)]=>some fun _ k=>No N b c d a g h i (Ch k)
| _,_=>none) fun _ _=>by split;intro R F;exact(B6 (Uv N (Ch F) · _ _ _ _ _ _ _) ((lW ..).trans (ZJ ..)):_).trans (GR ..).symm;trivial
def Hw(r0:Nat->Bool->LA->O R)(b:Bool)(k0:LA->Nat->Int->Nat->LA->Nat->Int->Int->LA->O R)(o:LA)(m:Nat)(f:Int)(l:Nat)(p:LA)(q:Nat)(r d:Int)(g:LA):O R:=(cond (decide (d<r)) (cond (Ab d q) (Aj .u32 (p.drop (d.toNat*1)) fun s=>cond (decide ((wrap .i64 (d+1))<(m:Int))) (cond (Ab (wrap .i64 (d+1)) m) (Aj .u32 (o.drop (((wrap .i64 (d+1)).toNat)*1)) fun u=>cond (decide (f<0)) none (cond (Ab d l) (cond ((beq 1 1)&&((ble ((0+(d.toNat*1))+1) g.length)&&(!false))) (k0 o m f l p q r (wrap .i64 (d+1)) (g.set (0+(d.toNat*1)) (.int .u32 (wrap .u32 (Int.fdiv (Qe .u64 (wrap .u64 s) (wrap .u64 ((wrap .u64 u)*2 ^ 32))) (2 ^ (min f.toNat 64))))))) none) none)) none) (cond (decide (f<0)) none (cond (Ab d l) (cond ((beq 1 1)&&((ble ((0+(d.toNat*1))+1) g.length)&&(!false))) (k0 o m f l p q r (wrap .i64 (d+1)) (g.set (0+(d.toNat*1)) (.int .u32 (wrap .u32 (Int.fdiv (wrap .u64 s) (2 ^ (min f.toNat 64))))))) none) none))) none) (Zv N l g fun v=>r0 v true g))
def De(r0:Nat->Bool->LA->O R)(b:Bool):Nat->LA->Nat->Int->Nat->LA->Nat->Int->Int->LA->O R
|0=>fun _ _ _ _ _ _ _ _ _=>none
|n+1=>Hw N r0 b (De r0 b n)
def Mj(r0:Nat->Bool->LA->O R)(q0:LA->Nat->Int->Nat->LA->Nat->Int->Int->LA->O R)(h:LA)(i:Nat)(j b:Bool)(a:Int):O R:=(cond (decide (a<0)) (r0 0 false []) (C6 N h i j b fun t c=>cond (decide ((wrap .i64 (Int.tdiv a 32))>=(c:Int))) (r0 0 true []) (cond ((decide (0<=(wrap .i64 (Int.tdiv a 32))))&&((decide ((wrap .i64 (Int.tdiv a 32))<=(c:Int)))&&((decide ((c:Int)<=(c:Int)))&&(decide ((c:Int)<=(c:Int)))))) (cond ((decide (0<=(((c - ((wrap .i64 (Int.tdiv a 32)).toNat)):Nat):Int)))&&((decide ((((c - ((wrap .i64 (Int.tdiv a 32)).toNat)):Nat):Int)<=(((c - ((wrap .i64 (Int.tdiv a 32)).toNat)):Nat):Int)))&&((decide ((((c - ((wrap .i64 (Int.tdiv a 32)).toNat)):Nat):Int)<=140737488355328))&&(decide (((((c - ((wrap .i64 (Int.tdiv a 32)).toNat)):Nat):Int)*((4:Nat):Int))<=140737488355328))))) (q0 ((t.drop (((wrap .i64 (Int.tdiv a 32)).toNat)*1)).take ((c - ((wrap .i64 (Int.tdiv a 32)).toNat))*1)) (c - ((wrap .i64 (Int.tdiv a 32)).toNat)) (Int.tmod a 32) (c - ((wrap .i64 (Int.tdiv a 32)).toNat)) ((t.drop (((wrap .i64 (Int.tdiv a 32)).toNat)*1)).take ((c - ((wrap .i64 (Int.tdiv a 32)).toNat))*1)) (c - ((wrap .i64 (Int.tdiv a 32)).toNat)) (((c - ((wrap .i64 (Int.tdiv a 32)).toNat)):Nat):Int) 0 (replicate (c - ((wrap .i64 (Int.tdiv a 32)).toNat)) (.int .u32 0))) none) none)))
def O3:=(shut fun N h i j b a r0=>Mj (R:=R) N r0 (De N r0 b N) h i j b a).1
def Rb(h i j b a r0):(@O3 R N h i j b a r0)=(Mj N r0 (De N r0 b N) h i j b a):=by rw[O3,(shut _).2]
def GS:Hints:={H:=hK 7 (hS (hK 1 (hS (hP [0,6,7,29,30,31] hL) hL)) hL),nils:=[(4,1)],modes:=[(2,1),(0,0)]}
def NQ:Oe:=[Gf N]
def jA(F:KF R):=Iv Tryz.f245 GS (NQ N) [] N F
def jB(b:Bool)(K:St->O R):=fun o m f l p q r d g=>K ⟨[(0,.imm o m 1 false b),(6,iv f),(7,Bbq 0 l),(29,.imm p q 1 false b),(30,iv r),(31,iv d)],hq [bQ 1 g]⟩
def VP(F:KF R)b:∀ n,jB b (Ao (jA N F (pz 1398084) []) n)=(De N (iN F) b n):=Gu fun n e=>(B6 (Hw N (iN F) b) e:_)
def oP:=Cc N 245 (NQ N) GS (fun
|[.imm h i 1 j b,.int .i64 a],[]=>some fun _ k=>O3 N h i j b a (iN k)
| _,_=>none) fun _ _=>by split;intro R F;exact(B6 (Mj N (iN F) · _ _ _ _ _) ((lW ..).trans (VP ..)):_).trans (Rb ..).symm;trivial
end
end Gx
namespace Gx
open Go Go.Proofs
section
variable{R:Type}
def fit(k N:Nat):Prop:=100*k+1000<=N/\k<=1000000000
def fit.le{j k N:Nat}(h:fit k N)(D:j<=k):fit j N:=⟨by have:=h.1;omega,by have:=h.2;omega⟩
def ct(x y:O R):cond true x y=x:=rfl
def cf(x y:O R):cond false x y=y:=rfl
def Ady(x y:Bool):cond true x y=x:=rfl
def Axj(x y:Bool):cond false x y=y:=rfl
def Ah7(c:Nat):((decide (((c+1:Nat):Int)>(0:Int)))==true)=true:=by simp
def Ox{j n:Nat}(h:j<n):decide ((j:Int)<(n:Int))=true:=by simp;omega
def Rc{j n:Nat}(h:n<=j):decide ((j:Int)<(n:Int))=false:=by simp;omega
def wS{j:Nat}(h:j<=1000000000000):wrap .i64 ((j:Int)+1)=((j+1:Nat):Int):=by rw[i64 (by omega)];omega
def wP{j:Nat}(h:j<=1000000000000):wrap .i64 (((j+1:Nat):Int) - 1)=(j:Int):=by rw[i64 (by omega)];omega
def wA{j k:Nat}(h:j+k<=1000000000000):wrap .i64 ((j:Int)+(k:Int))=((j+k:Nat):Int):=by rw[i64 (by omega)];omega
def OY{l:List Nat}{j:Nat}(h:j<l.length){f:Int->O R}:Aj .u32 (drop ((Int.toNat (j:Int))*1) (Ad l)) f=f (l[j]:Nat):=by rw[A2u,A3g,Adq h]
def c_{l:List Nat}{j:Nat}(h:j<l.length){f:Int->O R}:Aj .u32 (drop (0+((Int.toNat (j:Int))*1)) (Ad l)) f=f (l[j]:Nat):=by rw[A22,OY h]
def Aum{c a:Nat}(h:c<=a):((decide ((0:Int)<=(0:Int)))&&((decide ((0:Int)<=(c:Int)))&&((decide ((c:Int)<=(a:Int)))&&(decide ((a:Int)<=(a:Int))))))=true:=by simp;omega
def Aos{n:Nat}(h:n<=1000000000000):((decide ((0:Int)<=(n:Int)))&&((decide ((n:Int)<=(n:Int)))&&((decide ((n:Int)<=(140737488355328:Int)))&&(decide (((n:Int)*((4:Nat):Int))<=(140737488355328:Int))))))=true:=by simp;omega
def pN{x:Nat}{m:List Nat}(h:x<m.length):((beq 1 1)&&((ble ((0+((Int.toNat (x:Int))*1))+1) (List.length (Ad m)))&&(!false)))=true:=by rw[Bx,A2u];simp;omega
def QU{x v:Nat}{m:List Nat}:List.set (Ad m) (0+((Int.toNat (x:Int))*1)) (.int .u32 (v:Int))=Ad (m.set x v):=by rw[A2u,A3g,A22,cR]
def Adz{l:List Nat}(h:Af l):l.take (Ak (val l)).length=Ak (val l):=by
 obtain⟨k,D⟩:=Bm h
 rw[congrArg (take (Ak (val l)).length) k,List.take_left]
def Lc{l:List Nat}(h:Af l):take ((Ak (val l)).length*1) (Ad l)=Ad (Ak (val l)):=by rw[A3g,Tq,Adz h]
def Ax{l:List Nat}{c:Nat}(h:c<l.length):val (l.take (c+1))=val (l.take c)+4294967296 ^ c*l[c]:=by rw[A39 h,Ah3,A3b,A3h (by omega)]
def zm{l:List Nat}{c:Nat}(k:Af l)(h:c<l.length)(D:l[c]≠0):Ak (val (l.take (c+1)))=l.take (c+1):=by
 apply Avz (Co k _)
 intro G
 rw[A59]
 simp only[A3b,A3h (show c+1<=l.length by omega),A62,A4u]
 exact D
def rY{N:Nat}{l:List Nat}{K:Nat->O R}(G:Af l)(hs:l.length<=1000000000000):∀(c k:Nat),c<=l.length->c<k ->
  Tr N K l.length (Ad l) k (c:Int)=K (Ak (val (l.take c))).length
|0,k+1,hc,_=>by
  rw[Tr];unfold JF
  rw[show decide (((0:Nat):Int)>0)=false by simp]
  rw[show((false:Bool)==true)=false by rfl,cf,Aum (by omega),ct,A2u];rfl
| c+1,k+1,hc,I=>by
  rw[Tr];unfold JF
  rw[Ah7,ct,wP (by omega),Aa (by omega),ct,c_ (by omega),Ady,Aum (by omega),ct,rY G hs c k (by omega) (by omega),A2u]
  by_cases D:l[c]=0
  ·rw[Ax (by omega),D];simp
  ·rw[zm G (by omega) D,A3b,A3h hc]
   rw[show(((l[c]:Nat):Int)==0)=false by simp;exact D,cf]
def GU{N:Nat}{l:List Nat}{n:Nat}{K:Nat->O R}(D:n=l.length)(G:Af l)(k:fit l.length N):Zv N n (Ad l) K=K (Ak (val l)).length:=by
 subst D
 have I:=k.1;have L:=k.2
 rw[YY];unfold cS
 rw[rY G (by omega) l.length N (A2s _) (by omega),A3l]
def xb{N:Nat}{l:List Nat}{t o:Bool}{K:LA->Nat->O R}(G:Af l)(hs:l.length<=1000000000000):∀(c k:Nat),c<=l.length->c<k ->
  J5 N K (Ad l) l.length t o k (c:Int)=K (Ad (Ak (val (l.take c)))) (Ak (val (l.take c))).length
|0,k+1,hc,_=>by
  rw[J5];unfold Ut
  rw[show decide (((0:Nat):Int)>0)=false by simp]
  rw[show((false:Bool)==true)=false by rfl,cf,Aum (by omega),ct,A2u];rfl
| c+1,k+1,hc,I=>by
  rw[J5];unfold Ut
  rw[Ah7,ct,wP (by omega),Aa (by omega),ct,OY (by omega),Ady,Aum (by omega),ct,xb G hs c k (by omega) (by omega),A2u,A3g,Tq]
  by_cases D:l[c]=0
  ·rw[Ax (by omega),D];simp
  ·rw[zm G (by omega) D,A3b,A3h hc]
   rw[show(((l[c]:Nat):Int)==0)=false by simp;exact D,cf]
def Bz{N:Nat}{l:List Nat}{n:Nat}{t o:Bool}{K:LA->Nat->O R}(D:n=l.length)(G:Af l)(k:fit l.length N):C6 N (Ad l) n t o K=K (Ad (Ak (val l))) (Ak (val l)).length:=by
 subst D
 have I:=k.1;have L:=k.2
 rw[WW];unfold JH
 rw[xb G (by omega) l.length N (A2s _) (by omega),A3l]
def Amn{N:Nat}{K:LA->O R}(hN:1<=N):GP N K=K []:=by
 rw[W_];unfold JJ
 cases N with
|zero=>omega
|succ N=>rw[Q8];rfl
end
end Gx
namespace Gx
open Go Go.RowKit
section
variable{P:Program}{W:World}{H:Type}{enc:TypeId×Value->H}{β:Cr}{h:Ap}
def Akj{t I:TypeId}{α:Type}{e:α->LA}{n:Nat}{a:Option Addr}{len cap:Nat}{d:DataW H}{p:List MemPlace}(G:P.underlying t=some (.slice I))(hc:P.cellsOf t=1)(L:Opens P I e n)
  (T:DataW.Trod enc P W 0 (fun _=>true) true t (.slice a len cap) d p):∃ l:List α,l.length<=maxLen/\Rep (fun _ k=>k<W.heap.size) β h W (.imm (l.flatMap e) l.length n false false) (.slice a len cap):=by
 obtain⟨D,Y⟩:=T
 obtain⟨_,⟨l,hl⟩,hr⟩:=(Qf G hc L).read enc W D _ _ _ Y
 refine⟨l,hl,?_⟩
 simp only[RepCs,Value.cells,and_true]at hr
 obtain⟨u,G,hr⟩:=hr
 simp at G;subst G
 rw[Rep];exact hr
def As6{k:IntKind}{n:Int}:Rep (fun _ k=>k<W.heap.size) β h W (.int k n) (.int k n):=by rw[Rep]
def Ap0:Reps (fun _ k=>k<W.heap.size) β h W [] []:=by rw[Reps]
def Y3{x:AV}{xs:LA}{v:Value}{vs:List Value}(D:Rep (fun _ k=>k<W.heap.size) β h W x v)(G:Reps (fun _ k=>k<W.heap.size) β h W xs vs):Reps (fun _ k=>k<W.heap.size) β h W (x::xs) (v::vs):=by rw[Reps];exact⟨v,vs,rfl,D,G⟩
def Ad0{t:TypeId}{α:Type}{e:α->LA}{n:Nat}{cs:Array Value}{d:DataW H}{p:List MemPlace}(G:Opens P t e n)
  (I:DataW.Trod enc P W 0 (fun _=>true) true t (.agg cs) d p):∃ a:α,Rep (fun _ k=>k<W.heap.size) β h W (.pagg (e a) false) (.agg cs):=by
 obtain⟨D,L⟩:=I
 obtain⟨T,a,hr⟩:=G.read enc W D _ _ _ L
 refine⟨a,?_⟩
 rw[Rep]
 exact⟨cs.toList,rfl,by rw[G.len];exact T,hr⟩
end
end Gx
