/- A part of the proof; each theorem says what it holds. -/
import Derived.ProofKit
import Derived.OpenShut
import Derived.ChangeOld
import Derived.Below
import Derived.Lib.LaidTab
import Derived.Test.YtnlplnjnonldpaaGreatDoorProg
import Derived.JoinedOf
import Derived.Test.YtnlplnjnonldpaaGreatDoorCards
import Derived.Test.YtnlplnjnonldpaaGreatDoorTie
import Derived.Deep.DeepHandedRow
import Derived.Deep.DeepWitnessRowRef
import Derived.LaidMore
import Derived.Shelf.Vars
import Derived.SevenTiedAt
import Derived.Lay
import Derived.IntWalk
import Derived.SizedLaws
import Derived.OwnWalk
import Derived.Laws.AppendOwnNone
import Derived.Lib.LazyBuf
import Derived.Test.YtnlplnjnonldpaaGreatDoorP0
set_option linter.unusedVariables false
set_option linter.defProp false
set_option linter.unusedSimpArgs false
open Nat (ble beq)
open List (take drop replicate)
open Go.IntKind (wrap)
namespace Gx
open Go
theorem Is:∀ {l:List Nat} {b:Nat},Gm l b=true↔b ∈ l
  | [],b=>by simp[Gm]
  | i::r,b=>by
    rw[Gm]
    cases hi:beq i b with
    | true=>have:=Ab5 hi;subst this;simp
    | false => have := Rt hi; simp only [cond_false, Ach]; rw [Is]; constructor
               · exact fun h=>.inr h
               · rintro(h | h)
                 · exact absurd h.symm this
                 · exact h
theorem Ow:∀ {l:List Nat},C_ l=true→l.Nodup
 | [],_=>Af6
 | i::r,h=>by
  rw[C_] at h;simp at h
  refine Acu.2 ⟨fun b=>?_,Ow h.2⟩
  rw[Is.2 b] at h;simp at h
theorem SA {g:A6} {ids:List Nat}:∀ {l:List Nat},aO g ids l=true→∀ b ∈ l,∀ x,Em g b=some x→b ∈ ids
 | [],_,b,d,_,_=>by simp at d
 | i::r,h,b,d,x,k=>by
  rw[aO] at h;simp at h
  rcases Ach.1 d with e | d
  ·subst e
   rcases h.1 with j | j
   ·exact Is.1 j
   ·rw[k] at j;simp at j
  ·exact SA h.2 b d x k
theorem mF:∀ {l:List Nat},qr l=true→∀ b ∈ l,Fu≤b→Ir b<100000
 | [],_,b,d,_=>by simp at d
 | i::r,h,b,d,hn=>by
  rw[qr] at h;simp at h
  rcases Ach.1 d with e | d
  ·subst e
   have:ble Fu b=true:=by simpa using hn
   rw[this] at h;simpa using h.1
  ·exact mF h.2 b d hn
theorem Ty (g:A6):∀ c:LA,(Hp g c).length=c.length
 | []=>rfl
 | x::r=>by rw[Hp,Acd,Acd,Ty g r]
section
variable {R:Type} {r:R} {Z:Start} {nt:Nat} {J J':Bool→Nat→Prop} {β β':Bu} {st:St} {h h':Ao} {a:Act} {w w':World} {ids:List Nat}
def Jq (g:A6) (x:Blk):Blk:={ x with cells:=cond x.pure x.cells (Hp g x.cells) }
theorem KV {g:A6}:∀ {ids:List Nat},(ids.map Ir).Nodup→∀ c y,Ag (Tt g ids) c=some y→∃ b x,b ∈ ids∧Ir b=c∧Em g b=some x∧y=Jq g x
 | [],_,c,y,d=>by simp[Tt,Ag] at d
 | b::r,hn,c,y,d=>by
  rw[Acc,Acu] at hn
  rw[Tt] at d
  split at d
  ·rename_i x s
   rw[Ac] at d
   by_cases e:c=Ir b
   ·rw[if_pos e] at d;simp at d
    exact⟨b,x,by simp,e.symm,s,d.symm⟩
   ·rw[if_neg e] at d
    obtain⟨i,x',j,k,m,q⟩:=KV hn.2 c y d
    exact⟨i,x',by simp[j],k,m,q⟩
  ·obtain⟨i,x',j,k,m,q⟩:=KV hn.2 c y d
   exact⟨i,x',by simp[j],k,m,q⟩
theorem Tz {g:A6}:∀ {ids:List Nat},(ids.map Ir).Nodup→∀ b x,b ∈ ids→Em g b=some x→Ag (Tt g ids) (Ir b)=some (Jq g x)
 | [],_,b,x,d,_=>by simp at d
 | k::r,hn,b,x,d,i=>by
  rw[Acc,Acu] at hn
  rw[Tt]
  by_cases e:b=k
  ·subst e
   rw[i]
   simp only
   rw[Ac,if_pos rfl];rfl
  ·have j:b ∈ r:=by simpa[e] using d
   have ne:Ir b≠Ir k:=fun h=>hn.1 (by rw[←h];exact Acs.2 ⟨b,j,rfl⟩)
   split
   ·rw[Ac,if_neg ne];exact Tz hn.2 b x j i
   ·exact Tz hn.2 b x j i
def bC (ids:List Nat) (c:Nat):Option Nat:=ids.find? fun b=>beq (Ir b) c
theorem I4 (hn:(ids.map Ir).Nodup) {b:Nat} (d:b ∈ ids):bC ids (Ir b)=some b:=by
 induction ids with
 | nil=>simp at d
 | cons i r j =>
  rw[Acc,Acu] at hn
  unfold bC at j ⊢
  rw[List.find?_cons]
  by_cases e:b=i
  ·subst e;simp
  ·have k:b ∈ r:=by simpa[e] using d
   have ne:Ir i≠Ir b:=fun h=>hn.1 (by rw[h];exact Acs.2 ⟨b,k,rfl⟩)
   rw[CN ne];exact j hn.2 k
def wI (g:A6) (ids:List Nat) (l:List Nat):Prop:=∀ b ∈ l,∀ x,Em g b=some x→b ∈ ids
theorem sA {b:Nat}:Em (Ag h) b=(Ag h b).bind fun x=>cond x.dead none (some x):=rfl
theorem KW {b:Nat} {x y:Blk} (i:Ag h b=some x) (d:Em (Ag h) b=some y):y=x∧x.dead=false:=by
 rw[sA,i] at d
 cases e:x.dead with
 | true=>simp[e] at d
 | false=>simp[e] at d;exact⟨d.symm,rfl⟩
mutual
theorem Rep.clean (hn:(ids.map Ir).Nodup):∀ {x:AV} {v:Value},wI (Ag h) ids (Ff x)→Rep J β h w x v →
  Rep J (fun c=>(bC ids c).bind β) (Tt (Ag h) ids) w (Ts (Ag h) x) v
 | .own b off n,v,hm,hr=>by
  rw[Rep] at hr
  obtain⟨x,A,cap,⟨hx,hmp⟩,h1,h2,h3⟩:=hr
  rw[Ts]
  cases hv:Em (Ag h) b with
  | none=>simp only;rw[Rep];trivial
  | some y =>
   obtain⟨rfl,hd⟩:=KW hx hv
   have hb:=hm b (by simp[Ff]) _ hv
   simp only
   rw[Rep]
   refine⟨Jq (Ag h) y,A,cap,⟨Tz hn b y hb hv,hmp⟩,h1,h2,?_⟩
   rcases h3 with h3 | ⟨k,o,h4,h5⟩
   ·exact .inl h3
   ·refine .inr ⟨k,o,h4,?_⟩
    rcases h5 with h5 | ⟨h5,h6,h7⟩
    ·simp[hd] at h5
    ·refine .inr ⟨by rw[I4 hn hb];exact h5,h6,?_⟩
     have:(Jq (Ag h) y).cells.length=y.cells.length:=by
      unfold Jq;cases y.pure
      ·simp;exact Ty _ _
      ·rfl
     rw[this];exact h7
 | .optr b off,v,hm,hr=>by
  rw[Rep] at hr
  obtain⟨x,k,o,⟨hx,hmp⟩,h1,h2⟩:=hr
  rw[Ts]
  cases hv:Em (Ag h) b with
  | none=>simp only;rw[Rep];trivial
  | some y =>
   obtain⟨rfl,hd⟩:=KW hx hv
   have hb:=hm b (by simp[Ff]) _ hv
   simp only
   rw[Rep]
   refine⟨Jq (Ag h) y,k,o,⟨Tz hn b y hb hv,hmp⟩,h1,?_⟩
   rcases h2 with h2 | h2
   ·simp[hd] at h2
   ·exact .inr (by rw[I4 hn hb];exact h2)
 | .omap b,v,hm,hr=>by
  rw[Rep] at hr
  obtain⟨x,k,⟨hx,hmp⟩,h2⟩:=hr
  rw[Ts]
  cases hv:Em (Ag h) b with
  | none=>simp only;rw[Rep];trivial
  | some y =>
   obtain⟨rfl,hd⟩:=KW hx hv
   have hb:=hm b (by simp[Ff]) _ hv
   simp only
   rw[Rep]
   refine⟨Jq (Ag h) y,k,⟨Tz hn b y hb hv,hmp⟩,?_⟩
   rcases h2 with h2 | h2
   ·simp[hd] at h2
   ·exact .inr (by rw[I4 hn hb];exact h2)
 | .agg c,v,hm,hr=>by
  rw[Rep] at hr
  obtain⟨cs,h1,h2⟩:=hr
  rw[Ts,Rep]
  exact⟨cs,h1,Reps.clean hn (by simpa[Ff] using hm) h2⟩
 | .tup c,v,hm,hr=>by
  rw[Rep] at hr
  obtain⟨cs,h1,h2⟩:=hr
  rw[Ts,Rep]
  exact⟨cs,h1,Reps.clean hn (by simpa[Ff] using hm) h2⟩
 | .fn f c,v,hm,hr=>by
  rw[Rep] at hr
  obtain⟨cs,h1,h2⟩:=hr
  rw[Ts,Rep]
  exact⟨cs,h1,Reps.clean hn (by simpa[Ff] using hm) h2⟩
 | .pagg c o,v,hm,hr=>by show Rep J _ _ w (.pagg c o) v;rw[Rep] at hr ⊢;exact hr
 | .undef,v,hm,hr=>by show Rep J _ _ w (.undef) v;rw[Rep] at hr ⊢;exact hr
 | .imm c n sz t o,v,hm,hr=>by show Rep J _ _ w (.imm c n sz t o) v;rw[Rep] at hr ⊢;exact hr
 | .iptr c o,v,hm,hr=>by show Rep J _ _ w (.iptr c o) v;rw[Rep] at hr ⊢;exact hr
 | .int k n,v,hm,hr=>by show Rep J _ _ w (.int k n) v;rw[Rep] at hr ⊢;exact hr
 | .bool b,v,hm,hr=>by show Rep J _ _ w (.bool b) v;rw[Rep] at hr ⊢;exact hr
 | .str s,v,hm,hr=>by show Rep J _ _ w (.str s) v;rw[Rep] at hr ⊢;exact hr
 | .nsl,v,hm,hr=>by show Rep J _ _ w (.nsl) v;rw[Rep] at hr ⊢;exact hr
 | .nilptr,v,hm,hr=>by show Rep J _ _ w (.nilptr) v;rw[Rep] at hr ⊢;exact hr
 | .nilfn,v,hm,hr=>by show Rep J _ _ w (.nilfn) v;rw[Rep] at hr ⊢;exact hr
theorem Reps.clean (hn:(ids.map Ir).Nodup):∀ {c:List AV} {cs:List Value},wI (Ag h) ids (Gl c)→Reps J β h w c cs →
  Reps J (fun c=>(bC ids c).bind β) (Tt (Ag h) ids) w (Hp (Ag h) c) cs
 | [],cs,hm,hr=>by rw[Reps] at hr;rw[Hp,Reps];exact hr
 | x::r,cs,hm,hr=>by
  rw[Reps] at hr
  obtain⟨u,us,h1,h2,h3⟩:=hr
  rw[Hp,Reps]
  exact⟨u,us,h1,Rep.clean hn (fun b hb=>hm b (by simp[Gl,hb])) h2,Reps.clean hn (fun b hb=>hm b (by simp[Gl,hb])) h3⟩
end
theorem Va {g:A6} {K:List Nat}:∀ {s:Fe} {i:Nat},Et (RT g K s) i=if Gm K i=true then Ts g (Et s i) else .undef
 | [],i=>by
  simp only[RT,Et]
  show AV.undef=if Gm K i=true then AV.undef else AV.undef
  split<;>rfl
 | (t,v)::r,i=>by
  rw[RT,Et]
  cases b:Gm K t with
  | true =>
   simp only[cond_true,Et]
   cases hi:beq t i with
   | true =>
    have:=Ab5 hi;subst this
    simp[b]
   | false=>simp only[cond_false];exact Va
  | false =>
   simp only[cond_false]
   rw[Va]
   cases hi:beq t i with
   | true =>
    have:=Ab5 hi;subst this
    simp[b]
   | false=>rfl
theorem bD {K:List Nat}:∀ {s:Fe} {i:Nat},Gm K i=true→∀ b ∈ Ff (Et s i),b ∈ aN K s
 | [],i,_,b,d=>by simp[Et,Ff] at d
 | (t,v)::r,i,e,b,d=>by
  rw[Et] at d
  rw[aN]
  cases hi:beq t i with
  | true =>
   have:=Ab5 hi;subst this
   rw[hi] at d
   rw[e];simp at d ⊢;exact .inl d
  | false =>
   rw[hi] at d
   have:=bD e b d
   cases Gm K t
   ·exact this
   ·simp;exact .inr this
theorem SB {g:A6}:∀ {ids:List Nat} {b:Nat} {x:Blk},b ∈ ids→g b=some x→x.pure=false→∀ c ∈ Gl x.cells,c ∈ Iq g ids
 | [],b,x,d,_,_,_,_=>by simp at d
 | i::r,b,x,d,j,k,c,m=>by
  rw[Iq]
  by_cases e:b=i
  ·subst e;rw[j];simp only[k,cond_false];exact Aca.2 (.inl m)
  ·exact Aca.2 (.inr (SB (by simpa[e] using d) j k c m))
theorem SC:∀ {c:LA} {j:Nat} {x:AV},c[j]?=some x→∀ b ∈ Ff x,b ∈ Gl c
 | [],j,x,d,_,_=>by simp at d
 | y::r,j,x,d,b,e=>by
  rw[Gl]
  cases j with
  | zero=>simp at d;subst d;exact Aca.2 (.inl e)
  | succ j=>exact Aca.2 (.inr (SC (by simpa using d) b e))
theorem VA {g:A6}:∀ {c:LA} {j:Nat} {y:AV},(Hp g c)[j]?=some y→∃ x,c[j]?=some x∧y=Ts g x
 | [],j,y,b=>by simp[Hp] at b
 | x::r,j,y,b=>by
  rw[Hp] at b
  cases j with
  | zero=>simp at b;exact⟨x,by simp,b.symm⟩
  | succ j=>obtain⟨x',d,e⟩:=VA (c:=r) (j:=j) (by simpa using b);exact⟨x',by simpa using d,e⟩
theorem sB {b:Nat} (d:b<Fu):Ir b=b:=by
 unfold Ir
 have:ble Fu b=false:=by
  cases h:ble Fu b with
  | false=>rfl
  | true=>have:=Nat.le_of_ble_eq_true h;omega
 rw[this];rfl
theorem mG {K roots:List Nat} {st':St} (I:Inv Z nt J β st a w) (hh:clean K roots st=some st'):∃ β',Inv Z nt J β' st' a w:=by
 unfold clean at hh
 obtain⟨hc,h1⟩:_∧_:=uc hh
 simp only[Ab6] at hc
 obtain⟨c1,c2,c3,c4⟩:=hc
 generalize hids:U8 (Ag st.h) (Tr (Ag st.h) (aN K st.s++roots))=ids at *
 simp at h1
 have hn:=Ow c1
 have blk:∀ c y,Ag (Tt (Ag st.h) ids) c=some y→∃ b x,b ∈ ids∧Ir b=c∧Ag st.h b=some x∧x.dead=false∧y=Jq (Ag st.h) x:=by
  intro c y A
  obtain⟨b,x,D,F,M,O⟩:=KV hn c y A
  have e:Ag st.h b=some x∧x.dead=false:=Co (fun _ _ h=>h) M
  exact⟨b,x,D,F,e.1,e.2,O⟩
 have C:∀ x:Blk,(Jq (Ag st.h) x).cells.length=x.cells.length:=fun x=>by
  unfold Jq;cases x.pure
  ·simp;exact Ty _ _
  ·rfl
 refine⟨fun c=>(bC ids c).bind β,?_⟩
 subst h1
 refine⟨⟨I.sim.jlt,I.sim.jft,I.sim.gl,fun c y A Y hm=>?_,fun c y A Y hm=>by
   obtain⟨b,x,m,rfl,e,d,rfl⟩:=blk c y A
   obtain⟨D,F,k,ob,M,O,g5,g6⟩:=I.sim.mblk b x e d hm
   have:(Jq (Ag st.h) x).cells=x.cells:=by unfold Jq;rw[D];rfl
   exact⟨D,F,k,ob,by simp only[I4 hn m,Acn];exact M,O,by rw[ObjIs,show(Jq (Ag st.h) x).sz=x.sz from rfl,this];exact g5,g6⟩,?_⟩,⟨fun i v hv=>?_,fun i hi=>?_⟩,I.tmps,I.defers,I.os,I.tape,I.output,I.size,I.frame,?_,I.jsub,I.jup,I.sizes,I.zlt,I.zge,?_⟩
 ·obtain⟨b,x,m,rfl,e,d,rfl⟩:=blk c y A
  rcases I.sim.blk b x e d hm with⟨D,F⟩ | ⟨k,o,cs,ty,fr,D,F,M,O,g5,g6,g7⟩
  ·refine .inl ⟨by simp only[I4 hn m,Acn];exact D,?_⟩
   have:=C x;rw[F] at this;simpa using this
  ·refine .inr ⟨k,o,cs,ty,fr,by simp only[I4 hn m,Acn];exact D,F,M,by rw[C];exact O,⟨fun hp=>?_,fun hp j q hj=>?_⟩,g6,g7⟩
   ·have z:x.pure=true:=hp
    have:(Jq (Ag st.h) x).cells=x.cells:=by unfold Jq;rw[z];rfl
    rw[this];exact g5.1 z
   ·have z:x.pure=false:=hp
    have:(Jq (Ag st.h) x).cells=Hp (Ag st.h) x.cells:=by unfold Jq;rw[z];rfl
    rw[this] at hj
    obtain⟨q',hq,rfl⟩:=VA hj
    obtain⟨u,hu,hr,ho⟩:=g5.2 z j q' hq
    exact⟨u,hu,Rep.clean hn (fun S G x' L=>SA c3 S (SB m e z S (SC hq S G)) x' L) hr,ho⟩
 ·intro c c' y y' k o o' A hy' Y hd' hs T U
  obtain⟨b,x,m,rfl,e,d,rfl⟩:=blk c y A
  obtain⟨S,x',G,rfl,L,V,rfl⟩:=blk c' y' hy'
  simp only[I4 hn m,Acn] at T
  simp only[I4 hn G,Acn] at U
  rw[I.sim.sep b S x x' k o o' e L d V hs T U]
 ·rw[Va]
  split
  ·rename_i hk
   exact Rep.clean hn (fun b m x e=>SA c2 b (bD hk b m) x e) (I.ss.slot i v hv)
  ·rw[Rep];trivial
 ·rw[Va,I.ss.out i hi]
  split
  ·rfl
  ·rfl
 ·rintro k ⟨c,y,o,A,Y,hs,T⟩ hk
  obtain⟨b,x,m,rfl,e,d,rfl⟩:=blk c y A
  simp only[I4 hn m,Acn] at T
  exact I.wr k ⟨b,x,o,e,d,hs,T⟩ hk
 ·intro c x0 y h0 A Y
  obtain⟨b,x,m,rfl,e,d,rfl⟩:=blk c y A
  have hlt:=I.zlt _ _ h0
  have hge:=I.zge _ _ h0
  have X:Ir b=b:=by
   by_cases hnb:Fu≤b
   ·have:=mF c4 b m hnb;omega
   ·exact sB (by omega)
  rw[X] at h0
  obtain⟨⟨e1,em⟩,e2,e3,e4⟩:=I.outs b x0 x h0 e d
  refine⟨⟨?_,em⟩,e2,by rw[C];exact e3,e4⟩
  simp only[I4 hn m,Acn];rw[X];exact e1
end
end Gx
namespace Gx
open Go
section
variable {R:Type}
theorem Aj {α β:Type} (b:Bool) (x y:Option α) (f:α→Option β):(cond b x y).bind f=cond b (x.bind f) (y.bind f):=by cases b<;>rfl
theorem Sb {R':Type} (P:Program) (t:TypeId) (c:LA) (o:Bool) (k:Bool→Option R') (f:R'→O R):(R7 P t c o k).bind f=R7 P t c o fun o=>(k o).bind f:=by
 unfold R7;simp only[Aj,Aex]
theorem Ox (P:Program) (t:TypeId) (c:LA) (org:Bool) (k:AV→O R):CV P t c org k=(CV P t c org some).bind k:=by
 unfold CV
 split<;>simp[Abz,Aj,Sb]<;>rfl
theorem ov (P:Program) (t:TypeId) (c:LA) (k:AV→O R):UP P t c k=(UP P t c some).bind k:=by
 unfold UP
 split<;>simp[Abz,Aj]
theorem VB (n:Nat) (k:AV→O R):∀ (c:LA) (i:Nat),Y0 n k c i=(Y0 n some c i).bind k
 | [],_=>rfl
 | v::r,i=>by rw[Y0,Y0,Aj,VB n k r (i+1)];rfl
theorem VC (P:Program) (t:TypeId) (c:LA) (off:Nat) (k:AV→O R):CW P t c off k=(CW P t c off some).bind k:=by
 unfold CW
 split
 ·simp[Abz,Aj]
 ·simp[Abz,Aj]
 ·exact VB ..
 ·rfl
theorem Ze (P:Program) (g:A6) (t:TypeId) (p:AV) (k:AV→O R):aH P g t p k=(aH P g t p some).bind k:=by
 unfold aH
 split
 ·exact Ox ..
 ·rw[Abz]
  congr 1;funext x
  rw[Aj,←Ox,←VC]
 ·rfl
theorem BM (P:Program) (t:TypeId) (x i:AV) (k:AV→O R):Om P t x i k=(Om P t x i some).bind k:=by
 unfold Om
 split<;>simp[Abz,Aj]
theorem BN (P:Program) (t:TypeId) (x:AV) (f:Nat) (k:AV→O R):On P t x f k=(On P t x f some).bind k:=by
 unfold On
 simp only[Abz,Aj]
 congr 1;funext p;congr 1;funext n;congr 1
 split<;>rfl
theorem VD (P:Program) (t:TypeId) (x:AV) (f:Nat) (k:AV→O R):RG P t x f k=(RG P t x f some).bind k:=by
 unfold RG
 rw[Abz]
 congr 1;funext p
 split
 ·exact Ox ..
 ·exact ov ..
 ·rfl
theorem VE (P:Program) (t:TypeId) (x i:AV) (k:AV→O R):RH P t x i k=(RH P t x i some).bind k:=by
 unfold RH
 split
 ·simp[Aj]
 ·simp only[Abz,Aj,←Ox];rfl
 ·simp only[Abz,Aj,←VC];rfl
 ·rfl
theorem Sc {α:Type} (lo hi mx:Option AV) (n:Nat) (f:Nat→Nat→α) (k:α→O R):(R8 lo hi mx n fun l h=>k (f l h))=(R8 lo hi mx n fun l h=>some (f l h)).bind k:=by
 unfold R8
 simp[Abz,Aj]
theorem VF (P:Program) (g:A6) (t:TypeId) (x:AV) (lo hi mx:Option AV) (k:AV→O R):RI P g t x lo hi mx k=(RI P g t x lo hi mx some).bind k:=by
 unfold RI
 split
 ·rw[Aj,←Sc];rfl
 ·rw[Abz];congr 1;funext _;exact Sc lo hi mx 0 (fun _ _=>AV.nsl) k
 ·rw[Abz];congr 1;funext _;rw[Aj,←Sc];rfl
 ·rw[Abz];congr 1;funext _;rw[Abz];congr 1;funext _;rw[Aj,←Sc];rfl
 ·simp only[Abz,Aj];rfl
 ·rfl
theorem sC (P:Program) (t:TypeId) (op:BinOp) (x y:AV) (k:AV→O R):rj P t op x y k=(rj P t op x y some).bind k:=by
 unfold rj
 split
 ·split<;>simp[Aj]
 ·split<;>simp[Aj]
 ·split<;>simp[Aj]
 ·rfl
def pr (v:AV) (u:Do):Option (AV×Do):=some (v,u)
theorem mH (P:Program) (g:A6) (t:TypeId) (p v:AV) (k:AV→Do→O R):RK P g t p v k=(RK P g t p v pr).bind fun q=>k q.1 q.2:=by
 unfold RK
 split
 ·simp only[Abz,Aj]
  congr 1;funext x;congr 1;funext n;congr 1;congr 1
  split<;>simp[Aj,pr]
 ·rfl
theorem KX (P:Program) (c:LA) (org:Bool):∀ (L:List (Nat×TypeId)) (b:LA) (k:LA→O R),ME P c org L b k=(ME P c org L b some).bind k
 | [],b,k=>rfl
 | (off,t)::L,b,k=>by
  rw[ME,ME,Aj]
  congr 1
  rw[Ox,Ox (k:=fun v=>ME P c org L (b++[v]) some),Abz]
  congr 1;funext v
  exact KX P c org L _ k
theorem VG (P:Program) (co:Bool) (t:TypeId) (v:AV) (k:AV→O R):RM P co t v k=(RM P co t v some).bind k:=by
 unfold RM
 split
 ·rename_i c org
  rw[KX,KX (k:=fun l=>cond (beq c.length l.length) (some (AV.agg l)) none),Abz]
  congr 1;funext l
  rw[Aj];rfl
 ·rfl
theorem iI (P:Program) (g:A6) (d:Nat) (t:TypeId) (v:AV) (k:AV→Do→O R):l8 P g d t v k=(l8 P g d t v pr).bind fun q=>k q.1 q.2:=by
 unfold l8
 split<;>simp[Abz,Aj,pr]
theorem SD (P:Program) (g:A6) (d:Nat) (t:TypeId) (len:Nat) (ps:List (Nat×AV)) (k:AV→Do→O R):Mu P g d t len ps k=(Mu P g d t len ps pr).bind fun q=>k q.1 q.2:=by
 unfold Mu
 split<;>simp[Abz,Aj,pr,Xj]
theorem X_ (P:Program) (g:A6) (d:Nat) (t:TypeId) (len:Nat) (ps:List (Nat×AV)) (k:AV→Do→O R):Oo P g d t len ps k=(Oo P g d t len ps pr).bind fun q=>k q.1 q.2:=by
 unfold Oo
 split<;>simp[Abz,Aj,pr]
theorem sD (P:Program) (t:TypeId) (co:Bool) (d:Nat) (v:AV) (k:AV→Do→O R):rm P t co d v k=(rm P t co d v pr).bind fun q=>k q.1 q.2:=by
 unfold rm
 split<;>simp[Aj,pr]
theorem ow (P:Program) (d:Nat) (t:TypeId) (l c:AV) (k:AV→Do→O R):hY P d t l c k=(hY P d t l c pr).bind fun q=>k q.1 q.2:=by
 unfold hY
 split<;>simp[Abz,Aj,pr]
theorem jk (P:Program) (g:A6) (d:Nat) (t tx:TypeId) (s x:AV) (k:AV→Do→O R):GD P g d t tx s x k=(GD P g d t tx s x pr).bind fun q=>k q.1 q.2:=by
 unfold GD KL
 split<;>simp[Abz,Aj,pr,Sb]
theorem VH {α:Type} (b:IntKind):∀ (n:Nat) (c:LA) (f:LA→Option α) (k:α→O R),KN b n c (fun l=>(f l).bind k)=(KN b n c f).bind k
 | 0,_,_,_=>rfl
 | n+1,c,f,k=>by
  simp only[KN,Abz]
  congr 1;funext x;congr 1;funext v
  exact VH b n _ (fun l=>f (.int b v::l)) k
theorem mI (P:Program) (d sz b off n:Nat) (y:Blk) (new:LA×Nat×Bool) (k:AV→Do→O R):RN P d sz b off n y new k=(RN P d sz b off n y new pr).bind fun q=>k q.1 q.2:=by
 unfold RN
 split
 ·rw[Aj,←VH];rfl
 ·rfl
theorem oz (P:Program) (g:A6) (t:TypeId) (s x:AV) (k:AV→Do→O R):hZ P g t s x k=(hZ P g t s x pr).bind fun q=>k q.1 q.2:=by
 unfold hZ KL
 split
 ·simp only[Abz,Aj,Sb,←mI];rfl
 ·simp[Abz,Aj,pr,Sb]
 ·rfl
theorem jl (P:Program) (g:A6) (d:Nat) (t:TypeId) (k:AV→Do→O R):GC P g d t k=(GC P g d t pr).bind fun q=>k q.1 q.2:=by
 unfold GC
 split<;>simp[Aj,pr]
theorem mJ (P:Program) (g:A6) (t:TypeId) (s:AV) (k:AV→Do→O R):RO P g t s k=(RO P g t s pr).bind fun q=>k q.1 q.2:=by
 unfold RO
 split<;>simp[Abz,Aj,pr]
theorem pA (P:Program) (g:A6) (d:Nat) (src dst:TypeId) (x:AV) (k:AV→Do→O R):h_ P g d src dst x k=(h_ P g d src dst x pr).bind fun q=>k q.1 q.2:=by
 unfold h_
 split
 ·split<;>simp[Aj,pr]
 ·split
  ·split<;>simp[pr]
  ·split
   ·split<;>simp[Abz,pr]
   ·rfl
  ·rfl
 ·split
  ·rw[Aj,Abz];simp only[Aj];rfl
  ·rfl
  ·rfl
 ·rfl
theorem mK (P:Program) (g:A6) (d:Nat) (src dst:TypeId) (x:AV) (k:AV→Do→O R):RP P g d src dst x k=(RP P g d src dst x pr).bind fun q=>k q.1 q.2:=by
 unfold RP
 split
 ·split
  ·simp only[Abz,Aj];rfl
  ·rfl
 ·split
  ·simp only[Abz,Aj];rfl
  ·rfl
 ·exact pA ..
theorem X' (g:A6) (x:AV) (k:AV→Do→O R):Oq g x k=(Oq g x pr).bind fun q=>k q.1 q.2:=by
 unfold Oq
 split
 ·rfl
 ·simp only[Abz,Aj];rfl
 ·rfl
theorem YA (P:Program) (g:A6) (t:TypeId) (x n:AV) (k:AV→Do→O R):Ot P g t x n k=(Ot P g t x n pr).bind fun q=>k q.1 q.2:=by
 unfold Ot
 split
 ·rw[Aj];rfl
 ·simp only[Abz]
  congr 1;funext y;congr 1;funext q
  split
  ·simp only[Abz,Aj];rfl
  ·rfl
 ·rfl
theorem KY {R':Type} {f:R'→O R} {d:TypeId→LA→LA→(Bool→Option R')→Option R'} {s2:TypeId→LA→LA→(Bool→O R)→O R} (hs:∀ t x y k,(d t x y k).bind f=s2 t x y fun b=>(k b).bind f) {x y:LA} :
  ∀ (l:List (Nat×TypeId)) (k:Bool→Option R'),(Xa d x y l k).bind f=Xa s2 x y l fun b=>(k b).bind f
 | [],k=>rfl
 | (o,t)::r,k=>by
  rw[Xa,Xa,hs]
  congr 1;funext b
  exact KY hs r _
theorem GK {R':Type} {f:R'→O R} (P:Program):∀ (d:Nat) (t:TypeId) (x y:LA) (k:Bool→Option R'),(XY P d t x y k).bind f=XY P d t x y fun b=>(k b).bind f
 | 0,t,x,y,k=>rfl
 | d+1,t,x,y,k=>by
  rw[XY,XY]
  split<;>simp only[Abz,Aj,Aex]
  ·congr 1;funext sz;rw[KY (GK P d)]
  ·congr 1;funext s;congr 1;funext sz;rw[KY (GK P d)]
theorem pB (P:Program) (t:TypeId) (op:BinOp) (x y:AV) (k:AV→O R):hI P t op x y k=(hI P t op x y some).bind k:=by
 unfold hI
 split
 ·rw[Abz]
  congr 1;funext s
  rw[Aj]
  congr 1
  split
  ·rw[GK];rfl
  ·rw[GK];rfl
  ·rfl
 ·exact sC ..
theorem bE (P:Program) (g:A6) (t:TypeId) (op:BinOp) (x y:AV) (k:AV→O R):iC P g t op x y k=(iC P g t op x y some).bind k:=by
 unfold iC
 split
 ·rw[Aj];congr 1;split<;>rfl
 ·exact pB ..
theorem bF (c x y:AV) (k:AV→O R):iE c x y k=(iE c x y some).bind k:=by
 unfold iE
 split<;>first | rfl | (rw[Aj];rfl)
theorem mL (P:Program) (g:A6) (co:Bool) (d:Nat) (t:TypeId) (k:AV→Do→O R):RL P g co d t k=(RL P g co d t pr).bind fun q=>k q.1 q.2:=by
 unfold RL
 split
 ·rw[Abz];rfl
 ·exact iI ..
 ·rfl
theorem bG:∀ (T:List (Nat×Tw)) (f:Nat) (args:LA) (h:Ao) (k:AV→Ao→O R),MF T f args h k=(MF T f args h fun v h'=>some (v,h')).bind fun p=>k p.1 p.2
 | [],f,args,h,k=>rfl
 | (g,t)::r,f,args,h,k=>by
  rw[MF,MF]
  cases beq g f
  ·exact bG r f args h k
  ·exact t.eq args h k
theorem pC (E:Env) (g:A6) (d f:Nat) (args:LA) (k:AV→Do→O R):iD E g d f args k=(iD E g d f args pr).bind fun q=>k q.1 q.2:=by
 unfold iD
 rw[Abz]
 congr 1;funext q
 simp only[Aj,Aex]
 congr 1
 rw[bG,bG (R:=AV×Do),Abz]
 congr 1;funext p
 simp only[Aj,Aex,pr,Acn]
theorem f_ (d:Nat) (o:Option AV) (k:AV→Do→O R):Tq d o k=(Tq d o pr).bind fun q=>k q.1 q.2:=by
 unfold Tq
 split<;>rfl
theorem mM (P:Program) (g:A6) (t:TypeId) (m x y:AV) (k:AV→Do→O R):RQ P g t m x y k=(RQ P g t m x y pr).bind fun q=>k q.1 q.2:=by
 unfold RQ
 split<;>simp[Aj,Abz,pr]
theorem mN (P:Program) (d:Nat) (t:TypeId) (x:AV) (k:AV→Do→O R):RR P d t x k=(RR P d t x pr).bind fun q=>k q.1 q.2:=by
 unfold RR
 split<;>rfl
theorem pD (g:A6) (it:AV) (b:Bool) (k:AV→Do→O R):iB g it b k=(iB g it b pr).bind fun q=>k q.1 q.2:=by
 unfold iB
 split
 ·rw[Abz];congr 1;funext x
  rw[Aj];congr 1
  split
  ·rename_i s p _
   cases decide (p<(s.length:Int))<;>rfl
  ·rfl
 ·rfl
theorem bH (P:Program) (g:A6) (t:TypeId) (m x:AV) (c:Bool) (k:AV→O R):iA P g t m x c k=(iA P g t m x c some).bind k:=by
 unfold iA
 split<;>simp[Aj,Abz]
theorem sE (E:Env) (g:A6) (d:Nat) (v:Operand→AV) (o:Op) (k:AV→Do→O R):f3 E g d v o k=(f3 E g d v o pr).bind fun q=>k q.1 q.2:=by
 unfold f3
 split
 ·rfl
 ·rfl
 ·rw[bF,bF (k:=fun r=>pr r []),Abz];rfl
 ·rw[Aj,←jl,←mL]
 ·rw[VG,VG (k:=fun u=>l8 E.P g d _ u pr),Abz];congr 1;funext u;exact iI ..
 ·rw[KR,KR,Abz];congr 1;funext x;exact sD ..
 ·rw[Aj,←X_,←SD]
 ·rw[Ze,Ze (k:=fun r=>pr r []),Abz];rfl
 ·exact mH ..
 ·split<;>rfl
 ·rw[bE,bE (k:=fun r=>pr r []),Abz];rfl
 ·rw[Abz];rfl
 ·exact mK ..
 ·rw[Aj];rfl
 ·exact ow ..
 ·rw[VF,VF (k:=fun r=>pr r []),Abz];rfl
 ·rw[BN,BN (k:=fun r=>pr r []),Abz];rfl
 ·rw[VD,VD (k:=fun r=>pr r []),Abz];rfl
 ·rw[BM,BM (k:=fun r=>pr r []),Abz];rfl
 ·rw[VE,VE (k:=fun r=>pr r []),Abz];rfl
 ·exact f_ ..
 ·exact mM ..
 ·rw[bH,bH (k:=fun r=>pr r []),Abz];rfl
 ·exact mN ..
 ·exact pD ..
 ·split
  ·rw[Abz];rfl
  ·rfl
 ·split
  ·split
   ·rw[Abz];rfl
   ·rfl
  ·split
   ·exact jk ..
   ·rfl
  ·split
   ·exact oz ..
   ·rfl
  ·split
   ·exact mJ ..
   ·rfl
  ·split
   ·rw[Abz];rfl
   ·simp only[Abz];rfl
   ·rfl
  ·split
   ·rw[Abz];rfl
   ·simp only[Abz];rfl
   ·rfl
  ·split
   ·exact X' ..
   ·rfl
  ·split
   ·exact YA ..
   ·rfl
  ·split
   ·rw[Aj,←pC,Aj];congr 1;congr 1
    split<;>rfl
   ·rfl
  ·rfl
 ·rfl
end
end Gx
namespace Gx
open Go
theorem Xl:∀ {l d:List Nat} {b:Nat},b ∈ US l d↔b ∈ l∨b ∈ d
 | [],d,b=>by simp[US]
 | i::r,d,b=>by
  rw[US]
  cases j:Gm d i with
  | true =>
   simp only[cond_true]
   rw[Xl]
   have:=Is.1 j
   constructor
   ·rintro(h | h)
    ·exact .inl (by simp[h])
    ·exact .inr h
   ·rintro(h | h)
    ·rcases Ach.1 h with e | h
     ·subst e;exact .inr this
     ·exact .inl h
    ·exact .inr h
  | false =>
   simp only[cond_false]
   rw[Xl]
   simp only[Ach]
   constructor
   ·rintro(h | h | h)
    ·exact .inl (.inr h)
    ·exact .inl (.inl h)
    ·exact .inr h
   ·rintro((h | h) | h)
    ·exact .inr (.inl h)
    ·exact .inl h
    ·exact .inr (.inr h)
theorem Vb {g g':A6}:∀ {l:List Nat},(∀ b ∈ l,g' b=g b)→Iq g' l=Iq g l
 | [],_=>rfl
 | i::r,h=>by
  rw[Iq,Iq,h i (by simp),Vb (fun b d=>h b (by simp[d]))]
theorem MQ {g:A6}:∀ {a b:List Nat},Iq g (a++b)=Iq g a++Iq g b
 | [],b=>rfl
 | i::r,b=>by rw[Ada,Iq,Iq,MQ,Ads]
theorem mO {g g':A6} {ids:List Nat} (h:∀ b ∈ Tr g ids,g' b=g b):Tr g' ids=Tr g ids:=by
 have e:∀ b ∈ ids,g' b=g b:=fun b d=>h b (Xl.2 (.inl (Aca.2 (.inl d))))
 have e1:Iq g' ids=Iq g ids:=Vb e
 have i:∀ b ∈ Iq g ids,g' b=g b:=fun b d=>h b (Xl.2 (.inl (Aca.2 (.inr (by rw[MQ];exact Aca.2 (.inl d))))))
 unfold Tr
 rw[e1,Vb (l:=ids++Iq g ids) (fun b d=>by
  rcases Aca.1 d with d | d
  ·exact e b d
  ·exact i b d)]
section
variable {R:Type} {E:Env} {ops:Array Oper} {o p:Oper} {st wH st2:St}
theorem VI {v v':Operand→AV} {parts:Array (Nat×Operand)} (h:∀ q ∈ parts.toList,v' q.2=v q.2):(parts.toList.map fun q=>(q.1,v' q.2))=(parts.toList.map fun q=>(q.1,v q.2)) :=
 Aeq (fun q hq=>by rw[h q hq])
theorem pE {g:A6} {d:Nat} {v v':Operand→AV} {op:Op} {k:AV→Do→O R} (h:∀ x ∈ op.operands.toList,v' x=v x):f3 E g d v' op k=f3 E g d v op k:=by
  unfold f3
  cases op
  case build t parts =>
    simp only
    rw[VI (v:=v) (v':=v') (fun q hq=>h q.2 (by simp[Op.operands];exact⟨q.1,by simpa using hq⟩))]
  case buildSlice t n parts =>
    simp only
    rw[VI (v:=v) (v':=v') (fun q hq=>h q.2 (by simp[Op.operands];exact⟨q.1,by simpa using hq⟩))]
  case slice t x lo hi mx =>
    simp only
    have e:v' x=v x:=h x (by simp[Op.operands])
    have m:lo.map v'=lo.map v:=by
      cases lo with
      | none=>rfl
      | some y=>simp;exact h y (by simp[Op.operands])
    have s:hi.map v'=hi.map v:=by
      cases hi with
      | none=>rfl
      | some y=>simp;exact h y (by simp[Op.operands])
    have u:mx.map v'=mx.map v:=by
      cases mx with
      | none=>rfl
      | some y=>simp;exact h y (by simp[Op.operands])
    rw[e,m,s,u]
  case makeMap t rr =>
    simp only
    have e:rr.map v'=rr.map v:=by
      cases rr with
      | none=>rfl
      | some y=>simp;exact h y (by simp[Op.operands])
    rw[e]
  case makeFunc f first caps =>
    cases f<;>try rfl
    simp only
    have:(first.toList++caps.toList).map v'=(first.toList++caps.toList).map v:=Aeq (fun x j=>h x (by simp[Op.operands];simpa using j))
    rw[this]
  case call c =>
    have i:∀ x ∈ c.args.toList,v' x=v x:=fun x j=>h x (by
      simp only[Op.operands,Call.operands,Array.toList_append]
      exact Aca.2 (.inr j))
    have z:c.args.toList.map v'=c.args.toList.map v:=Aeq i
    simp only
    cases A:c.callee with
    | value f =>
      have C:v' f=v f:=h f (by simp[Op.operands,Call.operands,A])
      simp only[C,z]
    | invoke a b=>rfl
    | builtin b =>
      cases b<;>try rfl
      all_goals
        simp only
        split
        · first
            | (rename_i e m
               simp only[e,Ach,Afm,or_false,forall_eq_or_imp,forall_eq] at i
               simp only[i])
            | (rename_i e
               simp only[e,Ach,Afm,or_false,forall_eq_or_imp,forall_eq] at i
               simp only[i])
        all_goals first
          | rfl
          | (rename_i e
             simp only[e,Ach,Afm,or_false,forall_eq_or_imp,forall_eq] at i
             simp only[i])
  all_goals first
    | rfl
    | (simp[Op.operands] at h;simp[h])
end
end Gx
namespace Gx
open Go
section
variable {R:Type} {E:Env} {ops:Array Oper} {o p:Oper} {st wH st2 st3:St}
def qx (ops:Array Oper) (o:Oper):List Nat:=match GE ops o with | some p=>[p.1] | none=>[]
def Wm (o:Oper) (s:Fe):LA:=o.op.operands.toList.map (ev s)
def jm (h:Ao) (F:List Nat):A6:=fun b=>cond (Gm F b) (Ag h b) none
def Aau (o:Oper):Nat:=o.dst.getD 50000
def Oe (E:Env) (ops:Array Oper) (o:Oper) (st:St):Option (AV×Do×Foot) :=
  (Y3 ops st.s o).bind fun wanted=>cond wanted
    ((f3 E (jm st.h (Rj st.h o.op (Wm o st.s))) (Aau o) (ev st.s) o.op pr).bind fun q =>
      cond (IG (Aau o) (Rj st.h o.op (Wm o st.s)) st.h q.2) (some (q.1,q.2,{ r:=qx ops o++KP o.op.operands.toList,w:=o.dst,f:=Rj st.h o.op (Wm o st.s),u:=q.2.map (·.1) })) none)
    (some (.tup [],[],{ r:=qx ops o,w:=o.dst,f:=[],u:=[] }))
def after (E:Env) (o:Oper) (st:St) (q:AV×Do×Foot):St:={ s:=o8 E.nt st.s o.dst q.1,h:=Ah q.2.1 st.h }
theorem GL (k:St→Foot→O R):ld E ops o st k=(Oe E ops o st).bind fun q=>k (after E o st q) q.2.2:=by
 unfold ld Oe
 rw[Abz]
 congr 1;funext t
 rw[Aj]
 congr 1
 rw[sE,Abz]
 congr 1;funext q
 rw[Aj]
 rfl
theorem bI:∀ {l:List Operand} {t:Nat},Operand.tmp t ∈ l→t ∈ KP l
 | [],t,h=>by simp at h
 | x::r,t,h=>by
  rcases Ach.1 h with e | h'
  ·subst e;simp[KP]
  ·have b:=bI h'
   cases x<;>simp[KP]<;>first | exact .inr b | exact b
theorem VJ {d:Nat} {F:List Nat} {h e:Ao}:∀ {ups:Do},(∀ b ∈ ups.map (·.1),Ag e b=Ag h b)→IG d F e ups=IG d F h ups
 | [],_=>rfl
 | (b,_)::r,i=>by rw[IG,IG,i b (by simp),VJ (fun c j=>i c (by simp at j ⊢;exact .inr j))]
theorem IN {s s2:Fe} (h:∀ t ∈ qx ops o,Et s2 t=Et s t):Y3 ops s2 o=Y3 ops s o:=by
 unfold Y3
 cases b:o.guard with
 | none=>rfl
 | some q =>
  obtain⟨j,want⟩:=q
  simp only
  cases d:(ops[j]?).bind (·.dst) with
  | none=>rfl
  | some t =>
   have:Et s2 t=Et s t:=h t (by simp[qx,GE,b,d])
   simp only[this]
theorem DI {q:AV×Do×Foot} (m:Oe E ops o st=some q) (hr:∀ t ∈ q.2.2.r,Et st2.s t=Et st.s t) (d:∀ b,b ∈ q.2.2.f∨b ∈ q.2.2.u→Ag st2.h b=Ag st.h b):Oe E ops o st2=some q:=by
 have D:=m
 unfold Oe at m
 obtain⟨t,j,k⟩:=ub m
 cases t with
 | false =>
  simp at k;subst k
  unfold Oe
  rw[IN (s:=st.s) hr,j];rfl
 | true =>
  rw[cond_true] at k
  obtain⟨x,F,G⟩:=ub k
  obtain⟨I,A⟩:=uc G
  simp at A;subst A
  simp only at hr d
  have C:∀ y ∈ o.op.operands.toList,ev st2.s y=ev st.s y:=fun y K=>by
   cases y with
   | tmp t=>exact hr t (Aca.2 (.inr (bI K)))
   | const _=>rfl
   | global _=>rfl
   | func _=>rfl
  have e:Wm o st2.s=Wm o st.s:=Aeq C
  have hF:Rj st2.h o.op (Wm o st.s)=Rj st.h o.op (Wm o st.s):=by
   unfold Rj at d ⊢
   cases v:qp o.op with
   | true =>
    rw[v] at d
    cases z:qq o.op with
    | true=>rfl
    | false=>rw[z] at d;exact mO (fun b i=>d b (.inl i))
   | false=>rfl
  have L:jm st2.h (Rj st.h o.op (Wm o st.s))=jm st.h (Rj st.h o.op (Wm o st.s)):=by
   funext b
   unfold jm
   cases i:Gm (Rj st.h o.op (Wm o st.s)) b with
   | false=>rfl
   | true=>simp only[cond_true];exact d b (.inl (Is.1 i))
  unfold Oe
  rw[IN (s:=st.s) (fun t j=>hr t (Aca.2 (.inl j))),j]
  simp only[Acn,cond_true]
  rw[e,hF,L,pE C,F]
  simp only[Acn]
  rw[VJ (h:=st.h) (fun b i=>d b (.inr i)),I]
  rfl
theorem GM:∀ {ups:Do} {b:Nat},A3 ups b=true↔b ∈ ups.map (·.1)
 | [],b=>by simp[A3]
 | (i,_)::r,b=>by
  rw[A3]
  cases hi:beq i b with
  | true=>have:=Ab5 hi;subst this;simp
  | false =>
   have ne:=Rt hi
   simp only[cond_false]
   rw[GM]
   simp only[Acc,Ach]
   constructor
   ·exact fun h=>.inr h
   ·rintro(h | h)
    ·exact absurd h.symm ne
    ·exact h
theorem qy {q:AV×Do×Foot} (d:Oe E ops o st=some q):q.2.2.w=o.dst∧q.2.2.u=q.2.1.map (·.1):=by
 unfold Oe at d
 obtain⟨t,j,b⟩:=ub d
 cases t with
 | false=>simp at b;subst b;simp
 | true =>
  rw[cond_true] at b
  obtain⟨x,k,i⟩:=ub b
  obtain⟨m,e⟩:=uc i
  simp at e;subst e;simp
theorem Fg:∀ (ups:Do) {h e:Ao},(∀ b,Ag e b=Ag h b)→∀ b,Ag (Ah ups e) b=Ag (Ah ups h) b
 | [],_,_,d,b=>d b
 | (i,some x)::r,h,e,d,b=>Fg r (fun c=>by rw[Ac,Ac,d c]) b
 | (i,none)::r,h,e,d,b=>by
  rw[Ah,Ah]
  refine Fg r (fun c=>?_) b
  rw[d i]
  split
  ·rw[Ac,Ac,d c]
  ·exact d c
theorem mP {q:AV×Do×Foot} (h:Eqv st st2):Eqv (after E o st q) (after E o st2 q):=by
 refine⟨fun t=>?_,fun b=>?_⟩
 ·unfold after;simp only;rw[Ko,Ko,h.1 t]
 ·exact(Fg q.2.1 (fun b=>(h.2 b).symm) b).symm
theorem Ni {i:Nat} {y:Blk}:∀ (ups:Do) {h:Ao},A3 ups i=false→∀ b,Ag (Ah ups (Dd h i y)) b=if b=i then some y else Ag (Ah ups h) b
 | [],h,_,b=>Ac h i y b
 | (j,some x)::r,h,hi,b=>by
  rw[A3] at hi
  cases d:beq j i with
  | true=>rw[d] at hi;simp at hi
  | false =>
   rw[d] at hi
   have ne:=Rt d
   rw[Ah,Ah,Fg r (h:=Dd (Dd h j x) i y) (fun c=>by
    rw[Ac,Ac,Ac,Ac]
    by_cases e1:c=j
    ·subst e1;simp[ne]
    ·simp[e1]) b]
   exact Ni r hi b
 | (j,none)::r,h,hi,b=>by
  rw[A3] at hi
  cases d:beq j i with
  | true=>rw[d] at hi;simp at hi
  | false =>
   rw[d] at hi
   have ne:=Rt d
   rw[Ah,Ah,Ac,if_neg ne]
   split
   ·rename_i x e
    rw[Fg r (h:=Dd (Dd h j { x with dead:=true,pure:=true,cells:=[] }) i y) (fun c=>by
     rw[Ac,Ac,Ac,Ac]
     by_cases e1:c=j
     ·subst e1;simp[ne]
     ·simp[e1]) b]
    exact Ni r hi b
   ·exact Ni r hi b
theorem Pu:∀ (u1 u2:Do) (h:Ao),(∀ b,A3 u1 b=true→A3 u2 b=false)→∀ b,Ag (Ah u2 (Ah u1 h)) b=Ag (Ah u1 (Ah u2 h)) b
 | [],u2,h,_,b=>rfl
 | (i,some x)::r,u2,h,d,b=>by
  rw[Ah,Ah]
  have hi:A3 u2 i=false:=d i (by simp[A3])
  rw[Pu r u2 (Dd h i x) (fun c e=>d c (by rw[A3,e];cases beq i c<;>rfl)) b]
  refine Fg r (fun c=>?_) b
  rw[Ni u2 hi,Ac]
 | (i,none)::r,u2,h,d,b=>by
  rw[Ah,Ah]
  have hi:A3 u2 i=false:=d i (by simp[A3])
  rw[B3 u2 h i hi]
  split
  ·rename_i x j
   rw[Pu r u2 _ (fun c e=>d c (by rw[A3,e];cases beq i c<;>rfl)) b]
   refine Fg r (fun c=>?_) b
   rw[Ni u2 hi,Ac]
  ·exact Pu r u2 h (fun c e=>d c (by rw[A3,e];cases beq i c<;>rfl)) b
theorem bJ:∀ {a l:List Nat},lc a l=true→∀ b ∈ a,b ∉ l
 | [],l,_,b,d=>by simp at d
 | i::r,l,h,b,d=>by
  rw[lc] at h;simp at h
  rcases Ach.1 d with e | d
  ·subst e;intro j;rw[Is.2 j] at h;simp at h
  ·exact bJ h.2 b d
theorem bK {q:AV×Do×Foot} {t:Nat} (h:o.dst≠some t):Et (after E o st q).s t=Et st.s t:=by
 unfold after;simp only;rw[Ko,if_neg (fun b=>h b.1)]
theorem bL {q:AV×Do×Foot} {b:Nat} (h:b ∉ q.2.1.map (·.1)):Ag (after E o st q).h b=Ag st.h b:=by
 unfold after;simp only
 rw[B3]
 cases hi:A3 q.2.1 b with
 | false=>rfl
 | true=>exact absurd (GM.1 hi) h
theorem iJ {w:Option Nat} {l:List Nat} (h:zK w l=false):∀ t ∈ l,w≠some t:=by
 intro t b e
 subst e
 rw[zK,Is.2 b] at h;cases h
theorem zU {i d:AV×Do×Foot} (s:Oe E ops p st=some i) (v:Oe E ops o (after E p st i)=some d) (hi:UT i.2.2 d.2.2=true) :
  Oe E ops o st=some d∧Oe E ops p (after E o st d)=some i∧Eqv (after E p (after E o st d) i) (after E o (after E p st i) d):=by
 unfold UT at hi
 simp only[Ab6,Afc] at hi
 obtain⟨⟨⟨⟨i1,i2⟩,i3⟩,i4⟩,i5⟩:=hi
 obtain⟨y,u1⟩:=qy s
 obtain⟨z,u2⟩:=qy v
 have m:=bJ i4
 have A:=bJ i5
 have a1:Oe E ops o st=some d:=DI v (fun t q=>(bK (by rw[←y];exact iJ i1 t q)).symm) (fun b e=>(bL (fun k=>by
  rw[←u1] at k
  exact m b k (by rcases e with e | e<;>simp[e]))).symm)
 have a2:Oe E ops p (after E o st d)=some i:=DI s (fun t q=>bK (by rw[←z];exact iJ i2 t q)) (fun b e=>bL (fun k=>by
  rw[←u2] at k
  rcases e with e | e
  ·exact A b k e
  ·exact m b e (by simp[k])))
 refine⟨a1,a2,fun t=>?_,fun b=>?_⟩
 ·unfold after;simp only
  rw[Ko,Ko,Ko,Ko]
  by_cases e1:p.dst=some t∧t<E.nt
  ·by_cases j:o.dst=some t∧t<E.nt
   ·exfalso
    rw[y,z,e1.1,j.1] at i3
    simp at i3
   ·rw[if_pos e1,if_neg j,if_pos e1]
  ·by_cases j:o.dst=some t∧t<E.nt
   ·rw[if_neg e1,if_pos j,if_pos j]
   ·rw[if_neg e1,if_neg j,if_neg j,if_neg e1]
 ·unfold after;simp only
  refine(Pu i.2.1 d.2.1 st.h (fun c C=>?_) b).symm
  cases D:A3 d.2.1 c with
  | false=>rfl
  | true =>
   have m1:c ∈ i.2.2.u:=by rw[u1];exact GM.1 C
   have m2:c ∈ d.2.2.u:=by rw[u2];exact GM.1 D
   exact absurd (by simp[m2]) (m c m1)
def RunF (E:Env) (ops:Array Oper) (fp:Nat→Foot):List (Nat×Oper)→St→St→Prop
 | [],st,e=>Eqv st e
 | (i,o)::r,st,e=>∃ q,Oe E ops o st=some q∧q.2.2=fp i∧RunF E ops fp r (after E o st q) e
theorem RunF.congr {fp:Nat→Foot}:∀ {l:List (Nat×Oper)} {st st2 e:St},RunF E ops fp l st e→Eqv st st2→RunF E ops fp l st2 e
 | [],st,st2,e,h,d=>d.symm.trans h
 | (i,o)::r,st,st2,e,h,d=>by
  rw[RunF] at h ⊢
  obtain⟨q,j,k,m⟩:=h
  exact⟨q,DI j (fun t _=>(d.1 t).symm) (fun b _=>(d.2 b).symm),k,RunF.congr m (mP d)⟩
theorem RunF.pull {fp:Nat→Foot} {i:Nat} {o:Oper} {B:List (Nat×Oper)}:∀ {A:List (Nat×Oper)} {st e:St},RunF E ops fp (A++(i,o)::B) st e→(∀ jp ∈ A,UT (fp jp.1) (fp i)=true) →
  ∃ q,Oe E ops o st=some q∧q.2.2=fp i∧RunF E ops fp (A++B) (after E o st q) e
 | [],st,e,h,_=>h
 | (j,p)::A,st,e,h,hA=>by
  rw[Ada,RunF] at h
  obtain⟨b,s,d,u⟩:=h
  obtain⟨k,v,m,y⟩:=RunF.pull u (fun jp z=>hA jp (by simp[z]))
  have hi:UT b.2.2 k.2.2=true:=by rw[d,m];exact hA (j,p) (by simp)
  obtain⟨a1,a2,a3⟩:=zU s v hi
  refine⟨k,a1,m,?_⟩
  rw[Ada,RunF]
  exact⟨b,a2,d,RunF.congr y a3.symm⟩
end
end Gx
namespace Gx
open Go
def HO:Nat→List Oper→List (Nat×Oper)
 | _,[]=>[]
 | n,o::r=>(n,o)::HO (n+1) r
theorem ZZ:∀ {l:List Oper} {n:Nat} {p:Nat×Oper},p ∈ HO n l↔n≤p.1∧l[p.1 - n]?=some p.2
 | [],n,p=>by simp[HO]
 | o::r,n,p=>by
  rw[HO,Ach,ZZ]
  constructor
  ·rintro(rfl | ⟨i,d⟩)
   ·simp
   ·refine⟨by omega,?_⟩
    rw[show p.1 - n=(p.1 - (n+1))+1 by omega];simpa using d
  ·rintro⟨i,d⟩
   by_cases e:p.1=n
   ·left
    rw[e] at d;simp at d
    obtain⟨a,b⟩:=p
    simp at e d;subst e d;rfl
   ·right
    refine⟨by omega,?_⟩
    rw[show p.1 - n=(p.1 - (n+1))+1 by omega] at d;simpa using d
theorem bM:∀ (l:List Oper) (n:Nat),(HO n l).Pairwise (fun a b=>a.1<b.1)
 | [],n=>List.Pairwise.nil
 | o::r,n=>by
  rw[HO]
  refine Ae6.2 ⟨fun p d=>?_,bM r (n+1)⟩
  have:=(ZZ.1 d).1
  show n<p.1;omega
section
variable {R:Type} {r:R} {Z:Start} {E:Env} {ops:Array Oper}
def RunL (E:Env) (ops:Array Oper):List Oper→List Foot→St→St→Prop
 | [],[],st,e=>st=e
 | o::l,f::fs,st,e=>∃ st' q,Eqv st st'∧Oe E ops o st'=some q∧q.2.2=f∧RunL E ops l fs (after E o st' q) e
 | _,_,_,_=>False
theorem mQ:∀ {l:List Oper} {st:St} {tr:List Foot} {k:St→List Foot→O R},aM E ops l st tr k=some r→∃ fs e,k e (fs.reverse++tr)=some r∧RunL E ops l fs st e
 | [],st,tr,k,h=>⟨[],st,by simpa[aM] using h,rfl⟩
 | o::l,st,tr,k,h=>by
  rw[aM] at h
  obtain⟨st',b,h⟩:=bA h
  rw[GL] at h
  obtain⟨q,d,i⟩:=ub h
  obtain⟨fs,e,j,m⟩:=mQ i
  exact⟨q.2.2::fs,e,by simpa using j,st',q,b,d,rfl,m⟩
theorem RunL.length:∀ {l:List Oper} {fs:List Foot} {st e:St},RunL E ops l fs st e→fs.length=l.length
 | [],[],_,_,_=>rfl
 | [],_::_,_,_,h=>h.elim
 | _::_,[],_,_,h=>h.elim
 | o::l,f::fs,st,e,⟨_,q,_,_,_,h⟩=>by simp[RunL.length h]
theorem RunL.runF {fp:Nat→Foot}:∀ {l:List Oper} {fs:List Foot} {n:Nat} {st e:St},RunL E ops l fs st e→(∀ (j:Nat) (f:Foot),fs[j]?=some f→fp (n+j)=f)→RunF E ops fp (HO n l) st e
 | [],[],n,st,e,h,_=>by subst h;exact Eqv.refl _
 | [],_::_,_,_,_,h,_=>h.elim
 | _::_,[],_,_,_,h,_=>h.elim
 | o::l,f::fs,n,st,e,⟨st',q,d,i,k,m⟩,b=>by
  rw[HO]
  refine RunF.congr ?_ d.symm
  rw[RunF]
  refine⟨q,i,by rw[k];exact(b 0 f (by simp)).symm,RunL.runF m (fun j g s=>?_)⟩
  have:=b (j+1) g (by simpa using s)
  rwa [show n+(j+1)=n+1+j by omega] at this
theorem VK {f:Foot} {anc:List Nat}:∀ {seen:List Foot} {i:Nat},MH f anc i seen=true→∀ (j:Nat) (g:Foot),seen[j]?=some g→(i+j) ∈ anc∨UT g f=true
 | [],i,_,j,g,b=>by simp at b
 | x::r,i,h,j,g,b=>by
  rw[MH] at h;simp only[Ab6,Bool.or_eq_true] at h
  cases j with
  | zero =>
   simp at b;subst b
   rcases h.1 with d | d
   ·exact .inl (Is.1 d)
   ·exact .inr d
  | succ j =>
   have:=VK h.2 j g (by simpa using b)
   rwa [show i+1+j=i+(j+1) by omega] at this
theorem bO:∀ {fs:List Foot} {az9:List (List Nat)} {seen:List Foot},GF fs az9 seen=true→∀ (i:Nat) (f:Foot),fs[i]?=some f →
  ∃ a,az9[i]?=some a∧∀ (j:Nat) (g:Foot),(seen++fs)[j]?=some g→j<seen.length+i→j ∈ a∨UT g f=true
 | [],az9,seen,_,i,f,b=>by simp at b
 | x::r,[],seen,h,i,f,b=>by simp[GF] at h
 | x::r,a::az9,seen,h,i,f,b=>by
  rw[GF] at h;simp only[Ab6] at h
  cases i with
  | zero =>
   simp at b;subst b
   refine⟨a,by simp,fun j g d e=>?_⟩
   rw[Acr,if_pos (by omega)] at d
   simpa using VK h.1 j g d
  | succ i =>
   obtain⟨k,m,q⟩:=bO h.2 i f (by simpa using b)
   refine⟨k,by simpa using m,fun j g d e=>q j g ?_ (by simp;omega)⟩
   simpa using d
theorem Wn:∀ {l:List Oper} {b:List (List Nat)} {i:Nat},i<b.length→(E7 l b)[i]?=b[i]?
 | [],b,i,_=>rfl
 | o::r,b,i,hi=>by
  rw[E7,Xg,Wn (by simp;omega),Acr,if_pos hi]
theorem Zf:∀ {l:List Oper} {b:List (List Nat)} {i:Nat} {a:List Nat},(E7 l b)[i]?=some a→b.length≤i→∃ o,l[i - b.length]?=some o ∧
  ∀ k ∈ a,k ∈ Y4 o∨∃ j q,j ∈ Y4 o∧j<i∧(E7 l b)[j]?=some q∧k ∈ q
 | [],b,i,a,h,hi=>by
  rw[E7,Adu hi] at h;cases h
 | o::r,b,i,a,h,hi=>by
  by_cases e:i=b.length
  ·subst e
   rw[E7,Xg,Wn (by simp)] at h
   simp only[List.getElem?_concat_length,Ac0] at h
   refine⟨o,by simp,fun k d=>?_⟩
   rw[←h,Xl] at d
   replace d:=d.resolve_right (by simp)
   rcases Aca.1 d with d | d
   ·exact .inl d
   ·right
    obtain⟨j,v,d⟩:=List.mem_flatMap.1 d
    cases s:b[j]? with
    | none=>rw[s] at d;simp at d
    | some q =>
     rw[s] at d;simp at d
     have m:j<b.length:=(Ab7.1 s).1
     exact⟨j,q,v,m,by rw[Wn m];exact s,d⟩
  ·rw[E7,Xg] at h
   obtain⟨o',u,y⟩:=Zf h (by simp;omega)
   refine⟨o',?_,fun k d=>?_⟩
   ·simp at u
    rw[show i - b.length=(i - (b.length+1))+1 by omega];simpa using u
   ·rw[E7,Xg];exact y k d
theorem MR:∀ {l:List Oper} {n i:Nat} {o:Oper},Ti n l=true→l[i]?=some o→∀ e ∈ o.after,DA e=true→e.on<n+i
 | [],n,i,o,_,hi,_,_,_=>by simp at hi
 | x::r,n,i,o,h,hi,e,b,d=>by
  rw[Ti] at h;simp only[Ab6] at h
  cases i with
  | zero =>
   simp at hi;subst hi
   have:=Aey.1 h.1 e (by simpa using b)
   rw[d] at this;simpa using this
  | succ i =>
   have:=MR h.2 (by simpa using hi) e b d
   omega
theorem iK (e:Edge):Region.binds .any e=DA e:=by
 unfold Region.binds DA
 cases e.ground<;>rfl
theorem pF {listed:Array Bool} (hclosed:∀ (j:Nat) (o:Oper),ops[j]?=some o→listed.getD j true=true→∀ k ∈ Y4 o,listed.getD k false=true) :
  ∀ (i:Nat) (a:List Nat) (o:Oper),(E7 ops.toList [])[i]?=some a→ops[i]?=some o→(∀ k ∈ Y4 o,listed.getD k false=true)→∀ k ∈ a,listed.getD k false=true:=by
 intro i
 induction i using Nat.strongRecOn with
 | _ i z =>
  intro a o A C u k D
  obtain⟨o',m,F⟩:=Zf A (by simp)
  simp at m
  rw[C] at m;simp at m;subst m
  rcases F k D with q | ⟨j,G,q,I,v,K⟩
  ·exact u k q
  ·have d:=u j q
   obtain⟨oj,e,_⟩:=Zf v (by simp)
   simp at e
   have s:listed.getD j true=true:=by
    rw[Adz] at d ⊢
    cases y:listed[j]? with
    | none=>rw[y] at d;simp at d
    | some b=>rw[y] at d;simpa using d
   exact z j I G oj v e (hclosed j oj e s) k K
def Oy (ops:Array Oper) (listed:Array Bool):List (Nat×Oper):=(HO 0 ops.toList).filter fun p=>!listed.getD p.1 true
theorem DJ (listed:Array Bool):(Oy ops listed).Pairwise (fun a b=>a.1<b.1):=(bM _ _).filter _
theorem Xm {listed:Array Bool} {p:Nat×Oper}:p ∈ Oy ops listed↔ops[p.1]?=some p.2∧listed.getD p.1 true=false:=by
 unfold Oy
 rw[Ad3,ZZ]
 simp
theorem mR {listed:Array Bool} {i:Nat} {o:Oper} {A B:List (Nat×Oper)} (h:Oy ops listed=A++(i,o)::B):Oy ops (listed.setIfInBounds i true)=A++B:=by
 have hi:(i,o) ∈ Oy ops listed:=by rw[h];simp
 have b:=(Xm.1 hi).2
 have j:i<listed.size:=by
  rw[Adz] at b
  rcases Ae5 i listed.size with k | k
  ·exact k
  ·rw[Acq k] at b;simp at b
 have q:Oy ops (listed.setIfInBounds i true)=(Oy ops listed).filter fun p=>!beq p.1 i:=by
  unfold Oy
  rw[List.filter_filter]
  congr 1;funext p
  by_cases e:p.1=i
  ·rw[e];simp[j]
  ·rw[getD_set_ne true (fun s=>e s.symm),CN e];simp
 rw[q,h,List.filter_append,Adn]
 have hs:=DJ (ops:=ops) listed
 rw[h] at hs
 have d:=Af3.1 hs
 have hB:=Ae6.1 d.2.1
 have e1:A.filter (fun p=>!beq p.1 i)=A:=Aes.2 (fun p m=>by
  have:p.1<i:=d.2.2 p m (i,o) (by simp)
  rw[CN (by omega)];rfl)
 have u:B.filter (fun p=>!beq p.1 i)=B:=Aes.2 (fun p m=>by
  have:i<p.1:=hB.1 p m
  rw[CN (by omega)];rfl)
 rw[e1,u];simp
theorem sF (hC:KT E) {Q:Exit→Act→World→Prop} {fp:Nat→Foot} {e:St} (hfw:Ti 0 ops.toList=true)
  (M:∀ (i j:Nat) (o:Oper),ops[i]?=some o→j<i→∃ a,(E7 ops.toList [])[i]?=some a∧(j ∈ a∨UT (fp j) (fp i)=true))
  (hQ:∀ a' w' J' β',Inv Z E.nt J' β' e a' w'→Q .normal a' w') :
  ∀ (fuel:Nat) (listed:Array Bool) {st:St} {a:Act} {w:World} {J:Bool→Nat→Prop} {β:Bu},listed.size=ops.size→(Oy ops listed).length=fuel →
   (∀ (j:Nat) (o:Oper),ops[j]?=some o→listed.getD j true=true→∀ k ∈ Y4 o,listed.getD k false=true) →
   RunF E ops fp (Oy ops listed) st e→Inv Z E.nt J β st a w→wpAny E.P .any ops Q fuel listed a w:=by
 intro fuel
 have fin:∀ (listed:Array Bool) {st:St} {a:Act} {w:World} {J:Bool→Nat→Prop} {β:Bu},Oy ops listed=[]→RunF E ops fp (Oy ops listed) st e→Inv Z E.nt J β st a w→Region.ready .any ops listed=[]∧Q .normal a w:=by
  intro listed st a w J β hr d I
  refine⟨List.eq_nil_iff_forall_not_mem.2 (fun i hi=>?_),?_⟩
  ·obtain⟨O,o,y,_⟩:=mem_ready.1 hi
   have:(i,o) ∈ Oy ops listed:=Xm.2 ⟨y,O⟩
   rw[hr] at this;simp at this
  ·rw[hr,RunF] at d
   exact hQ _ _ J β (I.eqv d)
 induction fuel with
 | zero =>
  intro listed st a w J β _ m _ d I
  exact fin listed (Afk.1 m) d I
 | succ fuel ih =>
  intro listed st a w J β S m hclosed d I
  refine⟨fun T=>?_,fun i hi=>?_⟩
  ·
   cases u:Oy ops listed with
   | nil=>rw[u] at m;simp at m
   | cons p r =>
    exfalso
    have hp:p ∈ Oy ops listed:=by rw[u];simp
    obtain⟨v,hl⟩:=Xm.1 hp
    have hs:=DJ (ops:=ops) listed
    rw[u] at hs
    have U:=(Ae6.1 hs).1
    have:p.1 ∈ Region.ready .any ops listed:=mem_ready.2 ⟨hl,p.2,v,fun D G hb=>by
     rw[iK] at hb
     have z:=MR hfw (i:=p.1) (o:=p.2) (by simpa using v) D G hb
     simp at z
     have V:D.on<ops.size:=by have:=(Ac3.1 v).1;omega
     cases L:listed.getD D.on true with
     | true =>
      rw[Adz] at L ⊢
      rw[Array.getElem?_eq_getElem (by omega)] at L ⊢
      simpa using L
     | false =>
      have hm:(D.on,ops[D.on]) ∈ Oy ops listed:=Xm.2 ⟨by simp[V],L⟩
      rw[u] at hm
      rcases Ach.1 hm with e1 | e1
      ·have:D.on=p.1:=by rw[←e1]
       omega
      ·have:=U _ e1
       simp at this;omega⟩
    rw[T] at this;simp at this
  ·obtain⟨hl,o,v,X⟩:=mem_ready.1 hi
   have Y:(i,o) ∈ Oy ops listed:=Xm.2 ⟨v,hl⟩
   obtain⟨A,B,hAB⟩:=List.append_of_mem Y
   have F:∀ k ∈ Y4 o,listed.getD k false=true:=by
    intro k hk
    unfold Y4 at hk
    obtain⟨D,G,rfl⟩:=Acs.1 hk
    obtain⟨O,y⟩:=Ad3.1 G
    exact X D (by simpa using O) (by rw[iK];exact y)
   have hs:=DJ (ops:=ops) listed
   rw[hAB] at hs
   have hs':=Af3.1 hs
   rw[hAB] at d
   obtain⟨q,g1,g2,g3⟩:=d.pull (fun jp hjp=>by
    have z:jp.1<i:=hs'.2.2 jp hjp (i,o) (by simp)
    obtain⟨an,O,y⟩:=M i jp.1 o v z
    rcases y with y | y
    ·exfalso
     have:=pF hclosed i an o O v F jp.1 y
     have hjm:jp ∈ Oy ops listed:=by rw[hAB];simp[hjp]
     have h3:=(Xm.1 hjm).2
     rw[Adz] at this h3
     cases L:listed[jp.1]? with
     | none=>rw[L] at this;simp at this
     | some b=>rw[L] at this h3;simp at this h3;rw[this] at h3;cases h3
    ·exact y)
   have hone:ld E ops o st (fun s f=>some (s,f))=some (after E o st q,q.2.2):=by rw[GL,g1];rfl
   obtain⟨st',f,h4,h5⟩:=a_ (K:=wpAny E.P .any ops Q fuel (listed.setIfInBounds i true)) (Q:=Q) hC I hone
   simp only[Ac0,Af9] at h4
   obtain⟨rfl,rfl⟩:=h4
   have z:i<listed.size:=by rw[S];exact(Ac3.1 v).1
   have:=h5 (fun a' w' J' β' I'=>ih (listed.setIfInBounds i true) (by simp[S]) (by
     rw[mR hAB];rw[hAB] at m;simp at m ⊢;omega) (fun j oj C hj k hk=>?_) (by rw[mR hAB];exact g3) I')
   ·unfold wpOp
    rw[v]
    simp only
    split
    ·rename_i hw;rw[if_pos hw] at this;exact .inl this
    ·rename_i hw;rw[if_neg hw] at this;exact this
   ·by_cases e1:j=i
    ·subst e1
     rw[v] at C;simp at C;subst C
     exact getD_set_true (F k hk)
    ·rw[getD_set_ne true (fun e'=>e1 e'.symm)] at hj
     exact getD_set_true (hclosed j oj C hj k hk)
end
end Gx
namespace Gx
open Go
section
variable {R:Type} {r:R} {Z:Start} {E:Env}
theorem fa (hC:KT E) (U:E.P.follows .mixedOrders=true) {roots:List Nat} {id:Nat} {ops:Array Oper} {draw:Bool} {st:St} {k:St→O R} {a:Act} {w:World} {J:Bool→Nat→Prop} {β:Bu} {Q:Exit→Act→World→Prop}
  (I:Inv Z E.nt J β st a w) (G:Y5 E roots ops draw st k=some r) (hQ:∀ st' m w' J' β',Inv Z E.nt J' β' st' m w'→k st'=some r→Q .normal m w'):(Code.region id ops draw).wp E.P Q a w:=by
 unfold Y5 at G
 have done:∀ {st':St} {tr:List Foot} {m:Act} {w':World} {J':Bool→Nat→Prop} {β':Bu},Inv Z E.nt J' β' st' m w' →
   cond (!draw||(Ti 0 ops.toList&&GF tr.reverse (E7 ops.toList []) [])) ((clean (st'.s.map (·.1)) roots st').bind k) none=some r→Q .normal m w':=by
  intro st' tr m w' J' β' I' h'
  obtain⟨_,D⟩:=uc h'
  obtain⟨st2,F,S⟩:=ub D
  obtain⟨β2,I2⟩:=mG I' F
  exact hQ _ _ _ _ _ I2 S
 cases draw with
 | false=>exact wp_region_list (bB hC _ I G (fun st' V m w' J' β' I' h'=>done I' h'))
 | true =>
  obtain⟨fs,e,D,F⟩:=mQ G
  obtain⟨T,S⟩:=uc D
  simp at T
  obtain⟨K,y⟩:=T
  have z:=F.length
  refine wp_region_any U ?_
  have I':Inv Z E.nt J β st a w.drew:=I.step (Step.drew I.sim) (fun b x X hn=>by rw[X] at hn;cases hn)
  have d:Oy ops (Array.replicate ops.size false)=HO 0 ops.toList:=by
   unfold Oy
   refine Aes.2 (fun p Y=>?_)
   have:=(ZZ.1 Y).2
   have q:p.1<ops.size:=by
    simp at this
    exact(Ac3.1 this).1
   simp[q]
  have A:(HO 0 ops.toList).length=ops.size:=by
   have:∀ (l:List Oper) (n:Nat),(HO n l).length=l.length:=by
    intro l
    induction l with
    | nil=>intro n;rfl
    | cons o r ih=>intro n;simp[HO,ih]
   rw[this];simp
  have C:RunF E ops (fun i=>fs.getD i { r:=[],w:=none,f:=[],u:=[] }) (HO 0 ops.toList) st e:=F.runF (fun j f v=>by simp[v])
  refine sF hC (fp:=fun i=>fs.getD i { r:=[],w:=none,f:=[],u:=[] }) (e:=e) K (fun i j o L M=>?_) (fun m w' J' β' Ie=>done (tr:=fs.reverse++[]) Ie D) ops.size _ (by simp) (by rw[d,A]) (fun j o L v=>?_) (by rw[d];exact C) I'
  ·have hi:i<fs.length:=by rw[z];simpa using(Ac3.1 L).1
   obtain⟨an,g1,g2⟩:=bO y i fs[i] (Ab1 hi)
   refine⟨an,g1,?_⟩
   have v:j<fs.length:=by omega
   have:=g2 j fs[j] (by simp[v]) (by simpa using M)
   simpa[hi,v] using this
  ·exfalso
   have q:j<ops.size:=(Ac3.1 L).1
   simp[q] at v
end
end Gx
namespace Gx
open Go
theorem MS (ρ:Nat→Nat):∀ c:LA,(Rs ρ c).length=c.length
 | []=>rfl
 | x::r=>by rw[Rs,Acd,Acd,MS ρ r]
theorem Jr (ρ:Nat→Nat) (x:Blk):(U3 ρ x).cells.length=x.cells.length:=by
 unfold U3;cases x.pure
 ·simp;exact MS _ _
 ·rfl
theorem iL {ρ:Nat→Nat}:∀ {c:LA} {j:Nat} {y:AV},(Rs ρ c)[j]?=some y→∃ x,c[j]?=some x∧y=HN ρ x
 | [],j,y,b=>by simp[Rs] at b
 | x::r,j,y,b=>by
  rw[Rs] at b
  cases j with
  | zero=>simp at b;exact⟨x,by simp,b.symm⟩
  | succ j=>obtain⟨x',d,e⟩:=iL (c:=r) (j:=j) (by simpa using b);exact⟨x',by simpa using d,e⟩
section
variable {R:Type} {r:R} {J J':Bool→Nat→Prop} {β β':Bu} {h h':Ao} {w w':World} {ids:List Nat} {ρ:Nat→Nat}
theorem Kp {g:A6}:∀ {ids:List Nat},(ids.map ρ).Nodup→∀ c y,Ag (sub g ρ ids) c=some y→∃ b x,b ∈ ids∧ρ b=c∧g b=some x∧y=U3 ρ x
 | [],_,c,y,d=>by simp[sub,Ag] at d
 | b::r,hn,c,y,d=>by
  rw[Acc,Acu] at hn
  rw[sub] at d
  split at d
  ·rename_i x s
   rw[Ac] at d
   by_cases e:c=ρ b
   ·rw[if_pos e] at d;simp at d
    exact⟨b,x,by simp,e.symm,s,d.symm⟩
   ·rw[if_neg e] at d
    obtain⟨i,x',j,k,m,q⟩:=Kp hn.2 c y d
    exact⟨i,x',by simp[j],k,m,q⟩
  ·obtain⟨i,x',j,k,m,q⟩:=Kp hn.2 c y d
   exact⟨i,x',by simp[j],k,m,q⟩
theorem Vc {g:A6}:∀ {ids:List Nat},(ids.map ρ).Nodup→∀ b x,b ∈ ids→g b=some x→Ag (sub g ρ ids) (ρ b)=some (U3 ρ x)
 | [],_,b,x,d,_=>by simp at d
 | k::r,hn,b,x,d,i=>by
  rw[Acc,Acu] at hn
  rw[sub]
  by_cases e:b=k
  ·subst e
   rw[i]
   simp only
   rw[Ac,if_pos rfl]
  ·have j:b ∈ r:=by simpa[e] using d
   have ne:ρ b≠ρ k:=fun h=>hn.1 (by rw[←h];exact Acs.2 ⟨b,j,rfl⟩)
   split
   ·rw[Ac,if_neg ne];exact Vc hn.2 b x j i
   ·exact Vc hn.2 b x j i
def tc (ρ:Nat→Nat) (ids:List Nat) (c:Nat):Option Nat:=ids.find? fun b=>beq (ρ b) c
theorem td (hn:(ids.map ρ).Nodup) {b:Nat} (d:b ∈ ids):tc ρ ids (ρ b)=some b:=by
 induction ids with
 | nil=>simp at d
 | cons i r j =>
  rw[Acc,Acu] at hn
  unfold tc at j ⊢
  rw[List.find?_cons]
  by_cases e:b=i
  ·subst e;simp
  ·have k:b ∈ r:=by simpa[e] using d
   have ne:ρ i≠ρ b:=fun h=>hn.1 (by rw[h];exact Acs.2 ⟨b,k,rfl⟩)
   rw[CN ne];exact j hn.2 k
def BO (ρ:Nat→Nat) (ids:List Nat) (β:Bu):Bu:=fun c=>(tc ρ ids c).bind β
theorem Fh (hn:(ids.map ρ).Nodup) {b:Nat} (d:b ∈ ids):BO ρ ids β (ρ b)=β b:=by
 unfold BO;rw[td hn d];rfl
mutual
theorem Rep.ren (hn:(ids.map ρ).Nodup):∀ {x:AV} {v:Value},(∀ b ∈ Ff x,b ∈ ids)→Rep J β h w x v→Rep J (BO ρ ids β) (sub (Ag h) ρ ids) w (HN ρ x) v
 | .own b off n,v,hm,hr=>by
  rw[Rep] at hr
  obtain⟨x,A,cap,⟨hx,hmp⟩,h1,h2,h3⟩:=hr
  have hb:=hm b (by simp[Ff])
  rw[HN,Rep]
  refine⟨U3 ρ x,A,cap,⟨Vc hn b x hb hx,hmp⟩,h1,h2,?_⟩
  rw[Jr,Fh hn hb]
  exact h3
 | .optr b off,v,hm,hr=>by
  rw[Rep] at hr
  obtain⟨x,k,o,⟨hx,hmp⟩,h1,h2⟩:=hr
  have hb:=hm b (by simp[Ff])
  rw[HN,Rep]
  refine⟨U3 ρ x,k,o,⟨Vc hn b x hb hx,hmp⟩,h1,?_⟩
  rw[Fh hn hb]
  exact h2
 | .omap b,v,hm,hr=>by
  rw[Rep] at hr
  obtain⟨x,k,⟨hx,hmp⟩,h2⟩:=hr
  have hb:=hm b (by simp[Ff])
  rw[HN,Rep]
  refine⟨U3 ρ x,k,⟨Vc hn b x hb hx,hmp⟩,?_⟩
  rw[Fh hn hb]
  exact h2
 | .agg c,v,hm,hr=>by
  rw[Rep] at hr
  obtain⟨cs,h1,h2⟩:=hr
  rw[HN,Rep]
  exact⟨cs,h1,Reps.ren hn (by simpa[Ff] using hm) h2⟩
 | .tup c,v,hm,hr=>by
  rw[Rep] at hr
  obtain⟨cs,h1,h2⟩:=hr
  rw[HN,Rep]
  exact⟨cs,h1,Reps.ren hn (by simpa[Ff] using hm) h2⟩
 | .fn f c,v,hm,hr=>by
  rw[Rep] at hr
  obtain⟨cs,h1,h2⟩:=hr
  rw[HN,Rep]
  exact⟨cs,h1,Reps.ren hn (by simpa[Ff] using hm) h2⟩
 | .pagg c o,v,hm,hr=>by show Rep J _ _ w (.pagg c o) v;rw[Rep] at hr ⊢;exact hr
 | .undef,v,hm,hr=>by show Rep J _ _ w (.undef) v;rw[Rep] at hr ⊢;exact hr
 | .imm c n sz t o,v,hm,hr=>by show Rep J _ _ w (.imm c n sz t o) v;rw[Rep] at hr ⊢;exact hr
 | .iptr c o,v,hm,hr=>by show Rep J _ _ w (.iptr c o) v;rw[Rep] at hr ⊢;exact hr
 | .int k n,v,hm,hr=>by show Rep J _ _ w (.int k n) v;rw[Rep] at hr ⊢;exact hr
 | .bool b,v,hm,hr=>by show Rep J _ _ w (.bool b) v;rw[Rep] at hr ⊢;exact hr
 | .str s,v,hm,hr=>by show Rep J _ _ w (.str s) v;rw[Rep] at hr ⊢;exact hr
 | .nsl,v,hm,hr=>by show Rep J _ _ w (.nsl) v;rw[Rep] at hr ⊢;exact hr
 | .nilptr,v,hm,hr=>by show Rep J _ _ w (.nilptr) v;rw[Rep] at hr ⊢;exact hr
 | .nilfn,v,hm,hr=>by show Rep J _ _ w (.nilfn) v;rw[Rep] at hr ⊢;exact hr
theorem Reps.ren (hn:(ids.map ρ).Nodup):∀ {c:List AV} {cs:List Value},(∀ b ∈ Gl c,b ∈ ids)→Reps J β h w c cs→Reps J (BO ρ ids β) (sub (Ag h) ρ ids) w (Rs ρ c) cs
 | [],cs,hm,hr=>by rw[Reps] at hr;rw[Rs,Reps];exact hr
 | x::r,cs,hm,hr=>by
  rw[Reps] at hr
  obtain⟨u,us,h1,h2,h3⟩:=hr
  rw[Rs,Reps]
  exact⟨u,us,h1,Rep.ren hn (fun b hb=>hm b (by simp[Gl,hb])) h2,Reps.ren hn (fun b hb=>hm b (by simp[Gl,hb])) h3⟩
end
theorem SimH.ren (S:SimH J β h w) (hn:(ids.map ρ).Nodup) (G:∀ b ∈ Iq (Ag h) ids,b ∈ ids):SimH J (BO ρ ids β) (sub (Ag h) ρ ids) w:=by
 refine⟨S.jlt,S.jft,S.gl,fun c y v z I=>?_,fun c y v z I=>by
   obtain⟨b,x,e,rfl,m,rfl⟩:=Kp hn c y v
   obtain⟨s,A,k,ob,K,L,F,M⟩:=S.mblk b x m z I
   have:(U3 ρ x).cells=x.cells:=by unfold U3;rw[s];rfl
   exact⟨s,A,k,ob,by rw[Fh hn e];exact K,L,by rw[ObjIs,show(U3 ρ x).sz=x.sz from rfl,this];exact F,M⟩,?_⟩
 ·obtain⟨b,x,e,rfl,m,rfl⟩:=Kp hn c y v
  rcases S.blk b x m z I with⟨s,A⟩ | ⟨k,o,cs,ty,fr,s,A,K,L,F,M,g7⟩
  ·refine .inl ⟨by rw[Fh hn e];exact s,?_⟩
   have:=Jr ρ x;rw[A] at this;simpa using this
  ·refine .inr ⟨k,o,cs,ty,fr,by rw[Fh hn e];exact s,A,K,by rw[Jr];exact L,⟨fun O=>?_,fun O j q X=>?_⟩,M,g7⟩
   ·have d:x.pure=true:=O
    have:(U3 ρ x).cells=x.cells:=by unfold U3;rw[d];rfl
    rw[this];exact F.1 d
   ·have d:x.pure=false:=O
    have:(U3 ρ x).cells=Rs ρ x.cells:=by unfold U3;rw[d];rfl
    rw[this] at X
    obtain⟨q',hq,rfl⟩:=iL X
    obtain⟨u,hu,hr,ho⟩:=F.2 d j q' hq
    exact⟨u,hu,Rep.ren hn (fun C i=>G C (SB e m d C (SC hq C i))) hr,ho⟩
 ·intro c c' y y' k o o' v T z U hs Y D
  obtain⟨b,x,e,rfl,m,rfl⟩:=Kp hn c y v
  obtain⟨C,x',i,rfl,V,rfl⟩:=Kp hn c' y' T
  rw[Fh hn e] at Y
  rw[Fh hn i] at D
  rw[S.sep b C x x' k o o' m V z U hs Y D]
theorem jn (hn:(ids.map ρ).Nodup) {k:Nat} (e:li (BO ρ ids β) (sub (Ag h) ρ ids) k):li β h k:=by
 obtain⟨c,y,o,i,j,hs,d⟩:=e
 obtain⟨b,x,m,rfl,q,rfl⟩:=Kp hn c y i
 rw[Fh hn m] at d
 exact⟨b,x,o,q,j,hs,d⟩
end
end Gx
namespace Gx
open Go
theorem Lk {ids:List Nat}:∀ {l:List Nat},BF ids l=true→∀ b ∈ l,b ∈ ids
 | [],_,b,d=>by simp at d
 | i::r,h,b,d=>by
  rw[BF] at h
  simp at h
  rcases Ach.1 d with rfl | d
  ·exact Is.1 h.1
  ·exact Lk h.2 b d
theorem T0 {d:Nat}:∀ {l:List Nat} {base b:Nat},b ∈ l→base≤Gz d (At base l) b∧Gz d (At base l) b<base+l.length
 | [],base,b,e=>by simp at e
 | i::r,base,b,e=>by
  rw[At,Gz]
  cases hi:beq i b with
  | true=>simp
  | false =>
   have j:=Rt hi
   have k:b ∈ r:=by
    rcases Ach.1 e with h | h
    ·exact absurd h.symm j
    ·exact h
   have:=T0 (d:=d) (base:=base+1) k
   simp only[cond_false,Acd]
   omega
theorem mS {free ids:List Nat} {b:Nat} (h:Xh free b=true):Tu free ids b=b:=by unfold Tu;rw[h];rfl
theorem jo {free ids:List Nat} {b:Nat} (h:Xh free b=false) (d:b ∈ ids):300000≤Tu free ids b:=by
 unfold Tu tT;rw[h]
 exact(T0 (Ad3.2 ⟨d,by simp[h]⟩)).1
theorem bR {b:Nat}:aP b=true↔100000≤b∧b<200000:=by unfold aP;simp
theorem VL {free ids:List Nat} {b c:Nat} (e:b ∈ ids) (i:100000≤c∧c<200000) (d:Tu free ids b=c):b=c:=by
 cases hr:Xh free b with
 | true=>rw[mS hr] at d;exact d
 | false=>have:=jo hr e;omega
theorem Xn {ρ:Nat→Nat} {K:List Nat}:∀ {s:Fe} {i:Nat},Et (tU ρ K s) i=if Gm K i=true then HN ρ (Et s i) else .undef
 | [],i=>by
  show AV.undef=if Gm K i=true then HN ρ .undef else AV.undef
  simp[HN]
 | (t,v)::r,i=>by
  rw[tU]
  by_cases e:t=i
  ·subst e
   cases b:Gm K t with
   | true=>simp[Et]
   | false=>simp only[cond_false];rw[Xn];simp[b]
  ·have d:beq t i=false:=CN e
   cases b:Gm K t with
   | true=>simp only[cond_true,Et,d,cond_false];exact Xn
   | false=>simp only[cond_false,Et,d];exact Xn
theorem mT {g:A6} {l:List Nat} {b:Nat} (h:b ∈ U8 g l):∃ x,g b=some x∧x.dead=false:=by
 unfold U8 at h
 obtain⟨_,d⟩:=Ad3.1 h
 unfold Em at d
 cases e:g b with
 | none=>simp[e] at d
 | some x =>
  cases i:x.dead with
  | false=>exact⟨x,rfl,i⟩
  | true=>simp[e,i] at d
section
variable {Z:Start} {nt:Nat} {J:Bool→Nat→Prop} {β:Bu} {st st':St} {a:Act} {w:World}
def AV.isz:AV→Nat
 | .imm _ _ s _ _=>s
 | _=>0
theorem Kq {live:List Nat}:∀ (nils:List (Nat×Nat)) {st:St} {J:Bool→Nat→Prop} {β:Bu},Inv Z nt J β st a w→Y6 live nils st=some st'→∃ J' β',Inv Z nt J' β' st' a w
 | [],st,J,β,I,j=>by simp[Y6] at j;subst j;exact⟨J,β,I⟩
 | (t,sz)::r,st,J,β,I,j=>by
  rw[Y6] at j
  cases z:ble 1000000 sz with
  | true =>
   rw[z,cond_true] at j
   split at j
   ·rename_i O hs
    refine Kq r (J:=J) (β:=β) (st:={ s:=KK st.s t (.imm [] 0 (sz - 1000000) false false),h:=st.h }) ?_ j
    refine { I with ss:=⟨fun i v m=>?_,fun i hi=>?_⟩ }
    ·rw[Km]
     by_cases e:i=t
     ·subst e
      have:=I.ss.slot i v m
      rw[hs,Rep] at this
      subst this
      rw[if_pos rfl,Rep,RepC]
      exact⟨by simp,none,0,rfl,Ab3 _,fun _=>rfl,.inl rfl⟩
     ·rw[if_neg e];exact I.ss.slot i v m
    ·rw[Km]
     by_cases e:i=t
     ·subst e
      have:=I.ss.out i hi
      rw[hs] at this;cases this
     ·rw[if_neg e];exact I.ss.out i hi
   ·rename_i b off n O hs
    obtain⟨⟨v',ups,org⟩,C,S⟩:=ub j
    by_cases D:∃ v,a.tmps[t]?=some v
    ·obtain⟨v0,F⟩:=D
     have hr:=I.ss.slot t v0 F
     rw[hs] at hr
     obtain⟨J1,A,q,_⟩:=DD I.sim (fun b x T=>⟨x,T,rfl⟩) C hr
     have I1:=I.step A (fun c x u hn=>by
      exfalso
      unfold IF at C
      obtain⟨y,K,k⟩:=ub C
      obtain⟨_,k⟩:=uc k
      simp at k
      obtain⟨_,k,_⟩:=k
      subst k
      simp only[Ah,Ac] at u
      unfold Em at K
      obtain⟨y0,G,_⟩:=ub K
      by_cases e:c=b
      ·subst e;rw[hn] at G;cases G
      ·rw[if_neg e,hn] at u;cases u)
     refine Kq r (J:=J1) (β:=β) (st:={ s:=KK st.s t v',h:=Ah ups st.h }) ?_ S
     have L:∃ c,v'=.imm c n (v'.isz) false org:=by
      unfold IF at C
      obtain⟨y,K,k⟩:=ub C
      obtain⟨_,k⟩:=uc k
      simp at k
      obtain⟨k,_,U⟩:=k
      subst k U
      exact⟨_,rfl⟩
     refine { I1 with ss:=⟨fun i v m=>?_,fun i hi=>?_⟩ }
     ·rw[Km]
      by_cases e:i=t
      ·subst e
       rw[if_pos rfl]
       rw[F] at m;simp at m;subst m
       obtain⟨c,V⟩:=L
       rw[V] at q ⊢
       rw[Rep];exact q
      ·rw[if_neg e];exact I1.ss.slot i v m
     ·rw[Km]
      by_cases e:i=t
      ·subst e
       have:=I.ss.out i hi
       rw[hs] at this;cases this
      ·rw[if_neg e];exact I1.ss.out i hi
    ·exfalso
     have:=I.ss.out t (by
      cases h:a.tmps[t]? with
      | none=>simp at h;omega
      | some v=>exact absurd ⟨v,h⟩ D)
     rw[hs] at this;cases this
   ·exact Kq r I j
  | false =>
   rw[z,cond_false] at j
   split at j
   ·rename_i O hs
    cases M:Ag st.h (nid t+15) with
    | some x=>simp[M] at j
    | none =>
     simp[M] at j
     have A:=Step.newNone I.sim (d:=nid t+15) (x:=Eu sz) M rfl
     have I1:=I.step A (fun b x u hn=>by
      rw[Ac] at u
      by_cases e:b=nid t+15
      ·subst e;unfold nid Fu;omega
      ·rw[if_neg e,hn] at u;cases u)
     refine Kq r (J:=J) (β:=fun b=>if b=nid t+15 then none else β b) (st:={ s:=KK st.s t (.own (nid t+15) 0 0),h:=Dd st.h (nid t+15) (Eu sz) }) ?_ j
     refine { I1 with ss:=⟨fun i v m=>?_,fun i hi=>?_⟩ }
     ·rw[Km]
      by_cases e:i=t
      ·subst e
       rw[if_pos rfl,Rep]
       have:=I.ss.slot i v m
       rw[hs,Rep] at this
       subst this
       exact⟨Eu sz,none,0,⟨by rw[Ac,if_pos rfl],rfl⟩,rfl,Ab3 _,.inl rfl⟩
      ·rw[if_neg e];exact I1.ss.slot i v m
     ·rw[Km]
      by_cases e:i=t
      ·subst e
       have:=I.ss.out i hi
       rw[hs] at this;cases this
      ·rw[if_neg e];exact I1.ss.out i hi
   ·exact Kq r I j
theorem DK {E:Env} {live roots:List Nat} (I:Inv Z nt J β st a w) (m:BG E live roots st=some st'):∃ J' β',Inv Z nt J' β' st' a w:=by
 unfold BG at m
 obtain⟨d,z,A⟩:=ub m
 obtain⟨J1,β1,I1⟩:=Kq _ I z
 obtain⟨q,u⟩:=uc A
 simp at q u
 subst u
 obtain⟨hn,hs,hi,_⟩:=q
 have hn:=Ow hn
 have j:∀ b ∈ Iq (Ag d.h) (U8 (Ag d.h) (Tr (Ag d.h) (aN live d.s++roots))),b ∈ U8 (Ag d.h) (Tr (Ag d.h) (aN live d.s++roots)):=Lk hi
 refine⟨J1,BO _ _ β1,{ I1 with sim:=I1.sim.ren hn j,ss:=⟨fun i v C=>?_,fun i hi=>?_⟩,wr:=fun k D=>I1.wr k (jn hn D),outs:=fun b x0 x h0 F G=>?_ }⟩
 ·rw[Xn]
  cases K:Gm live i with
  | false=>simp[Rep]
  | true =>
   simp only[if_true]
   exact Rep.ren hn (fun b L=>Lk hs b (bD K b L)) (I1.ss.slot i v C)
 ·rw[Xn,I1.ss.out i hi];simp[HN]
 ·obtain⟨M,x',e,y,O,rfl⟩:=Kp hn b x F
  have:=VL e ⟨I1.zge b x0 h0,I1.zlt b x0 h0⟩ y
  subst this
  obtain⟨⟨e1,em⟩,S,e3,e4⟩:=I1.outs M x0 x' h0 O G
  refine⟨⟨?_,em⟩,S,by rw[Jr];exact e3,e4⟩
  have:=Fh (β:=β1) hn e
  rw[y] at this
  rw[this];exact e1
end
end Gx
namespace Gx
open Go
section
variable {R:Type} {r:R} {Z:Start} {E:Env}
theorem mU (hC:KT E) (C:E.P.follows .mixedOrders=true) {roots:List Nat} {N:Nat}:∀ (c:Code) {H:Hint} {kn:St→O R} {kx:Nat→St→O R} {kr:St→O R} {st:St} {a:Act} {w:World} {J:Bool→Nat→Prop} {β:Bu} {Q:Exit→Act→World→Prop},
  Inv Z E.nt J β st a w→De E roots N c H kn kx kr st=some r →
  (∀ st' d w' J' β',Inv Z E.nt J' β' st' d w'→kn st'=some r→Q .normal d w') →
  (∀ id st' d w' J' β',Inv Z E.nt J' β' st' d w'→kx id st'=some r→Q (.exit id) d w') →
  (∀ st' d w' J' β',Inv Z E.nt J' β' st' d w'→kr st'=some r→Q .ret d w')→c.wp E.P Q a w:=by
 intro c
 induction c with
 | skip=>intro H kn kx kr st a w J β Q I b hn e hr;exact wp_skip (hn _ _ _ _ _ I b)
 | region id ops draw=>intro H kn kx kr st a w J β Q I b hn e hr;exact fa hC C I b hn
 | seq x y m i =>
  intro H kn kx kr st a w J β Q I b hn e hr
  rw[De] at b
  refine wp_seq (m I b (fun st' d w' J' β' I' h'=>?_) (fun id st' d w' J' β' I' h'=>e id st' d w' J' β' I' h') (fun st' d w' J' β' I' h'=>hr st' d w' J' β' I' h'))
  unfold lf at h'
  cases q:H.isJoin with
  | true =>
   rw[q,cond_true,Pn] at h'
   obtain⟨s2,s,u⟩:=ub h'
   obtain⟨J2,β2,I2⟩:=DK I' s
   exact i I2 u hn e hr
  | false=>rw[q] at h';exact i I' h' hn e hr
 | cond c x y m i =>
  intro H kn kx kr st a w J β Q I b hn e hr
  rw[De] at b
  split at b
  ·rename_i t D
   have A:=A5 I.ss c
   rw[D,Rep] at A
   refine wp_cond A ?_
   cases t with
   | true=>exact m I b hn e hr
   | false=>exact i I b hn e hr
  ·simp at b
 | block id c v =>
  intro H kn kx kr st a w J β Q I b hn e hr
  rw[De] at b
  refine wp_block (v I b (fun st' d w' J' β' I' h'=>hn _ _ _ _ _ I' h') (fun j st' d w' J' β' I' h'=>?_) (fun st' d w' J' β' I' h'=>hr _ _ _ _ _ I' h'))
  cases q:beq j id with
  | true =>
   rw[q] at h'
   have:=Ab5 q
   subst this
   simp only[Exit.inBlock,if_true]
   exact hn _ _ _ _ _ I' h'
  | false =>
   rw[q] at h'
   simp only[Exit.inBlock]
   rw[if_neg (Rt q)]
   exact e _ _ _ _ _ _ I' h'
 | loop c v =>
  intro H kn kx kr st a w J β Q I b hn e hr
  rw[De,Pn] at b
  refine wp_loop_rounds N ?_
  have key:∀ (n:Nat) {st:St} {a:Act} {w:World} {J:Bool→Nat→Prop} {β:Bu},Inv Z E.nt J β st a w→BH (BG E H.live roots) (fun k st=>De E roots N c H.a k kx kr st) n st=some r→Code.rounds E.P c Q n a w:=by
   intro n
   induction n with
   | zero=>intro st a w J β I h';simp[BH] at h'
   | succ n z =>
    intro st a w J β I h'
    rw[BH] at h'
    rw[rounds_succ]
    refine v I h' (fun st' d w' J' β' I' h''=>?_) (fun id st' d w' J' β' I' h''=>e _ _ _ _ _ _ I' h'') (fun st' d w' J' β' I' h''=>hr _ _ _ _ _ I' h'')
    obtain⟨s2,s,u⟩:=ub h''
    obtain⟨J2,β2,I2⟩:=DK I' s
    exact z I2 u
  obtain⟨s2,s,u⟩:=ub b
  obtain⟨J2,β2,I2⟩:=DK I s
  exact key N I2 u
 | exit id=>intro H kn kx kr st a w J β Q I b hn e hr;exact wp_exit (e _ _ _ _ _ _ I b)
 | ret=>intro H kn kx kr st a w J β Q I b hn e hr;exact wp_ret (hr _ _ _ _ _ I b)
 | rangeFunc=>intro H kn kx kr st a w J β Q I b;simp[De] at b
 | scope=>intro H kn kx kr st a w J β Q I b;simp[De] at b
 | label=>intro H kn kx kr st a w J β Q I b;simp[De] at b
 | goto=>intro H kn kx kr st a w J β Q I b;simp[De] at b
 | refuse=>intro H kn kx kr st a w J β Q I b;simp[De] at b
end
end Gx
namespace Gx
open Go
structure FDone (Z:Start) (J:Bool→Nat→Prop) (β:Bu) (h:Ao) (w:World):Prop where
 sim:SimH J β h w
 os:w.os=Z.w.os
 tape:w.tape=Z.w.tape
 output:w.output=Z.w.output
 size:Z.w.heap.size≤w.heap.size
 frame:∀ k,k<Z.w.heap.size→¬ li Z.β Z.h k→w.heap[k]?=Z.w.heap[k]?
 wr:∀ k,li β h k→k<Z.w.heap.size→li Z.β Z.h k
 jsub:∀ o k,Z.J o k→J o k
 jup:∀ o k,J o k→Z.J o k∨li Z.β Z.h k∨Z.w.heap.size≤k
 sizes:∀ k,Ar Z.w k≤Ar w k
 outs:∀ b x0 x,Ag Z.h b=some x0→Ag h b=some x→x.dead=false→(β b=Z.β b∧x.mp=x0.mp)∧x.sz=x0.sz∧(x0.mp=false→x.cells.length=x0.cells.length)∧x0.dead=false
 live:∀ b x,Ag h b=some x→x.dead=false
def lZ (P:Program) (f:Nat) (args:LA) (h:Ao) (res:AV) (h':Ao):Prop :=
 ∀ (J:Bool→Nat→Prop) (β:Bu) (w:World) (vs:List Value),SimH J β h w→Reps J β h w args vs →
  Calls P f vs.toArray w fun e w'=>∃ vc J' β',e=.returned vc∧FDone ⟨J,β,h,w⟩ J' β' h' w'∧Rep J' β' h' w' res vc
def fb (P:Program) (f:Nat) (t:Tw):Prop:=∀ args h res h',(t.runK args h fun v h'=>some (v,h'))=some (res,h')→lZ P f args h res h'
def bS (P:Program):List (Nat×Tw)→Prop
 | []=>True
 | p::r=>fb P p.1 p.2∧bS P r
theorem mV {P:Program} {R:Type} {r:R}:∀ {T:List (Nat×Tw)},bS P T→∀ {f:Nat} {args:LA} {h:Ao} {k:AV→Ao→O R},MF T f args h k=some r →
  ∃ b h',lZ P f args h b h'∧k b h'=some r
 | [],_,f,args,h,k,d=>by simp[MF] at d
 | (g,t)::T,hT,f,args,h,k,d=>by
  rw[MF] at d
  cases e:beq g f with
  | false=>rw[e] at d;exact mV hT.2 d
  | true =>
   rw[e] at d
   have:=Ab5 e
   subst this
   simp only[cond_true] at d
   rw[t.eq] at d
   obtain⟨⟨b,h'⟩,i,j⟩:=ub d
   exact⟨b,h',hT.1 args h b h' i,j⟩
section
variable {R:Type} {r:R} {Z:Start} {nt:Nat} {J:Bool→Nat→Prop} {β:Bu} {st:St} {a:Act} {w:World}
def MT (tmps:Array Value):ResultVar→Sem Value
 | .tmp t=>pure (tmps.getD t undef)
 | .cell a t=>do loadVar t (←Go.asAddr (tmps.getD a undef))
theorem te {α β:Type} (f:α→Sem β) (xs:Array α):xs.mapM f=(List.toArray <$> xs.toList.mapM f):=by
 rw[←List.mapM_toArray]
theorem pG (fn:Func) (tmps:Array Value):results fn tmps=(do let vs ←fn.results.mapM (MT tmps);pure (if h:vs.size=1 then vs[0] else .tuple vs)):=by
 unfold results
 congr 1
def mW (l:List Value):Value:=match l with | [v]=>v | l=>.tuple l.toArray
theorem mX {P:Program} (fn:Func) (tmps:Array Value) {vs:List Value} (h:(fn.results.toList.mapM (MT tmps)).run P w=.ok vs w):(results fn tmps).run P w=.ok (mW vs) w:=by
 rw[pG,te]
 simp only[map_eq_pure_bind,Sem.run_bind,h,Result.andThen_ok,Sem.run_pure]
 congr 1
 match vs with
 | []=>rfl
 | [v]=>rfl
 | v::u::r=>simp[mW]
theorem mY {P:Program} {t:TypeId} {v vc:Value} (h:(Instr.loadAt t v).run P w=.ok vc w):(do loadVar t (←Go.asAddr v):Sem Value).run P w=.ok vc w:=by
 unfold Instr.loadAt at h
 cases v with
 | pointer a =>
  cases a with
  | some a=>exact h
  | none=>simp[Instr.sureAddr] at h
 | _=>simp[Instr.sureAddr] at h
theorem Wo {E:Env} (S:SimH J β st.h w) (SS:SimS J β st.h w st.s a.tmps):∀ (l:List ResultVar) {b:LA} {k:LA→O R},Kl E st l b k=some r →
  ∃ vals vs,k (b.reverse++vals)=some r∧(l.mapM (MT a.tmps)).run E.P w=.ok vs w∧Reps J β st.h w vals vs
 | [],b,k,d=>⟨[],[],by simpa[Kl] using d,by simp,by rw[Reps]⟩
 | .tmp t::l,b,k,d=>by
  rw[Kl] at d
  obtain⟨vals,vs,e,i,j⟩:=Wo S SS l d
  refine⟨Et st.s t::vals,a.tmps.getD t undef::vs,by simpa using e,?_,by rw[Reps];exact⟨_,_,rfl,A5 SS (.tmp t),j⟩⟩
  simp only[Af5,MT,Sem.run_bind,Sem.run_pure,Result.andThen_ok,i]
 | .cell ad t::l,b,k,d=>by
  rw[Kl] at d
  obtain⟨v,vc,h0,e,i⟩:=UX S (fun _ _ h=>h) d (A5 SS (.tmp ad))
  obtain⟨vals,vs,j,m,q⟩:=Wo S SS l h0
  refine⟨v::vals,vc::vs,by simpa using j,?_,by rw[Reps];exact⟨_,_,rfl,i,q⟩⟩
  have:(MT a.tmps (.cell ad t)).run E.P w=.ok vc w:=mY e
  simp only[Af5,Sem.run_bind,this,Sem.run_pure,Result.andThen_ok,m]
theorem pH {i:Nat} {m:Nat×Nat} {v v':AV} {ups:Do} {vc:Value} {h:Ao} (S:SimH J β h w) (d:wl (Ag h) i m v=some (v',ups)) (j:Rep J β h w v vc) :
  ∃ J' β',Step J β h w J' β' (Ah ups h) w∧Rep J' β' (Ah ups h) w v' vc∧(∀ b x,Ag (Ah ups h) b=some x→Ag h b=none→Fu≤b):=by
 have old:∀ {ups:Do},(∀ b,A3 ups b=true→∃ x,Ag h b=some x)→∀ b x,Ag (Ah ups h) b=some x→Ag h b=none→Fu≤b:=by
  intro ups G b x k hn
  cases hi:A3 ups b with
  | true=>obtain⟨y,I⟩:=G b hi;rw[I] at hn;cases hn
  | false=>rw[B3 _ _ _ hi,hn] at k;cases k
 unfold wl at d
 cases h0:beq m.1 0 with
 | true =>
  rw[h0] at d;simp at d
  obtain⟨rfl,rfl⟩:=d
  exact⟨J,β,Step.refl S,j,old (by simp[A3])⟩
 | false =>
  rw[h0,cond_false] at d
  cases D:beq m.1 1 with
  | true =>
   rw[D,cond_true] at d
   split at d
   ·simp at d;obtain⟨rfl,rfl⟩:=d
    rw[Rep] at j;subst j
    refine⟨J,β,Step.refl S,?_,old (by simp[A3])⟩
    rw[Rep,RepC]
    exact⟨by simp,none,0,rfl,Ab3 _,by simp,.inl rfl⟩
   ·simp at d;obtain⟨rfl,rfl⟩:=d
    refine⟨J,β,Step.refl S,?_,old (by simp[A3])⟩
    rw[Rep,RepC] at j ⊢
    obtain⟨e1,A,cap,K,e3,e4,L⟩:=j
    exact⟨e1,A,cap,K,e3,by simp,L⟩
   ·obtain⟨⟨M,O,T⟩,hq,u⟩:=ub d
    simp at u;obtain⟨rfl,rfl⟩:=u
    obtain⟨J',A,hA,_⟩:=DD S (Looks.s fun _ _ h=>h) hq j
    refine⟨J',β,A,?_,old (iG hq)⟩
    unfold IF at hq
    obtain⟨x,k,q⟩:=ub hq
    obtain⟨_,F⟩:=uc q
    simp at F
    obtain⟨rfl,rfl,rfl⟩:=F
    rw[Rep];exact hA
   ·simp at d
  | false =>
   rw[D,cond_false] at d
   cases u:beq m.1 2 with
   | true =>
    rw[u,cond_true] at d
    split at d
    ·obtain⟨hn,q⟩:=oa d
     simp at q;obtain⟨rfl,rfl⟩:=q
     have C:Ag h (nid 90000+i)=none:=by cases k:Ag h (nid 90000+i)<;>simp_all
     have A:=Step.newNone S (x:=Eu m.2) C rfl
     refine⟨J,fun b=>if b=nid 90000+i then none else β b,A,?_,fun b x k U=>?_⟩
     ·rw[Rep] at j;subst j;rw[Rep]
      exact⟨Eu m.2,none,0,⟨by simp only[Ah];rw[Ac,if_pos rfl],rfl⟩,rfl,Ab3 _,.inl rfl⟩
     ·simp only[Ah] at k
      rw[Ac] at k
      by_cases e:b=nid 90000+i
      ·subst e;unfold nid Fu;omega
      ·rw[if_neg e,U] at k;cases k
    ·simp at d;obtain⟨rfl,rfl⟩:=d
     exact⟨J,β,Step.refl S,j,old (by simp[A3])⟩
   | false =>
    rw[u,cond_false] at d
    split at d
    ·rename_i c
     obtain⟨⟨M,O,T⟩,hq,q⟩:=ub d
     simp at q;obtain⟨rfl,rfl⟩:=q
     rw[Rep] at j
     obtain⟨cs,rfl,V⟩:=j
     obtain⟨J',A,hA,z,_⟩:=Nh S (Looks.s fun _ _ h=>h) hq V
     refine⟨J',β,A,?_,old (Tx hq)⟩
     rw[Rep]
     exact⟨cs,rfl,z.symm,hA⟩
    ·simp at d;obtain⟨rfl,rfl⟩:=d
     exact⟨J,β,Step.refl S,j,old (by simp[A3])⟩
    ·simp at d
theorem VM {s:Fe}:∀ (vals:LA) {i:Nat} {ms:List (Nat×Nat)} {h h':Ao} {vals':LA} {vs:List Value} {J:Bool→Nat→Prop} {β:Bu},
  Inv Z nt J β { s:=s,h:=h } a w→lg h i ms vals=some (vals',h')→Reps J β h w vals vs →
  ∃ J' β',Inv Z nt J' β' { s:=s,h:=h' } a w∧Reps J' β' h' w vals' vs∧∀ x v,Rep J β h w x v→Rep J' β' h' w x v
 | [],i,ms,h,h',vals',vs,J,β,I,b,e=>by
  simp[lg] at b;obtain⟨rfl,rfl⟩:=b
  exact⟨J,β,I,e,fun _ _ h=>h⟩
 | v::r,i,ms,h,h',vals',vs,J,β,I,b,e=>by
  rw[lg] at b
  obtain⟨⟨v1,u1⟩,y,z⟩:=ub b
  obtain⟨⟨F,hr⟩,C,m⟩:=ub z
  simp at m;obtain⟨rfl,rfl⟩:=m
  rw[Reps] at e
  obtain⟨u,D,rfl,j,k⟩:=e
  obtain⟨J1,β1,A,hA,d⟩:=pH I.sim y j
  have I1:=I.step A d
  obtain⟨J2,β2,I2,hB,q⟩:=VM r I1 C (Reps.ext A.ext k)
  refine⟨J2,β2,I2,?_,fun x v h=>q x v (Rep.ext A.ext h)⟩
  rw[Reps]
  exact⟨u,D,rfl,q _ _ hA,hB⟩
theorem fc {E:Env} {fn:Func} {modes:List (Nat×Nat)} {outs:List Nat} {k:AV→Ao→O R} (I:Inv Z nt J β st a w) (A:Po E fn modes outs k st=some r) :
  ∃ i h' vc J' β',k i h'=some r∧(results fn a.tmps).run E.P w=.ok vc w∧FDone Z J' β' h' w∧Rep J' β' h' w i vc:=by
 unfold Po at A
 obtain⟨vals,vs,C,K,L⟩:=Wo I.sim I.ss _ A
 simp only[List.reverse_nil,Adf] at C
 obtain⟨⟨vals',h'⟩,M,S⟩:=ub C
 obtain⟨J1,β1,I1,hR,_⟩:=VM (s:=st.s) vals I M L
 obtain⟨D,T⟩:=uc S
 simp at D
 obtain⟨hn,hs,hi,_⟩:=D
 have hn:=Ow hn
 have j:=Lk hi
 have hs:=Lk hs
 refine⟨_,_,mW vs,J1,BO _ _ β1,T,mX fn a.tmps K,?_,Rep.ren hn hs ?_⟩
 ·exact⟨I1.sim.ren hn j,I1.os,I1.tape,I1.output,I1.size,I1.frame,fun k U=>I1.wr k (jn hn U),I1.jsub,I1.jup,I1.sizes,fun b x0 x h0 m V=>by
   obtain⟨F,x',e,q,y,rfl⟩:=Kp hn b x m
   have:=VL e ⟨I1.zge b x0 h0,I1.zlt b x0 h0⟩ q
   subst this
   obtain⟨⟨e1,em⟩,X,e3,e4⟩:=I1.outs F x0 x' h0 y V
   refine⟨⟨?_,em⟩,X,by rw[Jr];exact e3,e4⟩
   have:=Fh (β:=β1) hn e
   rw[q] at this
   rw[this];exact e1,fun b x m=>by
   obtain⟨F,x',e,q,y,rfl⟩:=Kp hn b x m
   obtain⟨x2,z,Y⟩:=mT e
   rw[y] at z;simp at z;subst z;exact Y⟩
 ·match vals',vs,hR with
  | [],vs,hR=>rw[Reps] at hR;subst hR;simp only[mW,wm];rw[Rep];exact⟨[],rfl,by rw[Reps]⟩
  | [v],vs,hR =>
   rw[Reps] at hR
   obtain⟨u,us,rfl,G,d⟩:=hR
   rw[Reps] at d;subst d
   exact G
  | v::v2::l,vs,hR =>
   have hR':=hR
   rw[Reps] at hR
   obtain⟨u,us,rfl,G,d⟩:=hR
   rw[Reps] at d
   obtain⟨u2,us2,rfl,_,_⟩:=d
   simp only[mW,wm]
   rw[Rep]
   exact⟨_,rfl,hR'⟩
end
end Gx
namespace Gx
open Go
section
variable {J J':Bool→Nat→Prop} {β:Bu} {h:Ao} {w:World}
mutual
theorem Rep.noOrg:∀ {x:AV} {v:Value},Wk x=false→Rep J β h w x v→Rep (fun _=>J false) β h w x v
 | .own ..,v,_,hr=>by rw[Rep] at hr ⊢;exact hr
 | .optr ..,v,_,hr=>by rw[Rep] at hr ⊢;exact hr
 | .omap ..,v,_,hr=>by rw[Rep] at hr ⊢;exact hr
 | .pagg c o,v,ho,hr=>by
  rw[Wk] at ho;subst ho
  rw[Rep] at hr ⊢;exact hr
 | .agg c,v,ho,hr=>by
  rw[Wk] at ho
  rw[Rep] at hr ⊢
  obtain⟨cs,h1,h2⟩:=hr
  exact⟨cs,h1,Reps.noOrg ho h2⟩
 | .tup c,v,ho,hr=>by
  rw[Wk] at ho
  rw[Rep] at hr ⊢
  obtain⟨cs,h1,h2⟩:=hr
  exact⟨cs,h1,Reps.noOrg ho h2⟩
 | .fn f c,v,ho,hr=>by
  rw[Wk] at ho
  rw[Rep] at hr ⊢
  obtain⟨cs,h1,h2⟩:=hr
  exact⟨cs,h1,Reps.noOrg ho h2⟩
 | .undef,_,_,_=>by rw[Rep];trivial
 | .imm c n sz t o,v,ho,hr=>by
  rw[Wk] at ho;subst ho
  rw[Rep] at hr ⊢;exact hr
 | .iptr c o,v,ho,hr=>by
  rw[Wk] at ho;subst ho
  rw[Rep] at hr ⊢;exact hr
 | .int ..,v,_,hr=>by rw[Rep] at hr ⊢;exact hr
 | .bool _,v,_,hr=>by rw[Rep] at hr ⊢;exact hr
 | .str _,v,_,hr=>by rw[Rep] at hr ⊢;exact hr
 | .nsl,v,_,hr=>by rw[Rep] at hr ⊢;exact hr
 | .nilptr,v,_,hr=>by rw[Rep] at hr ⊢;exact hr
 | .nilfn,v,_,hr=>by rw[Rep] at hr ⊢;exact hr
theorem Reps.noOrg:∀ {c:List AV} {cs:List Value},Pm c=false→Reps J β h w c cs→Reps (fun _=>J false) β h w c cs
 | [],_,_,hr=>by rw[Reps] at hr ⊢;exact hr
 | x::r,cs,ho,hr=>by
  rw[Pm] at ho
  simp at ho
  rw[Reps] at hr ⊢
  obtain⟨u,us,h1,h2,h3⟩:=hr
  exact⟨u,us,h1,Rep.noOrg ho.1 h2,Reps.noOrg ho.2 h3⟩
end
theorem bT:∀ {c:LA} {j:Nat} {x:AV},Pm c=false→c[j]?=some x→Wk x=false
 | [],j,x,_,b=>by simp at b
 | y::r,j,x,d,b=>by
  rw[Pm] at d
  simp at d
  cases j with
  | zero=>simp at b;subst b;exact d.1
  | succ j=>exact bT d.2 (by simpa using b)
theorem bU:∀ {h:Ao} {b:Nat} {x:Blk},MG h=false→Ag h b=some x→x.taint=false∧(x.pure=false→Pm x.cells=false)
 | [],b,x,_,d=>by simp[Ag] at d
 | (i,y)::r,b,x,e,d=>by
  rw[MG] at e
  simp at e
  rw[Ag] at d
  cases hi:beq i b with
  | true =>
   rw[hi] at d;simp at d;subst d
   refine⟨e.1.1,fun j=>?_⟩
   have:=e.1.2
   rw[j] at this;simpa using this
  | false=>rw[hi] at d;exact bU e.2 (by simpa using d)
theorem SimH.noOrg (S:SimH J β h w) (D:MG h=false):SimH (fun _=>J false) β h w:=by
 refine⟨fun _ k d=>S.jlt _ k d,fun k d=>d,S.gl.to (fun _ h=>h) (fun _ _=>rfl),fun b x e m q=>?_,fun b x e m q=>by
   obtain⟨s,v,k,ob,y,F,G,I⟩:=S.mblk b x e m q
   exact⟨s,v,k,ob,y,F,G,fun _ K=>I false K⟩,S.sep⟩
 obtain⟨A,L⟩:=bU D e
 rcases S.blk b x e m q with z | ⟨k,o,cs,ty,fr,z,M,O,T,C,U,V⟩
 ·exact .inl z
 ·refine .inr ⟨k,o,cs,ty,fr,z,M,O,T,⟨fun i=>?_,fun i j c d=>?_⟩,fun hs _=>U hs _,fun hs=>?_⟩
  ·have:=C.1 i;rw[A] at this;exact this
  ·obtain⟨u,s,v,y⟩:=C.2 i j c d
   exact⟨u,s,Rep.noOrg (bT (L i) d) v,y⟩
  ·have:=V hs;rw[A] at this;exact this
theorem Ext.grow (hJ:∀ o k,J o k→J' o k):Ext J β h w J' β h w:=⟨hJ,fun _ _ _=>rfl,fun b x d=>⟨x,⟨d,rfl⟩,by cases e:x.dead<;>simp⟩,fun _ _ _ _=>Ab3 _⟩
theorem SimH.grow (S:SimH J β h w) (hJ:∀ o k,J o k→J' o k) (m:∀ o k,J' o k→k<w.heap.size) (q:∀ k,J' false k→J' true k)
  (d:∀ b x k o,Ag h b=some x→x.dead=false→x.sealed=false→β b=some (k,o)→∀ g,¬ J' g k):SimH J' β h w:=by
 refine⟨m,q,S.gl.to (hJ false) (fun _ _=>rfl),fun b x e i s=>?_,fun b x e i s=>by
   obtain⟨y,u,k,ob,v,z,A,K⟩:=S.mblk b x e i s
   exact⟨y,u,k,ob,v,z,A,d b x k 0 e i u v⟩,S.sep⟩
 rcases S.blk b x e i s with j | ⟨k,o,cs,ty,fr,j,C,D,F,G,L,I⟩
 ·exact .inl j
 ·exact .inr ⟨k,o,cs,ty,fr,j,C,D,F,G.ext (Ext.grow hJ),fun hs=>d b x k o e i hs j,fun hs=>hJ _ _ (I hs)⟩
def xl (β:Bu) (h:Ao) (fz:List Nat) (k:Nat):Prop:=∃ b x o,b ∈ fz∧Ag h b=some x∧x.dead=false∧x.sealed=false∧β b=some (k,o)
def JS (J:Bool→Nat→Prop) (β:Bu) (h:Ao) (fz:List Nat):Bool→Nat→Prop:=fun o k=>J o k∨(o=true∧xl β h fz k)
theorem bV {g:A6} {b off n:Nat} {x:Blk} {vc:Value} {fz:List Nat} (S:SimH J β h w) (A:Looks g h) (d:Em g b=some x) (C:x.pure=true) (D:x.sealed=false→b ∈ fz) (y:Rep J β h w (.own b off n) vc) :
  Rep (JS J β h fz) β h w (.imm ((x.cells.drop off).take (n*x.sz)) n x.sz false (!x.sealed||x.taint)) vc:=by
 unfold Em at d
 obtain⟨x0,s,d⟩:=ub d
 obtain⟨u,d⟩:=oa d
 simp at d;subst d
 have q:=A b _ s
 rw[Rep]
 have key:=(qt (J':=fun o k=>o≠x0.taint∨JS J β h fz (!x0.sealed||x0.taint) k) S q u C y (fun k o v=>.inr ?_) (fun o k j=>?_) false (!x0.sealed||x0.taint)).2 (by simp)
 ·exact RepC.keep (fun k m=>by rcases m with m | m;exact absurd rfl m;exact m) (fun _ _=>rfl) key
 ·cases hs:x0.sealed with
  | false =>
   simp only[Acv,Adv]
   exact .inr ⟨rfl,b,x0,o,D hs,q,u,hs,v⟩
  | true =>
   simp only[Aea,Ad6]
   rcases S.blk b x0 q u (tW q y) with⟨i,_⟩ | ⟨G,o',cs,ty,fr,i,I,K,L,M,O,F⟩
   ·rw[v] at i;cases i
   ·rw[v] at i;simp at i;obtain⟨rfl,rfl⟩:=i
    exact .inl (F hs)
 ·by_cases e:o=x0.taint
  ·subst e
   right
   cases hs:x0.sealed with
   | false =>
    simp only[Acv,Adv]
    left
    cases z:x0.taint with
    | false=>rw[z] at j;exact S.jft k j
    | true=>rw[z] at j;exact j
   | true=>simp only[Aea,Ad6];exact .inl j
  ·exact .inl e
theorem JS.mono (S:SimH J β h w) {fz:List Nat} {a b:Bool} (k:Nat) (d:JS J β h fz a k):JS J β h fz (a||b) k:=by
 cases a
 ·cases b
  ·exact d
  ·rcases d with d | ⟨e,_⟩
   ·exact .inl (S.jft k d)
   ·cases e
 ·exact d
theorem fe {g:A6} {v v':AV} {o:Bool} {vc:Value} {fz:List Nat} (S:SimH J β h w) (u:Looks g h) (d:Y2 g v=some (v',o)) (y:∀ b off n x,v=.own b off n→g b=some x→x.sealed=false→b ∈ fz) (i:Rep J β h w v vc) :
  RepC (JS J β h fz o) w v' vc:=by
 cases v
 case own b off n =>
  rw[Y2] at d
  obtain⟨x,e,z⟩:=ub d
  obtain⟨C,s⟩:=uc z
  simp at s
  obtain⟨rfl,rfl⟩:=s
  have:=bV S u e C (fun hs=>by
   unfold Em at e
   obtain⟨x0,j,e⟩:=ub e
   obtain⟨I,e⟩:=oa e
   simp at e;subst e
   exact y b off n x0 rfl j hs) i
  rw[Rep] at this;exact this
 case imm c n sz t org =>
  simp[Y2] at d;obtain⟨rfl,rfl⟩:=d
  rw[Rep,RepC] at i
  rw[RepC]
  obtain⟨e1,A,cap,D,e3,e4,m⟩:=i
  refine⟨e1,A,cap,D,e3,by simp,?_⟩
  rcases m with m | ⟨a,F,G,e8⟩
  ·exact .inl m
  ·exact .inr ⟨a,F,.inl G,RepCs.keep (fun k q=>.inl q) (fun _ _=>rfl) (fun _=>rfl) e8⟩
 case iptr c org =>
  simp[Y2] at d;obtain⟨rfl,rfl⟩:=d
  rw[Rep] at i
  exact RepC.keep (fun k q=>.inl q) (fun _ _=>rfl) i
 all_goals first
  | (simp[Y2] at d;done)
  | (simp[Y2] at d;obtain⟨rfl,rfl⟩:=d;rw[Rep] at i;rw[RepC];exact i)
theorem DL {g:A6} {fz:List Nat} (S:SimH J β h w) (C:Looks g h):∀ {c i:LA} {o:Bool} {cs:List Value},CZ g c=some (i,o)→(∀ b ∈ Ho g c,b ∈ fz)→Reps J β h w c cs →
  cs.length=i.length∧∀ (j:Nat) (x:AV),i[j]?=some x→∃ u,cs[j]?=some u∧RepC (JS J β h fz o) w x u
 | [],i,o,cs,d,s,m=>by
  simp[CZ] at d;obtain⟨rfl,rfl⟩:=d
  rw[Reps] at m;subst m
  exact⟨rfl,fun j x q=>by simp at q⟩
 | v::r,i,o,cs,d,s,m=>by
  rw[CZ] at d
  obtain⟨⟨v1,o1⟩,D,d⟩:=ub d
  obtain⟨⟨U,o2⟩,F,d⟩:=ub d
  simp at d;obtain⟨rfl,rfl⟩:=d
  rw[Reps] at m
  obtain⟨u,V,rfl,G,I⟩:=m
  have y:∀ b ∈ Ho g r,b ∈ fz:=fun b z=>s b (by
   cases v<;>simp only[Ho]<;>try exact z
   split
   ·rename_i x _;cases x.sealed<;>simp[z]
   ·exact z)
  have a1:=fe (fz:=fz) S C D (fun b off n x e K hs=>s b (by subst e;simp[Ho,K,hs])) G
  obtain⟨L,M⟩:=DL S C F y I
  refine⟨by simp[L],fun j x q=>?_⟩
  cases j with
  | zero=>simp at q;subst q;exact⟨u,by simp,RepC.keep (fun k A=>JS.mono S k A) (fun _ _=>rfl) a1⟩
  | succ j =>
   obtain⟨O,e1,T⟩:=M j x (by simpa using q)
   exact⟨O,by simpa using e1,RepC.keep (fun k A=>by rw[Afr];exact JS.mono S k A) (fun _ _=>rfl) T⟩
theorem ff {g:A6} {v v':AV} {q:Bool} {vc:Value} {fz:List Nat} (S:SimH J β h w) (G:Looks g h) (e:jZ g v=some (v',q)) (I:∀ b ∈ Xd g v,b ∈ fz) (m:Rep J β h w v vc) :
  Rep (JS J β h fz) β h w v' vc∧Ff v'=[]:=by
 unfold jZ at e
 split at e
 ·rename_i b off n
  obtain⟨x,d,i⟩:=ub e
  obtain⟨K,y⟩:=uc i
  simp at y
  obtain⟨rfl,_⟩:=y
  exact⟨bV S G d K (fun hs=>by
   unfold Em at d
   obtain⟨x0,z,d⟩:=ub d
   obtain⟨D,d⟩:=oa d
   simp at d;subst d
   exact I b (by simp[Xd,z,hs])) m,by simp[Ff]⟩
 ·simp at e;obtain⟨rfl,_⟩:=e
  refine⟨?_,by simp[Ff]⟩
  rw[Rep,RepC] at m ⊢
  obtain⟨e1,A,cap,L,e3,e4,M⟩:=m
  refine⟨e1,A,cap,L,e3,by simp,?_⟩
  rcases M with M | ⟨a,X,Y,e8⟩
  ·exact .inl M
  ·exact .inr ⟨a,X,.inl Y,RepCs.keep (fun k hk=>.inl hk) (fun _ _=>rfl) (fun _=>rfl) e8⟩
 ·rename_i b off
  obtain⟨x,d,i⟩:=ub e
  obtain⟨K,y⟩:=uc i
  simp at y
  obtain⟨rfl,_⟩:=y
  unfold Em at d
  obtain⟨x0,z,d⟩:=ub d
  obtain⟨D,d⟩:=oa d
  simp at d;subst d
  have O:=G b _ z
  refine⟨?_,by simp[Ff]⟩
  rw[Rep] at m
  obtain⟨x1,k,o,⟨T,gm⟩,g2,C⟩:=m
  rw[O] at T;simp at T;subst T
  rcases C with C | C
  ·simp[D] at C
  ·rcases S.blk b x0 O D gm with⟨i,_⟩ | ⟨k',o',cs,ty,fr,i,y,h3,h4,h5,h6,h7⟩
   ·rw[C] at i;cases i
   ·rw[C] at i;simp at i;obtain⟨rfl,rfl⟩:=i
    have U:∀ F,J x0.taint F→JS J β h fz (!x0.sealed||x0.taint) F:=by
     intro F s
     left
     cases hs:x0.sealed with
     | false =>
      simp only[Acv,Adv]
      cases V:x0.taint with
      | false=>rw[V] at s;exact S.jft F s
      | true=>rw[V] at s;exact s
     | true=>simp only[Aea,Ad6];exact s
    rw[Rep,RepC]
    refine⟨_,g2,?_,?_⟩
    ·cases hs:x0.sealed with
     | false =>
      simp only[Acv,Adv]
      exact .inr ⟨rfl,b,x0,o,I b (by simp[Xd,z,hs]),O,D,hs,C⟩
     | true =>
      simp only[Aea,Ad6]
      exact .inl (h7 hs)
    ·refine RepCs.keep U (fun _ _=>rfl) (fun j=>?_) ((h5.1 K).drop off)
     rw[Addr.add_mid,Li y,Acx]
 ·rename_i c
  obtain⟨⟨c1,o1⟩,i,y⟩:=ub e
  simp at y;obtain⟨rfl,_⟩:=y
  rw[Rep] at m
  obtain⟨cs,rfl,m⟩:=m
  obtain⟨b1,b2⟩:=DL (fz:=fz) S G i (by simpa[Xd] using I) m
  refine⟨?_,by simp[Ff]⟩
  rw[Rep]
  refine⟨cs,rfl,b1,?_⟩
  rw[Bg]
  intro j x s
  obtain⟨u,e1,L⟩:=b2 j x s
  exact⟨u,by simpa using e1,L⟩
 ·simp at e;obtain⟨rfl,_⟩:=e
  exact⟨Rep.ext (Ext.grow fun _ _ s=>.inl s) m,by simp[Ff,Gl]⟩
 ·simp at e
 ·simp at e
 ·simp at e
 ·simp at e
 ·simp at e;obtain⟨rfl,_⟩:=e
  refine⟨Rep.ext (Ext.grow fun _ _ s=>.inl s) m,?_⟩
  cases v<;>first | rfl | simp_all
theorem T1 {g:A6} {fz:List Nat} (S:SimH J β h w) (y:Looks g h):∀ {args:LA} {ms:List Bool} {args':LA} {im i:List Nat} {vs:List Value},
  Xe g ms args=some (args',im,i)→(∀ b ∈ i,b ∈ fz)→Reps J β h w args vs→Reps (JS J β h fz) β h w args' vs∧∀ b ∈ Gl args',b ∈ im
 | [],ms,args',im,i,vs,e,s,j=>by
  simp[Xe] at e;obtain⟨rfl,rfl,rfl⟩:=e
  rw[Reps] at j;subst j
  exact⟨by rw[Reps],by simp[Gl]⟩
 | v::r,ms,args',im,i,vs,e,s,j=>by
  rw[Xe] at e
  rw[Reps] at j
  obtain⟨u,D,rfl,k,m⟩:=j
  cases F:ms.headD false with
  | true =>
   rw[F,cond_true] at e
   obtain⟨⟨a2,i2,G⟩,z,q⟩:=ub e
   simp at q;obtain⟨rfl,rfl,rfl⟩:=q
   obtain⟨A,C⟩:=T1 S y z s m
   refine⟨by rw[Reps];exact⟨u,D,rfl,Rep.ext (Ext.grow fun _ _ I=>.inl I) k,A⟩,fun b d=>?_⟩
   rw[Gl] at d
   rcases Aca.1 d with d | d
   ·exact Aca.2 (.inl d)
   ·exact Aca.2 (.inr (C b d))
  | false =>
   rw[F,cond_false] at e
   obtain⟨⟨v1,L⟩,h0,e⟩:=ub e
   obtain⟨⟨a2,i2,G⟩,z,q⟩:=ub e
   simp at q;obtain⟨rfl,rfl,rfl⟩:=q
   obtain⟨e1,K⟩:=ff S y h0 (fun b d=>s b (Aca.2 (.inl d))) k
   obtain⟨A,C⟩:=T1 S y z (fun b d=>s b (Aca.2 (.inr d))) m
   refine⟨by rw[Reps];exact⟨u,D,rfl,e1,A⟩,fun b d=>?_⟩
   rw[Gl,K] at d
   exact C b (by simpa using d)
end
end Gx
namespace Gx
open Go
theorem iM {g g':A6} {ρ:Nat→Nat}:∀ {ids:List Nat},(∀ b ∈ ids,g b=g' b)→sub g ρ ids=sub g' ρ ids
 | [],_=>rfl
 | b::r,h=>by
  rw[sub,sub,h b (by simp),iM (fun c d=>h c (by simp[d]))]
theorem DM {g:A6}:∀ {l:List Nat},C' g l=true→∀ b ∈ l,∃ x,g b=some x∧x.dead=false
 | [],_,b,d=>by simp at d
 | i::r,h,b,d=>by
  rw[C'] at h
  simp at h
  rcases Ach.1 d with rfl | d
  ·cases e:g b with
   | none=>rw[e] at h;simp at h
   | some x=>rw[e] at h;exact⟨x,rfl,by simpa using h.1⟩
  ·exact DM h.2 b d
theorem qz:∀ {l m:List Nat},lc l m=true→∀ b ∈ l,b ∉ m
 | [],m,_,b,d=>by simp at d
 | i::r,m,h,b,d=>by
  rw[lc] at h
  simp at h
  rcases Ach.1 d with rfl | d
  ·intro e;have:=Is.2 e;rw[this] at h;simp at h
  ·exact qz h.2 b d
theorem Xo {d:Nat}:∀ {l:List (Nat×Nat)} {b:Nat},b ∈ l.map (·.1)→Gz d l b ∈ l.map (·.2)
 | [],b,e=>by simp at e
 | (i,x)::r,b,e=>by
  rw[Gz]
  cases hi:beq i b with
  | true=>simp
  | false =>
   have j:b ∈ r.map (·.1):=by
    rw[Acc] at e
    rcases Ach.1 e with h | h
    ·exact absurd h.symm (Rt hi)
    ·exact h
   simp only[cond_false,Acc]
   exact Adc _ (Xo j)
theorem Sd {d:Nat}:∀ {l m:List (Nat×Nat)} {b:Nat},Gz d (l++m) b=if b ∈ l.map (·.1) then Gz d l b else Gz d m b
 | [],m,b=>by simp
 | (i,x)::r,m,b=>by
  rw[Ada,Gz,Gz,Sd]
  cases hi:beq i b with
  | true=>have:=Ab5 hi;subst this;simp
  | false =>
   have:=Rt hi
   simp only[cond_false,Acc,Ach]
   by_cases e:b ∈ r.map (·.1)
   ·rw[if_pos e,if_pos (.inr e)]
   ·rw[if_neg e,if_neg (by rintro(h | h);exact this h.symm;exact e h)]
theorem Hq:∀ {base:Nat} {l:List Nat},(At base l).map (·.1)=l
 | _,[]=>rfl
 | base,i::r=>by rw[At,Acc,Hq]
theorem bW {d k:Nat}:∀ {l:List Nat} {base b:Nat},b ∈ l→Gz k ((At base l).map fun p=>(p.2,p.1)) (Gz d (At base l) b)=b
 | [],base,b,e=>by simp at e
 | i::r,base,b,e=>by
  rw[At,Gz,Acc,Gz]
  cases hi:beq i b with
  | true=>have:=Ab5 hi;subst this;simp
  | false =>
   have j:b ∈ r:=by
    rcases Ach.1 e with h | h
    ·exact absurd h.symm (Rt hi)
    ·exact h
   simp only[cond_false]
   have m:=T0 (d:=d) (base:=base+1) j
   rw[CN (show base≠Gz d (At (base+1) r) b by omega)]
   exact bW j
theorem Oz:∀ {base:Nat} {l:List Nat} {c:Nat},c ∈ (At base l).map (·.2)→base≤c∧c<base+l.length
 | _,[],c,b=>by simp[At] at b
 | base,i::r,c,b=>by
  rw[At,Acc] at b
  rcases Ach.1 b with h | h
  ·simp at h;subst h;simp
  ·have:=Oz h;simp only[Acd];omega
theorem T2:∀ {base:Nat} {l:List Nat},((At base l).map (·.2)).Nodup
 | _,[]=>by simp[At]
 | base,i::r=>by
  rw[At,Acc,Acu]
  exact⟨fun h=>by have:=Oz h;simp at this;omega,T2⟩
theorem DN:∀ {base:Nat} {l:List Nat} {b:Nat},b ∈ l→(b,Gz 0 (At base l) b) ∈ At base l
 | _,[],b,d=>by simp at d
 | base,i::r,b,d=>by
  rw[At,Gz]
  cases hi:beq i b with
  | true=>have:=Ab5 hi;subst this;simp
  | false =>
   have e:b ∈ r:=by
    rcases Ach.1 d with h | h
    ·exact absurd h.symm (Rt hi)
    ·exact h
   simp only[cond_false]
   exact Adc _ (DN e)
def pI (x:Blk):Blk:={ x with dead:=true,pure:=true,cells:=[] }
theorem Js:∀ {ups:Do} {h:Ao} {b:Nat} {o:Option Blk},(ups.map (·.1)).Nodup→(b,o) ∈ ups→Ag (Ah ups h) b=match o with | some x=>some x | none=>(Ag h b).map pI
 | [],h,b,o,_,m=>by simp at m
 | (i,y)::r,h,b,o,hn,m=>by
  rw[Acc,Acu] at hn
  rcases Ach.1 m with q | d
  ·simp at q
   obtain⟨rfl,rfl⟩:=q
   have j:A3 r b=false:=by
    have:∀ {r:Do},b ∉ r.map (·.1)→A3 r b=false:=by
     intro r
     induction r with
     | nil=>intro _;rfl
     | cons p r s =>
      intro h
      simp only[Acc,Ach,not_or] at h
      rw[A3,CN (fun e=>h.1 e.symm)]
      exact s h.2
    exact this hn.1
   cases o with
   | some x=>rw[Ah,B3 _ _ _ j,Ac,if_pos rfl]
   | none =>
    rw[Ah,B3 _ _ _ j]
    cases u:Ag h b with
    | none=>simp[u]
    | some x=>simp only[Option.map_some];rw[Ac,if_pos rfl];rfl
  ·have k:b≠i:=fun e=>by subst e;exact hn.1 (Acs.2 ⟨_,d,rfl⟩)
   cases y with
   | some x =>
    rw[Ah,Js hn.2 d]
    cases o with
    | some _=>rfl
    | none=>simp only;rw[Ac,if_neg k]
   | none =>
    rw[Ah,Js hn.2 d]
    cases o with
    | some _=>rfl
    | none =>
     simp only
     split
     ·rw[Ac,if_neg k]
     ·rfl
theorem SE:∀ {ups:Do} {b:Nat},A3 ups b=true↔b ∈ ups.map (·.1)
 | [],b=>by simp[A3]
 | (i,y)::r,b=>by
  rw[A3,Acc,Ach,←SE]
  cases hi:beq i b with
  | true=>have:=Ab5 hi;subst this;simp
  | false=>have:=Rt hi;simp;intro e;exact absurd e.symm this
theorem bX {β:Bu} {h:Ao} {ρ:Nat→Nat} {ids:List Nat} (hn:(ids.map ρ).Nodup) {k:Nat} (i:li (BO ρ ids β) (sub (Ag h) ρ ids) k) :
  ∃ b x o,b ∈ ids∧Ag h b=some x∧x.dead=false∧x.sealed=false∧β b=some (k,o):=by
 obtain⟨c,y,o,j,m,hs,d⟩:=i
 obtain⟨b,x,e,rfl,q,rfl⟩:=Kp hn c y j
 rw[Fh hn e] at d
 exact⟨b,x,o,e,q,m,hs,d⟩
theorem SimH.unJ {J:Bool→Nat→Prop} {β:Bu} {h:Ao} {w:World} (S:SimH J β h w) {b:Nat} {x:Blk} {k o:Nat} (i:Ag h b=some x) (j:x.dead=false) (hs:x.sealed=false) (e:β b=some (k,o)):∀ g,¬ J g k:=by
 cases m:x.mp with
 | false =>
  rcases S.blk b x i j m with⟨d,_⟩ | ⟨s,o2,cs,ty,fr,d,q,v,y,z,u,A⟩
  ·rw[e] at d;cases d
  ·rw[e] at d;simp at d;obtain⟨rfl,rfl⟩:=d
   exact u hs
 | true =>
  obtain⟨_,_,s,ob,d,_,_,q⟩:=S.mblk b x i j m
  rw[e] at d;simp at d;obtain⟨rfl,_⟩:=d
  exact q
theorem SimH.seJ {J:Bool→Nat→Prop} {β:Bu} {h:Ao} {w:World} (S:SimH J β h w) {b:Nat} {x:Blk} {k o:Nat} (e:Ag h b=some x) (i:x.dead=false) (hs:x.sealed=true) (j:β b=some (k,o)):J x.taint k:=by
 cases m:x.mp with
 | false =>
  rcases S.blk b x e i m with⟨d,_⟩ | ⟨s,o2,cs,ty,fr,d,u,v,y,z,A,q⟩
  ·rw[j] at d;cases d
  ·rw[j] at d;simp at d;obtain⟨rfl,rfl⟩:=d
   exact q hs
 | true =>
  have:=(S.mblk b x e i m).2.1
  rw[hs] at this;cases this
theorem Step.merge {J J0 J1:Bool→Nat→Prop} {β β1:Bu} {h Y H:Ao} {w w':World} {D ids:List Nat} (S:SimH J β h w) (S1:SimH J0 β1 Y w')
  (hH:∀ b,b ∉ D→Ag H b=Ag h b)
  (hD:∀ b x,b ∈ D→Ag H b=some x→x.dead=false→Ag Y b=some x)
  (hD1:∀ b x,Ag Y b=some x→b ∈ D∧Ag H b=some x)
  (hnew:∀ b x,b ∈ D→b ∉ ids→Ag h b≠some x)
  (hold:∀ b x,b ∈ ids→Ag h b=some x→∃ x',(Ag H b=some x'∧x'.mp=x.mp)∧(x'.dead=true∨(x.dead=false∧β1 b=β b∧x'.sz=x.sz∧(x.mp=false→x'.cells.length=x.cells.length))))
  (A:∀ b ∈ ids,b ∈ D)
  (os:w'.os=w.os) (tape:w'.tape=w.tape) (output:w'.output=w.output) (size:w.heap.size≤w'.heap.size)
  (frame:∀ k,k<w.heap.size→(¬ ∃ b x o,b ∈ ids∧Ag h b=some x∧x.dead=false∧x.sealed=false∧β b=some (k,o))→w'.heap[k]?=w.heap[k]?)
  (wr:∀ k,li β1 Y k→k<w.heap.size→∃ b x o,b ∈ ids∧Ag h b=some x∧x.dead=false∧x.sealed=false∧β b=some (k,o))
  (jup:∀ o k,J0 o k→J o k∨(∃ b x o,b ∈ ids∧Ag h b=some x∧x.dead=false∧x.sealed=false∧β b=some (k,o))∨w.heap.size≤k)
  (sizes:∀ k,Ar w k≤Ar w' k) :
  Step J β h w (fun o k=>J o k∨J0 o k) (fun b=>if b ∈ D then β1 b else β b) H w'∧Ext J0 β1 Y w' (fun o k=>J o k∨J0 o k) (fun b=>if b ∈ D then β1 b else β b) H w':=by
 have E0:Ext J0 β1 Y w' (fun o k=>J o k∨J0 o k) (fun b=>if b ∈ D then β1 b else β b) H w':=by
  refine⟨fun _ _ d=>.inr d,fun _ _ _=>rfl,fun b x e=>?_,fun _ _ _ _=>Ab3 _⟩
  obtain⟨v,z⟩:=hD1 b x e
  refine⟨x,⟨z,rfl⟩,?_⟩
  cases j:x.dead
  ·exact .inr ⟨rfl,by simp[v],rfl,fun _=>rfl⟩
  ·exact .inl rfl
 have keepJ:∀ o k,J o k→w'.heap[k]?=w.heap[k]?:=by
  intro o k d
  refine frame k (S.jlt o k d) ?_
  rintro⟨b,x,o',_,e,j,hs,s⟩
  exact S.unJ e j hs s o d
 have E:Ext J β h w (fun o k=>J o k∨J0 o k) (fun b=>if b ∈ D then β1 b else β b) H w':=by
  refine⟨fun _ _ d=>.inl d,keepJ,fun b x e=>?_,fun b k o _=>sizes k⟩
  by_cases hi:b ∈ ids
  ·obtain⟨x',v,z⟩:=hold b x hi e
   refine⟨x',v,?_⟩
   simp only[A b hi,if_true]
   exact z
  ·have hnd:b ∉ D:=fun j=>hnew b x j hi e
   refine⟨x,⟨by rw[hH b hnd];exact e,rfl⟩,?_⟩
   cases j:x.dead
   ·exact .inr ⟨rfl,by simp[hnd],rfl,fun _=>rfl⟩
   ·exact .inl rfl
 have out:∀ {b x},b ∉ D→Ag H b=some x→Ag h b=some x:=fun e y=>by rw[←hH _ e];exact y
 refine⟨⟨E,⟨?_,?_,S.gl.ext E,fun b x y j V=>?_,fun b x y j V=>by
   by_cases e:b ∈ D
   ·have v:=hD b x e y j
    have M:=S1.mblk b x v j V
    refine M.keep (by simp[e]) (fun _ _ _=>rfl) (fun g k o s d=>?_)
    rcases d with d | d
    ·exfalso
     by_cases G:k<w.heap.size
     ·obtain⟨I,x',o',q,u,m,C,i⟩:=wr k ⟨b,x,o,v,j,M.2.1,s⟩ G
      exact S.unJ u m C i g d
     ·exact G (S.jlt g k d)
    ·exact d
   ·have v:=out e y
    have M:=S.mblk b x v j V
    have F:∀ k o,β b=some (k,o)→¬ ∃ b x o,b ∈ ids∧Ag h b=some x∧x.dead=false∧x.sealed=false∧β b=some (k,o):=by
     rintro k o z ⟨I,x',o',q,u,m,C,i⟩
     have:=S.sep b I x x' k o o' v u j m M.2.1 z i
     subst this
     exact e (A b q)
    refine M.keep (by simp[e]) (fun k o s=>frame k (La S v j s) (F k o s)) (fun g k o s d=>?_)
    rcases d with d | d
    ·exact d
    ·rcases jup g k d with d | d | d
     ·exact d
     ·exact absurd d (F k o s)
     ·have:=La S v j s;omega,?_⟩,os,tape,output,size,?_,?_,?_⟩,E0⟩
 ·rintro o k (d | d)
  ·exact Adj (S.jlt o k d) size
  ·exact S1.jlt o k d
 ·rintro k (d | d)
  ·exact .inl (S.jft k d)
  ·exact .inr (S1.jft k d)
 ·by_cases e:b ∈ D
  ·have v:=hD b x e y j
   rcases S1.blk b x v j V with⟨z,U⟩ | ⟨k,o,cs,ty,fr,z,U,h5,h6,h7,h8,h9⟩
   ·exact .inl ⟨by simp[e,z],U⟩
   ·refine .inr ⟨k,o,cs,ty,fr,by simp[e,z],U,h5,h6,h7.ext E0,fun hs g d=>?_,fun hs=>.inr (h9 hs)⟩
    rcases d with d | d
    ·by_cases G:k<w.heap.size
     ·obtain⟨I,x',o',q,u,m,C,i⟩:=wr k ⟨b,x,o,v,j,hs,z⟩ G
      exact S.unJ u m C i g d
     ·exact G (S.jlt g k d)
    ·exact h8 hs g d
  ·have v:=out e y
   rcases S.blk b x v j V with⟨z,U⟩ | ⟨k,o,cs,ty,fr,z,U,h5,h6,h7,h8,h9⟩
   ·exact .inl ⟨by simp[e,z],U⟩
   ·have G:=Ng U
    have F:x.sealed=false→¬ ∃ b x o,b ∈ ids∧Ag h b=some x∧x.dead=false∧x.sealed=false∧β b=some (k,o):=by
     rintro hs ⟨I,x',o',q,u,m,C,i⟩
     have:=S.sep b I x x' k o o' v u j m hs z i
     subst this
     exact e (A b q)
    have same:w'.heap[k]?=w.heap[k]?:=by
     cases hs:x.sealed with
     | false=>exact frame k G (F hs)
     | true=>exact keepJ _ k (h9 hs)
    refine .inr ⟨k,o,cs,ty,fr,by simp[e,z],by rw[same];exact U,h5,h6,h7.ext E,fun hs g d=>?_,fun hs=>.inl (h9 hs)⟩
    rcases d with d | d
    ·exact h8 hs g d
    ·rcases jup g k d with d | d | d
     ·exact h8 hs g d
     ·exact F hs d
     ·omega
 ·intro b I x x' k o o' y u j m hs s i
  by_cases e:b ∈ D<;>by_cases q:I ∈ D
  ·simp[e] at s;simp[q] at i
   exact S1.sep b I x x' k o o' (hD b x e y j) (hD I x' q u m) j m hs s i
  ·exfalso
   simp[e] at s;simp[q] at i
   have v:=out q u
   have G:=La S v m i
   obtain⟨b2,x2,o2,X,K,L,T,O⟩:=wr k ⟨b,x,o,hD b x e y j,j,hs,s⟩ G
   have:=S.sep b2 I x2 x' k o2 o' K v L m T O i
   subst this
   exact q (A _ X)
  ·exfalso
   simp[e] at s;simp[q] at i
   have v:=out e y
   have z:=hD I x' q u m
   have G:=La S v j s
   have F:¬ ∃ b x o,b ∈ ids∧Ag h b=some x∧x.dead=false∧x.sealed=false∧β b=some (k,o):=by
    rintro⟨b2,x2,o2,X,K,L,T,O⟩
    have:=S.sep b b2 x x2 k o o2 v K j L hs s O
    subst this
    exact e (A _ X)
   cases C:x'.sealed with
   | false=>exact F (wr k ⟨I,x',o',z,m,C,i⟩ G)
   | true =>
    rcases jup _ k (S1.seJ z m C i) with d | d | d
    ·exact S.unJ v j hs s _ d
    ·exact F d
    ·omega
  ·simp[e] at s;simp[q] at i
   exact S.sep b I x x' k o o' (out e y) (out q u) j m hs s i
 ·intro k G V
  exact frame k G (fun ⟨b,x,o,_,y,j,hs,s⟩=>V ⟨b,x,o,y,j,hs,s⟩)
 ·rintro k ⟨b,x,o,y,j,hs,s⟩ G
  by_cases e:b ∈ D
  ·simp[e] at s
   obtain⟨b2,x2,o2,_,K,L,T,O⟩:=wr k ⟨b,x,o,hD b x e y j,j,hs,s⟩ G
   exact⟨b2,x2,o2,K,L,T,O⟩
  ·simp[e] at s
   exact⟨b,x,o,out e y,j,hs,s⟩
 ·rintro o k (d | d)
  ·exact .inl d
  ·rcases jup o k d with d | ⟨b,x,o2,_,y,j,hs,s⟩ | d
   ·exact .inl d
   ·exact .inr (.inl ⟨b,x,o2,y,j,hs,s⟩)
   ·exact .inr (.inr d)
theorem pJ {l:List Nat}:j0 l=true↔l=[]:=by cases l<;>simp[j0]
theorem Zg {α β:Type} {f:α→β}:∀ {l:List α},(l.map f).Nodup→l.Nodup
 | [],_=>Af6
 | a::r,h=>by
  rw[Acc,Acu] at h
  exact Acu.2 ⟨fun b=>h.1 (Acs.2 ⟨a,b,rfl⟩),Zg h.2⟩
theorem Zh {α:Type} {p:α→Bool}:∀ {l:List α},l.Nodup→(l.filter p).Nodup
 | [],_=>Af6
 | a::r,h=>by
  rw[Acu] at h
  rw[Adn]
  split
  ·exact Acu.2 ⟨fun b=>h.1 (Ad3.1 b).1,Zh h.2⟩
  ·exact Zh h.2
theorem MU {base:Nat} {l:List Nat} {p:Nat×Nat} (b:p ∈ At base l):p.1 ∈ l:=by
 have:p.1 ∈ (At base l).map (·.1):=Acs.2 ⟨p,b,rfl⟩
 rw[Hq] at this;exact this
theorem rA {σ:Nat→Nat}:∀ {l:List Nat} {a b:Nat},(l.map σ).Nodup→a ∈ l→b ∈ l→σ a=σ b→a=b
 | [],a,b,_,j,_,_=>by simp at j
 | i::r,a,b,hn,j,m,k=>by
  rw[Acc,Acu] at hn
  rcases Ach.1 j with d | d<;>rcases Ach.1 m with e | e
  ·rw[d,e]
  ·subst d;exact absurd (Acs.2 ⟨b,e,k.symm⟩) hn.1
  ·subst e;exact absurd (Acs.2 ⟨a,d,k⟩) hn.1
  ·exact rA hn.2 d e k
theorem tg {E:Env} (hT:bS E.P E.tbl):KT E:=by
 intro R r k J β h w g d f args vs S hl hh hv
 unfold iD at hh
 obtain⟨⟨args',im,fz⟩,I,h1⟩:=ub hh
 simp only at h1
 obtain⟨s,h2⟩:=uc h1
 simp only[Ab6] at s
 obtain⟨X,him,Y,hdj,u,_⟩:=s
 generalize hids:Tr g im=ids at *
 generalize hρ:Gz 0 (At 100000 ids)=ρ at *
 have X:=DM X
 have him:=Lk him
 have hdj:=qz hdj
 have u:=Ow u
 have hg:∀ b ∈ ids,g b=Ag h b:=fun b j=>by obtain⟨x,m,_⟩:=X b j;rw[m,hl b x m]
 rw[Vb (g:=Ag h) hg] at Y
 have Y:=Lk Y
 rw[iM (g':=Ag h) hg] at h2
 obtain⟨hA,hB⟩:=T1 (fz:=fz) S hl I (fun _ h=>h) hv
 have aliveH:∀ b ∈ ids,∃ x,Ag h b=some x∧x.dead=false:=fun b j=>by obtain⟨x,m,K⟩:=X b j;exact⟨x,hl b x m,K⟩
 have SJ:SimH (JS J β h fz) (BO ρ ids β) (sub (Ag h) ρ ids) w:=by
  refine(S.ren u Y).grow (fun o k v=>.inl v) ?_ ?_ ?_
  ·rintro o k (v | ⟨_,b,x,o',_,m,K,_,hβ⟩)
   ·exact S.jlt o k v
   ·exact La S m K hβ
  ·rintro k (v | ⟨h0,_⟩)
   ·exact .inl (S.jft k v)
   ·cases h0
  ·intro c y k o hy K hs hβ q v
   obtain⟨b,x,j,rfl,m,rfl⟩:=Kp u c y hy
   rw[Fh u j] at hβ
   rcases v with v | ⟨_,b',x',o',hb',hx',hd',hs',hβ'⟩
   ·exact S.unJ m K hs hβ _ v
   ·have:=S.sep b b' x x' k o o' m hx' K hd' hs hβ hβ'
    subst this
    exact hdj b hb' j
 have RJ:Reps (JS J β h fz) (BO ρ ids β) (sub (Ag h) ρ ids) w (Rs ρ args') vs:=Reps.ren u (fun b j=>him b (hB b j)) hA
 obtain⟨rv,rh,hF,h3⟩:=mV hT h2
 have hcall:=hF _ _ w vs SJ RJ
 obtain⟨C,h4⟩:=oa h3
 obtain⟨hc2,h5⟩:=uc h4
 simp only[Ab6] at hc2
 obtain⟨L,hn16,hrv,A,O,z⟩:=hc2
 generalize hall:Tr (Ag rh) (Ff rv++(At 100000 ids).map (·.2))=all at *
 generalize T:all.filter (fun b=>!Gm ((At 100000 ids).map (·.2)) b)=new at *
 generalize hσ:Gz 0 ((At 100000 ids).map (fun p=>(p.2,p.1))++At (nid d) new)=σ at *
 have L:=DM L
 have hrv:=Lk hrv
 have A:=Lk A
 have O:=Lk O
 have z:=Ow z
 have hn16:new.length≤16:=by simpa using hn16
 refine⟨_,_,h5,fun hfree=>Calls.mono hcall ?_⟩
 rintro e w' ⟨vc,J',β',rfl,F,hR⟩
 refine⟨vc,rfl,?_⟩
 have back:∀ b ∈ ids,σ (ρ b)=b:=by
  intro b j
  rw[←hσ,Sd,if_pos,←hρ]
  ·exact bW j
  ·rw[Aeh]
   have:=Xo (d:=0) (l:=At 100000 ids) (b:=b) (by rw[Hq];exact j)
   rw[hρ] at this
   exact this
 have ρall:∀ b ∈ ids,ρ b ∈ all:=by
  intro b j
  refine A _ ?_
  have:=Xo (d:=0) (l:=At 100000 ids) (b:=b) (by rw[Hq];exact j)
  rw[hρ] at this
  exact this
 have σout:∀ c ∈ all,c ∈ (At 100000 ids).map (·.2)→σ c ∈ ids:=by
  intro c _ s
  rw[←hσ,Sd,if_pos (by rw[Aeh];exact s)]
  have:=Xo (d:=0) (l:=(At 100000 ids).map (fun p=>(p.2,p.1))) (b:=c) (by rw[Aeh];exact s)
  rw[Aeh] at this
  have e:(At 100000 ids).map ((fun x=>x.2)∘fun p=>(p.2,p.1))=ids:=Hq
  rw[e] at this
  exact this
 have newmem:∀ c ∈ new,c ∈ all∧c ∉ (At 100000 ids).map (·.2):=by
  intro c s
  rw[←T] at s
  obtain⟨U,h7⟩:=Ad3.1 s
  refine⟨U,fun G=>?_⟩
  rw[Is.2 G] at h7;simp at h7
 have σnew:∀ c ∈ new,σ c=Gz 0 (At (nid d) new) c:=by
  intro c s
  rw[←hσ,Sd,if_neg]
  rw[Aeh];exact(newmem c s).2
 have allcases:∀ c ∈ all,c ∈ (At 100000 ids).map (·.2)∨c ∈ new:=by
  intro c s
  by_cases G:c ∈ (At 100000 ids).map (·.2)
  ·exact .inl G
  ·refine .inr ?_
   rw[←T]
   refine Ad3.2 ⟨s,?_⟩
   cases hq:Gm ((At 100000 ids).map (·.2)) c with
   | false=>rfl
   | true=>exact absurd (Is.1 hq) G
 generalize V:((At 100000 ids).map fun p=>(p.1,(Ag rh p.2).map (U3 σ)))++(At (nid d) new).map (fun p=>(p.2,(Ag rh p.1).map (U3 σ)))=ups at *
 have keys:ups.map (·.1)=ids++(At (nid d) new).map (·.2):=by
  rw[←V,Ade,Aeh,Aeh]
  congr 1
  exact Hq
 have newFree:∀ c ∈ (At (nid d) new).map (·.2),Ag h c=none:=by
  intro c s
  refine hfree c (SE.2 (by rw[keys];exact Aca.2 (.inr s))) ?_
  have:=Oz s
  unfold Xf
  simp;omega
 have keysN:(ups.map (·.1)).Nodup:=by
  rw[keys,List.nodup_append]
  refine⟨Zg u,T2,fun a ha b j e=>?_⟩
  subst e
  obtain⟨x,m,_⟩:=aliveH a ha
  rw[newFree a j] at m;cases m
 have upsOld:∀ b ∈ ids,(b,(Ag rh (ρ b)).map (U3 σ)) ∈ ups:=by
  intro b j
  rw[←V]
  refine Aca.2 (.inl (Acs.2 ⟨(b,ρ b),?_,rfl⟩))
  rw[←hρ];exact DN j
 have upsNew:∀ c ∈ new,(σ c,(Ag rh c).map (U3 σ)) ∈ ups:=by
  intro c s
  rw[←V]
  refine Aca.2 (.inr (Acs.2 ⟨(c,σ c),?_,rfl⟩))
  rw[σnew c s];exact DN s
 have J0:∃ J0:Bool→Nat→Prop,SimH J0 β' rh w'∧Rep J0 β' rh w' rv vc∧∀ o k,J0 o k→J o k∨li (BO ρ ids β) (sub (Ag h) ρ ids) k∨w.heap.size≤k:=by
  cases he:j0 fz with
  | true =>
   have:=pJ.1 he
   subst this
   refine⟨J',F.sim,hR,fun o k v=>?_⟩
   rcases F.jup o k v with(v | ⟨_,b,x,o',j,_⟩) | v
   ·exact .inl v
   ·simp at j
   ·exact .inr v
  | false =>
   rw[he] at C
   simp at C
   refine⟨fun _=>J' false,F.sim.noOrg C.2,Rep.noOrg C.1 hR,fun o k v=>?_⟩
   rcases F.jup false k v with(U | ⟨h0,_⟩) | U
   ·left
    cases o
    ·exact U
    ·exact S.jft k U
   ·cases h0
   ·exact .inr U
 obtain⟨J0,S0,R0,jup0⟩:=J0
 have S1:=S0.ren z O
 have R1:=Rep.ren z hrv R0
 have M:=Step.merge (J:=J) (J0:=J0) (J1:=J0) (H:=Ah ups h) (D:=ids++(At (nid d) new).map (·.2)) (ids:=ids) S S1
  (fun b j=>B3 _ _ _ (by
   cases hi:A3 ups b with
   | false=>rfl
   | true=>exact absurd (by rw[←keys];exact SE.1 hi) j))
  (fun b x j m K=>by
   rcases Aca.1 j with j | j
   ·rw[Js keysN (upsOld b j)] at m
    cases hq:Ag rh (ρ b) with
    | none =>
     rw[hq] at m;simp at m
     obtain⟨y,_,rfl⟩:=m
     simp[pI] at K
    | some y =>
     rw[hq] at m;simp at m;subst m
     have:=Vc (g:=Ag rh) z (ρ b) y (ρall b j) hq
     rw[back b j] at this
     exact this
   ·obtain⟨c,s,rfl⟩:∃ c ∈ new,σ c=b:=by
     obtain⟨p,I,rfl⟩:=Acs.1 j
     have hp1:p.1 ∈ new:=MU I
     refine⟨p.1,hp1,?_⟩
     rw[σnew _ hp1]
     have:∀ {base:Nat} {l:List Nat} {p:Nat×Nat},l.Nodup→p ∈ At base l→Gz 0 (At base l) p.1=p.2:=by
      intro base l
      induction l generalizing base with
      | nil=>intro p _ I;simp[At] at I
      | cons i r ih =>
       intro p hn I
       rw[Acu] at hn
       rw[At] at I ⊢
       rw[Gz]
       rcases Ach.1 I with rfl | I
       ·simp
       ·have:p.1 ∈ r:=MU I
        rw[CN (fun e=>hn.1 (by rw[e];exact this))]
        exact ih hn.2 I
     refine this ?_ I
     rw[←T]
     exact Zh (Zg z)
    rw[Js keysN (upsNew c s)] at m
    obtain⟨y,hy,_⟩:=L c s
    rw[hy] at m;simp at m;subst m
    exact Vc (g:=Ag rh) z c y (newmem c s).1 hy)
  (fun b x j=>by
   obtain⟨c,y,s,rfl,hy,rfl⟩:=Kp z b x j
   rcases allcases c s with G | G
   ·have U:=σout c s G
    have h7:ρ (σ c)=c:=by
     have:(all.map σ).Nodup:=z
     have e1:=back (σ c) U
     have e2:=ρall (σ c) U
     exact rA this e2 s e1
    refine⟨Aca.2 (.inl U),?_⟩
    rw[Js keysN (upsOld (σ c) U),h7,hy];rfl
   ·refine⟨Aca.2 (.inr ?_),?_⟩
    ·rw[σnew c G]
     exact Xo (by rw[Hq];exact G)
    ·rw[Js keysN (upsNew c G),hy];rfl)
  (fun b x j hni m=>by
   rcases Aca.1 j with j | j
   ·exact hni j
   ·rw[newFree b j] at m;cases m)
  (fun b x j m=>by
   rw[Js keysN (upsOld b j)]
   cases hq:Ag rh (ρ b) with
   | none=>exact⟨pI x,⟨by simp[m],rfl⟩,.inl rfl⟩
   | some y =>
    cases K:y.dead with
    | true=>have:=F.live _ _ hq;rw[K] at this;cases this
    | false =>
     have e0:=Vc (g:=Ag h) u b x j m
     obtain⟨⟨e1,em⟩,e2,e3,e4⟩:=F.outs (ρ b) _ y e0 hq K
     refine⟨U3 σ y,⟨by simp,em⟩,.inr ?_⟩
     refine⟨e4,?_,e2,fun hmx=>?_⟩
     ·have:=Fh (β:=β') z (ρall b j)
      rw[back b j] at this
      rw[this,e1]
      exact Fh u j
     ·rw[Jr,e3 hmx,Jr])
  (fun b j=>Aca.2 (.inl j))
  F.os F.tape F.output F.size
  (fun k hk G=>F.frame k hk (fun hm'=>G (bX u hm')))
  (fun k G hk=>bX u (F.wr k (jn z G) hk))
  (fun o k v=>by
   rcases jup0 o k v with v | v | v
   ·exact .inl v
   ·exact .inr (.inl (bX u v))
   ·exact .inr (.inr v))
  F.sizes
 exact⟨_,_,M.1,Rep.ext M.2 R1⟩
theorem DO {P:Program} {muts:Nat→List Bool} {T:List (Nat×Tw)} {hs:Hints} {N f:Nat} {args:LA} {h:Ao} {m:AV} {h':Ao} (hT:bS P T) (K:P.follows .mixedOrders=true)
  (u:UU P muts T hs N f args h (fun v h'=>some (v,h'))=some (m,h')):lZ P f args h m h':=by
 unfold UU at u
 split at u
 ·simp at u
 ·rename_i fn L
  split at u
  ·simp at u
  ·rename_i c V
   simp only at u
   obtain⟨z,X⟩:=uc u
   simp only[Ab6] at z
   obtain⟨q,e⟩:=z
   have q:args.length≤fn.ntmps:=by simpa using q
   intro J β w vs S U
   have Y:vs.length=args.length:=((Bx).1 U).1
   refine calls_of_wp L V ?_
   have roots:∀ {h:Ao} {b:Nat} {x:Blk},MI h=true→Ag h b=some x→aP b=true:=by
    intro h
    induction h with
    | nil=>intro b x _ d;simp[Ag] at d
    | cons p r M =>
     intro b x hr d
     obtain⟨i,y⟩:=p
     rw[MI] at hr
     simp at hr
     rw[Ag] at d
     cases hi:beq i b with
     | true=>have:=Ab5 hi;subst this;exact hr.1
     | false=>rw[hi] at d;exact M hr.2 (by simpa using d)
   have sgetI:∀ {args:LA} {j i:Nat},Et (aQ j args) i=if j≤i then (args[i - j]?).getD .undef else .undef:=by
    intro args
    induction args with
    | nil=>intro j i;simp[aQ,Et]
    | cons v r M =>
     intro j i
     rw[aQ,Et]
     cases hi:beq j i with
     | true=>have:=Ab5 hi;subst this;simp
     | false =>
      have:=Rt hi
      simp only[cond_false]
      rw[M]
      by_cases A:j+1≤i
      ·rw[if_pos A,if_pos (by omega),show i - j=(i - (j+1))+1 by omega];simp
      ·rw[if_neg A]
       by_cases k:j≤i
       ·omega
       ·rw[if_neg k]
   have I:Inv ⟨J,β,h,w⟩ fn.ntmps J β { s:=aQ 0 args,h:=h } { tmps:=vs.toArray++Array.replicate (fn.ntmps - vs.toArray.size) undef,defers:=[] } w:=by
    refine⟨S,⟨fun i v hi=>?_,fun i hi=>?_⟩,?_,rfl,rfl,rfl,rfl,Ab3 _,fun _ _ _=>rfl,fun _ K _=>K,fun _ _ O=>O,fun _ _ O=>.inl O,fun _=>Ab3 _,?_,?_,?_⟩
    ·rw[sgetI,if_pos (Ae0 _)]
     by_cases C:i<args.length
     ·have k:args[i - 0]?=some args[i]:=by simp[C]
      rw[k]
      have D:vs[i]?=some v:=by
       rw[Aem (by simp;omega)] at hi
       simpa using hi
      exact((Bx).1 U).2 i _ _ (by simp[C]) D
     ·have k:args[i - 0]?=none:=by simp;omega
      rw[k];simp[Rep]
    ·simp at hi
     rw[sgetI,if_pos (Ae0 _)]
     have k:args[i - 0]?=none:=by simp;omega
     rw[k];rfl
    ·simp;omega
    ·intro b x0 d;exact(bR.1 (roots e d)).2
    ·intro b x0 d;exact(bR.1 (roots e d)).1
    ·intro b x0 x d F hd
     change Ag h b=some x0 at d
     change Ag h b=some x at F
     rw[d] at F;simp at F;subst F
     exact⟨⟨rfl,rfl⟩,rfl,fun _=>rfl,hd⟩
   have fin:∀ st' G w' J' β',Inv ⟨J,β,h,w⟩ fn.ntmps J' β' st' G w'→Po { P:=P,nt:=fn.ntmps,muts:=muts,nils:=hs.nils,free:=hs.free,cob:=hs.cob,tbl:=T } fn hs.modes (h.map (·.1)) (fun v h'=>some (v,h')) st'=some (m,h') →
     G.defers=[]∧∃ v,(results fn G.tmps).run P w'=.ok v w'∧∃ vc J' β',Ending.returned v=.returned vc∧FDone ⟨J,β,h,w⟩ J' β' h' w'∧Rep J' β' h' w' m vc:=by
    intro st' G w' J' β' I' k
    obtain⟨Dp,h2',vc,J2,β2,D,h4,h5,h6⟩:=fc I' k
    simp at D
    obtain⟨rfl,rfl⟩:=D
    exact⟨I'.defers,vc,h4,vc,J2,β2,rfl,h5,h6⟩
   exact mU (E:={ P:=P,nt:=fn.ntmps,muts:=muts,nils:=hs.nils,free:=hs.free,cob:=hs.cob,tbl:=T }) (tg hT) K c I X fin (fun _ _ _ _ _ _ _ k=>by simp at k) fin
end Gx
namespace Gx
open Go
section
variable {R R':Type}
theorem pK (E:Env) (ops:Array Oper) (o:Oper) (st:St) (k:St→Foot→O R) (g:R→Option R'):(ld E ops o st k).bind g=ld E ops o st fun st f=>(k st f).bind g:=by
 rw[GL,GL,Abz]
theorem jq (ops:Array Oper) (o:Oper) (st:St) (k:St→O R) (g:R→Option R'):(RS ops o st k).bind g=RS ops o st fun st=>(k st).bind g:=by
 unfold RS
 split
 ·rfl
 ·split
  ·rfl
  ·split
   ·rw[Aj]
   ·rfl
theorem bY (E:Env) (ops:Array Oper) (g:R→Option R'):∀ (l:List Oper) (st:St) (tr:List Foot) (k:St→List Foot→O R),(aM E ops l st tr k).bind g=aM E ops l st tr fun st tr=>(k st tr).bind g
 | [],st,tr,k=>rfl
 | o::r,st,tr,k=>by
  rw[aM,aM,jq]
  congr 1;funext st
  rw[pK]
  congr 1;funext st f
  exact bY E ops g r st (f::tr) k
theorem fg (E:Env) (roots:List Nat) (ops:Array Oper) (draw:Bool) (st:St) (k:St→O R) (g:R→Option R'):(Y5 E roots ops draw st k).bind g=Y5 E roots ops draw st fun st=>(k st).bind g:=by
 unfold Y5
 rw[bY]
 congr 1;funext st tr
 rw[Aj,Abz];rfl
theorem pL (E:Env) (roots:List Nat) (H:Hint) (f:St→O R) (g:R→Option R') (st:St):(lf E roots H f st).bind g=lf E roots H (fun st=>(f st).bind g) st:=by
 unfold lf
 rw[Aj,Abz,Pn,Pn]
theorem VN (cn:St→Option St) (b:(St→O R)→St→O R) (d:(St→Option R')→St→Option R') (g:R→Option R') (e:∀ k st,(b k st).bind g=d (fun st=>(k st).bind g) st):∀ n st,(BH cn b n st).bind g=BH cn d n st
 | 0,st=>rfl
 | n+1,st=>by
  rw[BH,BH,e]
  congr 1;funext st
  rw[Abz]
  congr 1;funext st
  exact VN cn b d g e n st
theorem mZ (E:Env) (roots:List Nat) (N:Nat) (g:R→Option R'):∀ (c:Code) (H:Hint) (k:St→O R) (x:Nat→St→O R) (r:St→O R) (st:St),
  (De E roots N c H k x r st).bind g=De E roots N c H (fun st=>(k st).bind g) (fun j st=>(x j st).bind g) (fun st=>(r st).bind g) st:=by
 intro c
 induction c with
 | skip=>intro H k x r st;rfl
 | region id ops draw=>intro H k x r st;exact fg ..
 | seq a b d e =>
  intro H k x r st
  rw[De,De,d]
  congr 1;funext st
  rw[pL]
  congr 1;funext st
  exact e ..
 | cond c a b d e =>
  intro H k x r st
  rw[De,De]
  split
  ·rw[Aj,d,e]
  ·rfl
 | block id c i =>
  intro H k x r st
  rw[De,De,i]
  simp only[Aj]
 | loop c i =>
  intro H k x r st
  rw[De,De,Abz,Pn,Pn]
  congr 1;funext st
  exact VN _ _ _ g (fun k st=>i ..) N st
 | exit id=>intro H k x r st;rfl
 | ret=>intro H k x r st;rfl
 | rangeFunc=>intro H k x r st;rfl
 | scope=>intro H k x r st;rfl
 | label=>intro H k x r st;rfl
 | goto=>intro H k x r st;rfl
 | refuse=>intro H k x r st;rfl
theorem Wp (E:Env) (st:St) (g:R→Option R'):∀ (l:List ResultVar) (b:LA) (k:LA→O R),(Kl E st l b k).bind g=Kl E st l b fun l=>(k l).bind g
 | [],b,k=>rfl
 | .tmp t::r,b,k=>by rw[Kl,Kl];exact Wp E st g r _ k
 | .cell a t::r,b,k=>by
  rw[Kl,Kl,Ze,Ze (R:=R'),Abz]
  congr 1;funext v
  exact Wp E st g r _ k
theorem fh (E:Env) (fn:Func) (modes:List (Nat×Nat)) (outs:List Nat) (k:AV→Ao→O R) (g:R→Option R') (st:St):(Po E fn modes outs k st).bind g=Po E fn modes outs (fun v h=>(k v h).bind g) st:=by
 unfold Po
 rw[Wp]
 congr 1;funext l
 rw[Abz]
 congr 1;funext q
 rw[Aj];rfl
theorem KZ (P:Program) (muts:Nat→List Bool) (T:List (Nat×Tw)) (hs:Hints) (N f:Nat) (args:LA) (h:Ao) (k:AV→Ao→O R) :
  UU P muts T hs N f args h k=(UU P muts T hs N f args h fun v h=>some (v,h)).bind fun p=>k p.1 p.2:=by
 unfold UU
 split
 ·rfl
 ·split
  ·rfl
  ·simp only
   rw[Aj,mZ]
   simp only[fh]
   rfl
structure Cut (R:Type) where
 c:Code
 H:Hint
 k:St→O R
 x:Nat→St→O R
 r:St→O R
noncomputable def wq (E:Env) (roots:List Nat) (N:Nat):List Nat→Code→Hint→(St→O R)→(Nat→St→O R)→(St→O R)→List (St→O R)→Cut R
 | [],c,H,k,x,r,_=>⟨c,H,k,x,r⟩
 | d::p,.seq a b,H,k,x,r,ks=>cond (beq d 0) (wq E roots N p a H.a (lf E roots H fun st=>De E roots N b H.b k x r st) x r ks) (wq E roots N p b H.b k x r ks)
 | d::p,.cond _ a b,H,k,x,r,ks=>cond (beq d 0) (wq E roots N p a H.a k x r ks) (wq E roots N p b H.b k x r ks)
 | _::p,.block id c,H,k,x,r,ks=>wq E roots N p c H.a k (fun j st=>cond (beq j id) (k st) (x j st)) r ks
 | _::p,.loop c,H,_,x,r,q::ks=>wq E roots N p c H.a (fun st=>(BG E H.live roots st).bind q) x r ks
 | _::_,c,H,k,x,r,_=>⟨c,H,k,x,r⟩
def m0:Code→Code
 | .loop c=>c
 | c=>c
structure CutB (R:Type) where
 E:Env
 roots:List Nat
 N:Nat
 c:Cut R
noncomputable def Bv (q:CutB R) (st:St):O R:=De q.E q.roots q.N q.c.c q.c.H q.c.k q.c.x q.c.r st
noncomputable def pM (q:CutB R) (st:St):O R:=tV true (fun st=>De q.E q.roots q.N q.c.c q.c.H q.c.k q.c.x q.c.r st) st
theorem sG (q:CutB R) (st:St):pM q st=Bv q st:=by unfold pM;rw[Pn];rfl
noncomputable def Am (q:CutB R) (n:Nat) (st:St):O R:=BH (BG q.E q.c.H.live q.roots) (fun k st=>De q.E q.roots q.N (m0 q.c.c) q.c.H.a k q.c.x q.c.r st) n st
noncomputable def th (q:CutB R) (st:St):O R:=tV true (BH (BG q.E q.c.H.live q.roots) (fun k st=>De q.E q.roots q.N (m0 q.c.c) q.c.H.a k q.c.x q.c.r st) q.N) st
theorem ti (q:CutB R) (st:St):th q st=Am q q.N st:=by unfold th;rw[Pn];rfl
def wt (fn:Func):Code:=match fn.body with | some c=>c | none=>.skip
def wJ:List (Nat×List Bool)→Nat→List Bool
 | [],_=>[]
 | (i,l)::r,f=>cond (beq i f) l (wJ r f)
end
end Gx
namespace Gx
open Go
abbrev KF (R:Type):=AV→Ao→Option R
abbrev hL:Hint:=.leaf
abbrev hS (a b:Hint):Hint:=.node [] a b
abbrev hP (l:List Nat) (a:Hint):Hint:=.node l a .leaf
abbrev hJ (l:List Nat) (a b:Hint):Hint:=.join l a b
def vP (P:Program) (muts:Nat→List Bool) (nt:Nat) (hs:Hints) (T:List (Nat×Tw)):Env:={ P,nt,muts,nils:=hs.nils,free:=hs.free,cob:=hs.cob,tbl:=T }
noncomputable def Abc {R:Type} (P:Program) (muts:Nat→List Bool) (fn:Func) (hs:Hints) (T:List (Nat×Tw)) (roots:List Nat) (N:Nat) (F:KF R) (p:List Nat) (ks:List (St→O R)):CutB R :=
 ⟨vP P muts fn.ntmps hs T,roots,N,wq (vP P muts fn.ntmps hs T) roots N p (wt fn) hs.H (Po (vP P muts fn.ntmps hs T) fn hs.modes roots F) (fun _ _=>none) (Po (vP P muts fn.ntmps hs T) fn hs.modes roots F) ks⟩
def iv (n:Int):AV:=.int .i64 n
def op (k:Nat):AV:=.optr (300000+k) 0
def Aav:Nat→List Blk→Ao
 | _,[]=>[]
 | i,b::r=>(i,b)::Aav (i+1) r
def hq (l:List Blk):Ao:=Aav 300000 l
def bQ (sz:Nat) (c:LA):Blk:=⟨false,false,true,false,sz,c,false,none⟩
def bN (sz:Nat) (c:LA):Blk:=⟨false,false,false,false,sz,c,false,none⟩
def bP (t:Bool) (sz:Nat) (c:LA):Blk:=⟨false,false,true,t,sz,c,false,none⟩
def An {R:Type} (kd:IntKind) (c:LA) (k:Int→O R):O R:=(c.head?).bind fun x=>(CU kd x).bind k
def L_ {R:Type} (c:LA) (k:Bool→O R):O R:=(c.head?).bind fun x=>(asBool x).bind k
def IP {R:Type} (c:LA) (k:Lu→O R):O R:=(c.head?).bind fun x=>(UO x).bind k
def Az {R:Type} (sz:Nat) (c:LA) (k:LA→Nat→O R):O R:=(c.head?).bind fun x=>(l7 sz x).bind fun p=>k p.1 p.2
def pN (k:IntKind) (a b:Int):Int:=k.wrap ((BitVec.ofInt k.bits a &&& BitVec.ofInt k.bits b).toNat:Int)
def bZ (k:IntKind) (a b:Int):Int:=k.wrap ((BitVec.ofInt k.bits a ||| BitVec.ofInt k.bits b).toNat:Int)
theorem oY {α δ:Type} (f:α→δ) {a b:α} (d:a=b):f a=f b:=by rw[d]
end Gx
namespace Gx
open Go Go.RowKit
theorem sH {P:Program} {f:Nat} {t:Tw} (j:fb P f t) {W:World} {avs:LA} {vs:List Value} (hr:Reps (fun _ k=>k<W.heap.size) (fun _=>none) [] W avs vs)
  (i:(t.runK avs [] fun v h=>some (v,h))=some (.bool true,[])) (m:GlobOk (fun _ k=>k<W.heap.size) W):Calls P f vs.toArray W fun e w'=>e=.returned (.bool true)∧Below W.heap.size W w':=by
 have S:SimH (fun _ k=>k<W.heap.size) (fun _=>none) [] W:=⟨fun _ _ h=>h,fun _ h=>h,m,fun b x d=>by simp[Ag] at d,fun b x d=>by simp[Ag] at d,fun b u x x' k o o' d=>by simp[Ag] at d⟩
 refine Calls.mono (j avs [] _ _ i _ _ W vs S hr) ?_
 rintro e w' ⟨vc,J',β',rfl,F,q⟩
 rw[Rep] at q;subst q
 refine⟨rfl,F.os,F.tape,F.output,F.size,fun k s=>F.frame k s ?_⟩
 rintro⟨b,x,o,d,_⟩
 change Ag [] b=some x at d
 simp[Ag] at d
structure Opens (P:Program) (t:TypeId) {α:Type} (e:α→List AV) (n:Nat):Prop where
 size:P.cellsOf t=n
 pos:0<n
 len:∀ a,(e a).length=n
 read:∀ {H:Type} (enc:TypeId×Value→H) (W:World) (fuel:Nat) (cs:List Value) (d:DataW H) (ps:List MemPlace),DataW.trod enc P W 0 (fun _=>true) true fuel t cs=some (d,ps) →
  cs.length=n∧∃ a,RepCs (fun k=>k<W.heap.size) W (e a) (fun j=>cs[j]?) 0
theorem SF {P:Program} {t:TypeId} {k:IntKind} (b:P.underlying t=some (.int k)) (e:P.cellsOf t=1):Opens P t (α:={ n:Int // (Lit.int k n).wf=true }) (fun n=>[.int k n.1]) 1:=by
 refine⟨e,by omega,fun _=>rfl,fun enc W fuel cs d ps h=>?_⟩
 obtain⟨n,rfl,_,i⟩:=DataW.trod_int b h
 exact⟨rfl,⟨n,i⟩,by simp[RepCs,RepC]⟩
theorem b7 {P:Program} {t:TypeId} (e:P.underlying t=some .bool) (i:P.cellsOf t=1):Opens P t (α:=Bool) (fun b=>[.bool b]) 1:=by
 refine⟨i,by omega,fun _=>rfl,fun enc W fuel cs d ps h=>?_⟩
 obtain⟨b,rfl,_⟩:=DataW.trod_bool e h
 exact⟨rfl,b,by simp[RepCs,RepC]⟩
theorem DP {α β:Type} {e:α→List β} {n:Nat} (hn:0<n) (b:∀ a,(e a).length=n):∀ (l:List α) (j:Nat),(l.flatMap e)[j]?=(l[j/n]?).bind fun a=>(e a)[j%n]?
 | [],j=>by simp
 | a::r,j=>by
  rw[Ad0]
  by_cases d:j<n
  ·rw[Aep (by rw[b];exact d),Aen d,Adg d];simp
  ·rw[Aec (by rw[b];omega),b,DP hn b r (j - n)]
   have i:j/n=(j - n)/n+1:=by
    have:=Nat.add_div_right (j - n) hn
    rw[show j - n+n=j by omega] at this;exact this
   have k:j%n=(j - n)%n:=by
    have:=Nat.add_mod_right (j - n) n
    rw[show j - n+n=j by omega] at this;exact this
   rw[i,k];simp
theorem DQ {α β:Type} {e:α→List β} {n:Nat} (b:∀ a,(e a).length=n):∀ (l:List α),(l.flatMap e).length=l.length*n
 | []=>by simp
 | a::r=>by rw[Ad0,Ab4,b,DQ b r,Acd,Agi];omega
theorem m7 {α β:Type} {f:α→Option β}:∀ {l:List α} {r:List β},l.mapM f=some r→r.length=l.length∧∀ (i:Nat) (a:α),l[i]?=some a→f a=r[i]?
 | [],r,h=>by simp at h;subst h;simp
 | x::l,r,h=>by
  rw[Af5] at h
  cases b:f x with
  | none=>simp[b] at h
  | some y =>
   cases d:l.mapM f with
   | none=>simp[b,d] at h
   | some ys =>
    simp[b,d] at h
    subst h
    obtain⟨e,j⟩:=m7 d
    refine⟨by simp[e],fun i a hi=>?_⟩
    cases i with
    | zero=>simp at hi;subst hi;simpa using b
    | succ i=>simpa using j i a (by simpa using hi)
theorem Mw {P:Program} {t G:TypeId} {α:Type} {e:α→LA} {n:Nat} (Y:P.underlying t=some (.slice G)) (hc:P.cellsOf t=1) (v:Opens P G e n) :
  Opens P t (α:={ l:List α // l.length≤maxLen }) (fun l=>[.imm (l.1.flatMap e) l.1.length n false false]) 1:=by
 refine⟨hc,by omega,fun _=>rfl,fun enc W fuel cs d ps h=>?_⟩
 cases fuel with
 | zero=>simp[DataW.trod] at h
 | succ fuel =>
  unfold DataW.trod at h
  simp only[Y] at h
  split at h
  all_goals first | (rename_i b;simp at b;done) | (rename_i b _;simp at b;done) | (rename_i b _ _;simp at b;done) | skip
  ·refine⟨rfl,⟨[],by simp⟩,?_⟩
   simp[RepCs,RepC]
  ·rename_i e' a len cap b
   simp at b;subst b
   split at h
   ·rename_i z
    obtain⟨hb,hlc,hcm⟩:=z
    refine⟨rfl,?_⟩
    cases M:(List.range len).mapM (fun i=>(W.cells? 0 (a.add (i*P.cellsOf G)) (P.cellsOf G)).bind (DataW.trod enc P W 0 (fun _=>true) true fuel G)) with
    | none=>rw[M] at h;simp at h
    | some IE =>
     obtain⟨h1,V⟩:=m7 M
     rw[v.size] at V
     have each:∀ i:Nat,i<len→∃ x:α,∃ cs,W.cells? 0 (a.add (i*n)) n=some cs∧RepCs (fun k=>k<W.heap.size) W (e x) (fun j=>cs[j]?) 0:=by
      intro i hi
      have I:=V i i (by simp[hi])
      rw[Ab1 (by rw[h1];simpa using hi)] at I
      cases q:W.cells? 0 (a.add (i*n)) n with
      | none=>rw[q] at I;simp at I
      | some cs =>
       rw[q] at I
       obtain⟨_,x,b⟩:=v.read enc W fuel cs _ _ I
       exact⟨x,cs,rfl,b⟩
     have build:∀ m,m≤len→∃ l:List α,l.length=m∧∀ i x,l[i]?=some x→∃ cs,W.cells? 0 (a.add (i*n)) n=some cs∧RepCs (fun k=>k<W.heap.size) W (e x) (fun j=>cs[j]?) 0:=by
      intro m
      induction m with
      | zero=>intro _;exact⟨[],rfl,by simp⟩
      | succ m ih =>
       intro M
       obtain⟨l,L,A⟩:=ih (by omega)
       obtain⟨x,cs,O,S⟩:=each m (by omega)
       refine⟨l++[x],by simp[L],fun i y D=>?_⟩
       rw[Acr] at D
       split at D
       ·exact A i y D
       ·have:i=m:=by
         have:=(Ab7.1 D).1
         simp at this;omega
        subst this
        simp[L] at D;subst D
        exact⟨cs,O,S⟩
     obtain⟨l,L,A⟩:=build len (Ab3 _)
     refine⟨⟨l,by omega⟩,?_⟩
     simp only[RepCs,RepC,and_true]
     refine⟨_,rfl,?_,some a,cap,by rw[L],by omega,by simp,?_⟩
     ·exact DQ v.len l
     ·by_cases h0:l.length=0
      ·exact .inl h0
      ·right
       refine⟨a,rfl,?_,?_⟩
       ·obtain⟨x,cs,b,_⟩:=each 0 (by omega)
        have:=World.cells?_block b v.pos
        rwa [Mv] at this
       ·rw[Bg]
        intro j x F
        rw[DP v.pos v.len] at F
        cases hq:l[j/n]? with
        | none=>rw[hq] at F;simp at F
        | some y =>
         rw[hq] at F
         simp at F
         obtain⟨cs,q,s⟩:=A (j/n) y hq
         rw[Bg] at s
         obtain⟨u,K,T⟩:=s (j%n) x F
         refine⟨u,?_,T⟩
         obtain⟨_,X,C⟩:=World.cells?_some q
         have U:j%n<n:=Aeg _ v.pos
         have:=C (j%n) U
         rw[Addr.add_add,show j/n*n+j%n=j by rw[Ado];exact Ad4 j n] at this
         simp only[Ab8] at K ⊢
         rw[this];exact K
   ·simp at h
  ·simp at h
theorem pO {J:Bool→Nat→Prop} {β:Bu} {w w':World} (S:SimH J β [] w) (B:Below w.heap.size w w'):SimH J β [] w' :=
 ⟨fun o k h=>Adj (S.jlt o k h) B.size,S.jft,S.gl.to (fun _ h=>h) (fun k e=>B.block k (S.jlt _ k e)),fun b x d=>by simp[Ag] at d,fun b x d=>by simp[Ag] at d,fun b i x x' k o o' d=>by simp[Ag] at d⟩
theorem SG {P:Program} {f:Nat} {args:LA} {d:AV}
  (m:∀ (J:Bool→Nat→Prop) (β:Bu) (w:World) (vs:List Value),GlobOk J w→Reps J β [] w args vs→Calls P f vs.toArray w fun e w'=>∃ vc,e=.returned vc∧Below w.heap.size w w'∧∀ J β w,Rep J β [] w d vc):lZ P f args [] d []:=by
 intro J β w vs S hr
 refine(m J β w vs S.gl hr).mono ?_
 rintro e w' ⟨vc,rfl,B,q⟩
 refine⟨vc,J,β,rfl,⟨pO S B,B.os,B.tape,B.output,B.size,fun k j _=>B.block k j,?_,fun _ _ h=>h,fun _ _ h=>.inl h,fun k=>?_,fun b x0 x i=>by simp[Ag] at i,fun b x i=>by simp[Ag] at i⟩,q _ _ _⟩
 ·rintro k ⟨b,x,o,i,_⟩;simp[Ag] at i
 ·by_cases j:k<w.heap.size
  ·simp[Ar,B.block k j]
  ·simp[Ar,Acq (Adm j)]
theorem vQ {P:Program} {f:Nat} {args:LA} {c:LA} {n sz:Nat} (u:c.length=n*sz)
  (v:∀ (J:Bool→Nat→Prop) (β:Bu) (w:World) (vs:List Value),GlobOk J w→Reps J β [] w args vs→Calls P f vs.toArray w fun e w'=>∃ (cs:Array Value) (ty:TypeId),e=.returned (.slice (some ⟨w.heap.size,0,none⟩) n n)∧w'=w.alloc (.cells cs ty)∧cs.size=n*sz∧RepCs (J false) w c (fun j=>cs[j]?) 0):lZ P f args [] (.own 300000 0 n) [(300000,{ dead:=false,sealed:=false,pure:=true,taint:=false,sz,cells:=c })]:=by
 intro J β w vs S hr
 refine(v J β w vs S.gl hr).mono ?_
 rintro e w' ⟨cs,ty,rfl,rfl,hs,q⟩
 have A:=Step.new (d:=300000) (x:={ dead:=false,sealed:=false,pure:=true,taint:=false,sz,cells:=c }) (ty:=ty) (fr:=(0,0)) (cs:=cs) S rfl rfl rfl FrTy.un0 (by show c.length≤_;omega) ⟨fun _=>q,fun y=>by cases y⟩
 have m:(w.alloc (.cells cs ty)).heap[w.heap.size]?=some (.cells cs ty (0,0)):=by show(w.heap.push _)[_]?=_;simp
 refine⟨_,_,_,rfl,⟨A.sim,A.os,A.tape,A.output,A.size,A.frame,A.wr,A.ext.jsub,A.jup,fun k=>?_,fun b x0 x i=>by simp[Ag] at i,fun b x i=>?_⟩,?_⟩
 ·by_cases s:k<w.heap.size
  ·simp[Ar,Ci w _ s]
  ·simp[Ar,Acq (Adm s)]
 ·rw[Ag] at i
  cases hq:beq 300000 b<;>rw[hq] at i<;>simp[Ag] at i
  subst i;rfl
 ·rw[Rep]
  refine⟨_,_,n,⟨rfl,rfl⟩,rfl,Ab3 _,.inr ⟨w.heap.size,0,rfl,.inr ⟨by simp,?_,by simp[u]⟩⟩⟩
  rw[Cd m,hs];simp
theorem MV {J:Bool→Nat→Prop} {β:Bu} {h:Ao} {w:World} {x:AV} {vs:List Value} (H:Reps J β h w [x] vs):∃ u,vs=[u]∧Rep J β h w x u:=by
 rw[Reps] at H
 obtain⟨u,e,rfl,d,b⟩:=H
 rw[Reps] at b;subst b
 exact⟨u,rfl,d⟩
theorem b8 {J:Bool→Nat→Prop} {β:Bu} {h:Ao} {w:World} {x y:AV} {vs:List Value} (H:Reps J β h w [x,y] vs):∃ u v,vs=[u,v]∧Rep J β h w x u∧Rep J β h w y v:=by
 rw[Reps] at H
 obtain⟨u,i,rfl,b,d⟩:=H
 obtain⟨v,rfl,e⟩:=MV d
 exact⟨u,v,rfl,b,e⟩
theorem GlobOk.tab {J:Bool→Nat→Prop} {w:World} (h:GlobOk J w) {P:Program} {g:Nat} {name:String} {k:IntKind} {zs:List Int} (b:(g,zs.map fun z=>Value.int k z) ∈ qs) (d:P.globalNamed name=some g):Lib.TabIs P w name k zs:=by
 obtain⟨ty,fr,e⟩:=(h.1 _ b).2
 unfold Lib.TabIs World.var?
 rw[d]
 simp only[Acn]
 rw[e]
theorem tj {W:World} {P:Program} {g:Nat} {name:String} {k:IntKind} {zs:List Int} (h:Lib.TabIs P W name k zs) (b:P.globalNamed name=some g):∃ ty fr,W.heap[g]?=some (.cells (zs.map fun z=>Value.int k z).toArray ty fr):=by
 unfold Lib.TabIs World.var? at h
 rw[b] at h
 simp only[Acn] at h
 split at h
 ·rename_i cs ty fr d
  simp at h;subst h
  exact⟨ty,fr,d⟩
 ·cases h
theorem GlobOk.int {J:Bool→Nat→Prop} {w:World} (h:GlobOk J w) {g:Nat} (b:g ∈ o9):∃ m,w.cell? ⟨g,0,none⟩=some (.int .i64 m):=(h.2 g b).2
theorem tk {W:World} {g i:Nat} {v:Value} (h:W.cell? ⟨g,i,none⟩=some v):g<W.heap.size:=by
 rcases Ae5 g W.heap.size with b | b
 ·exact b
 ·simp[World.cell?,Acq b] at h
end Gx
namespace Gx
open Go
structure Bd (P:Program) where
 f:Nat
 run:LA→Ao→Option ((R:Type)→KF R→O R)
 eq:∀ a h g,run a h=some g→∀ (R:Type) (k:KF R),g R k=(g (AV×Ao) fun v h=>some (v,h)).bind fun p=>k p.1 p.2
 ok:∀ a h g res h',run a h=some g→(g (AV×Ao) fun v h=>some (v,h))=some (res,h')→lZ P f a h res h'
def Aaw {R:Type} (k:KF R):Option ((R:Type)→KF R→O R)→O R
 | some g=>g R k
 | none=>none
def Bd.tw {P:Program} (b:Bd P):Tw:=⟨fun {R} a h k=>Aaw k (b.run a h),fun {R} a h k=>by
 cases e:b.run a h with
 | none=>rfl
 | some g=>exact b.eq a h g e R k⟩
theorem Bd.tok {P:Program} (b:Bd P):fb P b.f b.tw:=by
 intro a h i h' d
 have d:Aaw (fun v h'=>some (v,h')) (b.run a h)=some (i,h'):=d
 cases e:b.run a h with
 | none=>rw[e] at d;cases d
 | some g=>rw[e] at d;exact b.ok a h g i h' e d
def vR {P:Program}:List (Bd P)→List (Nat×Tw)
 | []=>[]
 | b::r=>(b.f,b.tw)::vR r
theorem rB {P:Program}:∀ l:List (Bd P),bS P (vR l)
 | []=>trivial
 | b::r=>⟨b.tok,rB r⟩
def Aax {P:Program} (x y:Bd P) (e:x.f=y.f):Bd P:=⟨x.f,fun a h=>match x.run a h with | some g=>some g | none=>y.run a h,fun a h g q=>by
 split at q
 ·cases q;exact x.eq a h _ ‹_›
 ·exact y.eq a h g q,fun a h g res h' q=>by
 split at q
 ·cases q;exact x.ok a h _ res h' ‹_›
 ·rw[e];exact y.ok a h g res h' q⟩
def Abd (P:Program) (muts:Nat→List Bool) (T:List (Nat×Tw)) (hs:Hints) (N f:Nat) (a:LA) (h:Ao):Option ((R:Type)→KF R→O R)→Prop
 | some g=>∀ (R:Type) (F:KF R),UU P muts T hs N f a h F=g R F
 | none=>True
def Abe {P:Program} {muts:Nat→List Bool} (hm:P.follows .mixedOrders=true) (N f:Nat) (l:List (Bd P)) (hs:Hints) (run:LA→Ao→Option ((R:Type)→KF R→O R)) (e:∀ a h,Abd P muts (vR l) hs N f a h (run a h)):Bd P :=
 ⟨f,run,fun a h g q R k=>by
  have H:=e a h;rw[q] at H
  rw[←H,←H];exact KZ ..,fun a h g res h' q hh=>by
  have H:=e a h;rw[q] at H
  rw[←H] at hh;exact DO (rB l) hm hh⟩
theorem lW {R τ:Type} (p:(St→O R)→τ) (q:CutB R):p (th q)=p (Am q q.N):=congrArg p (funext fun _=>ti q _)
theorem jW {R τ:Type} (p:(St→O R)→τ) (q:CutB R):p (pM q)=p (Bv q):=congrArg p (funext fun _=>sG q _)
theorem fi {α δ:Type} {f g:α→δ} (h:∀ a,f a=g a):f=g:=funext h
theorem fj {α β δ:Type} {f g:α→β→δ} (h:∀ a b,f a b=g a b):f=g:=funext fun _=>funext (h _)
theorem zL {α β γ δ:Type} {f g:α→β→γ→δ} (h:∀ a b c,f a b c=g a b c):f=g:=funext fun _=>fj (h _)
theorem wu {α β γ ε δ:Type} {f g:α→β→γ→ε→δ} (h:∀ a b c d,f a b c d=g a b c d):f=g:=funext fun _=>zL (h _)
theorem Aay {α β γ ε ζ δ:Type} {f g:α→β→γ→ε→ζ→δ} (h:∀ a b c d e,f a b c d e=g a b c d e):f=g:=funext fun _=>wu (h _)
def Aaz:Nat→Nat→List Nat→List Nat
 | 0,_,l=>l
 | f+1,n,l=>cond (ble n 1) l (Aaz f (n/4) (n%4::l))
def pz (n:Nat):List Nat:=Aaz 100 n []
def hK:Nat→Hint→Hint
 | 0,h=>h
 | n+1,h=>hS hL (hK n h)
theorem Fc {τ:Type} {f g:Nat→τ} (h:∀ n,f n=g n→f (n+1)=g (n+1)) (h0:f 0=g 0:=by kernel_rfl):∀ n,f n=g n
 | 0=>h0
 | n+1=>h n (Fc h h0 n)
theorem By {α δ:Type} {z:δ} (f:α→δ) {a b:α} (d:a=b) (k:z=f a:=by kernel_rfl):z=f b:=by rw[k,d]
theorem MW {α β δ:Type} {z:δ} (f:α→β→δ) {a d:α} {b e:β} (i:a=d) (j:b=e) (k:z=f a b:=by kernel_rfl):z=f d e:=by rw[k,i,j]
theorem Abf {α β γ δ:Type} {z:δ} (f:α→β→γ→δ) {a d:α} {b e:β} {c i:γ} (j:a=d) (m:b=e) (q:c=i) (k:z=f a b c:=by kernel_rfl):z=f d e i:=by rw[k,j,m,q]
theorem Abg {α β γ ε ζ η δ:Type} {z:δ} (f:α→β→γ→ε→ζ→η→δ) {a i:α} {b j:β} {c m:γ} {d q:ε} {e s:ζ} {g g':η} (u:a=i) (v:b=j) (y:c=m) (A:d=q) (C:e=s) (D:g=g') (k:z=f a b c d e g:=by kernel_rfl):z=f i j m q s g':=by rw[k,u,v,y,A,C,D]
def tm {R:Type} (E:Env) (roots:List Nat) (H:Hint) (f:St→O R) (st:St):O R:=cond H.isJoin ((BG E H.live roots st).bind f) (f st)
theorem tn {R:Type} (E:Env) (roots:List Nat) (H:Hint) (f:St→O R):tm E roots H f=lf E roots H f:=by funext st;unfold tm lf;rw[Pn]
def O0 {R:Type} (E:Env) (roots:List Nat) (N:Nat):Code→Hint→(St→O R)→(Nat→St→O R)→(St→O R)→St→O R
 | .skip,_,k,_,_,st=>k st
 | .region _ ops draw,_,k,_,_,st=>Y5 E roots ops draw st k
 | .seq a b,H,k,x,r,st=>O0 E roots N a H.a (tm E roots H fun st=>O0 E roots N b H.b k x r st) x r st
 | .cond c a b,H,k,x,r,st=>match ev st.s c with
  | .bool t=>cond t (O0 E roots N a H.a k x r st) (O0 E roots N b H.b k x r st)
  | _=>none
 | .block id c,H,k,x,r,st=>O0 E roots N c H.a k (fun j st=>cond (beq j id) (k st) (x j st)) r st
 | .loop c,H,_,x,r,st=>(BG E H.live roots st).bind (BH (BG E H.live roots) (fun k st=>O0 E roots N c H.a k x r st) N)
 | .exit id,_,_,x,_,st=>x id st
 | .ret,_,_,_,r,st=>r st
 | _,_,_,_,_,_=>none
theorem sI {R:Type} (E:Env) (roots:List Nat) (N:Nat):∀ (c:Code) (H:Hint) (k:St→O R) (x:Nat→St→O R) (r:St→O R) (st:St),O0 E roots N c H k x r st=De E roots N c H k x r st:=by
 intro c
 induction c with
 | skip=>intro H k x r st;rfl
 | region id ops draw=>intro H k x r st;rfl
 | seq a b d e =>
  intro H k x r st
  rw[De,O0,d,tn]
  congr 2;funext st
  exact e ..
 | cond c a b d e =>
  intro H k x r st
  rw[De,O0]
  simp only[d,e]
  rfl
 | block id c i=>intro H k x r st;rw[De,O0,i]
 | loop c i =>
  intro H k x r st
  rw[De,O0,Pn]
  have:(fun k st=>O0 E roots N c H.a k x r st)=fun k st=>De E roots N c H.a k x r st:=by funext k st;exact i ..
  rw[this]
 | exit id=>intro H k x r st;rfl
 | ret=>intro H k x r st;rfl
 | rangeFunc=>intro H k x r st;rfl
 | scope=>intro H k x r st;rfl
 | label=>intro H k x r st;rfl
 | goto=>intro H k x r st;rfl
 | refuse=>intro H k x r st;rfl
def iN {R:Type} (P:Program) (muts:Nat→List Bool) (T:List (Nat×Tw)) (hs:Hints) (N f:Nat) (args:LA) (h:Ao) (k:AV→Ao→O R):O R :=
 match P.funcs[f]? with
 | none=>none
 | some fn=>match fn.body with
  | none=>none
  | some c =>
   let E:Env:={ P,nt:=fn.ntmps,muts,nils:=hs.nils,free:=hs.free,cob:=hs.cob,tbl:=T }
   let outs:=h.map (·.1)
   let fin:=Po E fn hs.modes outs k
   cond (ble args.length fn.ntmps&&MI h) (O0 E outs N c hs.H fin (fun _ _=>none) fin { s:=aQ 0 args,h }) none
theorem Xp {R:Type} (P:Program) (muts:Nat→List Bool) (T:List (Nat×Tw)) (hs:Hints) (N f:Nat) (args:LA) (h:Ao) (k:AV→Ao→O R):iN P muts T hs N f args h k=UU P muts T hs N f args h k:=by
 unfold iN UU
 cases P.funcs[f]? with
 | none=>rfl
 | some fn =>
  simp only
  cases fn.body with
  | none=>rfl
  | some c=>simp only;rw[sI]
end Gx
namespace Gx
open Go Go.Proofs
set_option maxRecDepth 100000
noncomputable section
variable {R:Type} (N:Nat)
def muts:Nat→List Bool:=wJ [(18,[true,false,false,false]),(28,[true,false]),(29,[true]),(30,[true,false,false]),(32,[true,false,false,false,false]),(33,[true,false,false,false]),(34,[true,false,false,false]),(37,[true,false,false]),(38,[true,false]),(39,[true,false]),(40,[true]),(42,[true,false]),(44,[true]),(55,[false,false,false,true]),(56,[false,false,true,true,true,true,true,true,true,true]),(59,[true,false]),(60,[true,false]),(61,[true,false,false,false]),(62,[true,false,false,false,false,false,false,false]),(63,[true,false,false,false,false,false]),(65,[true,false,false]),(66,[true,false,false]),(67,[true,false,false]),(68,[true,false,false]),(69,[true,false,false]),(76,[true,false,false]),(77,[true,false]),(78,[true,false,false]),(90,[true]),(91,[true]),(92,[true]),(93,[true]),(94,[true]),(95,[true]),(96,[true]),(97,[true]),(106,[true,false,false,false,false,false]),(108,[true,false,false,false,false,false]),(109,[true,false,false]),(117,[true]),(118,[true,false]),(136,[true,false,false]),(137,[true,false,false,false,false]),(138,[true,false,false,false,false]),(139,[true,false,false,false]),(140,[true,false,true]),(141,[false,true,true,true,true,true,true,true,true]),(142,[false,true,true,true,true,true,true,true,true]),(143,[true,false,false]),(145,[true,false,false]),(146,[false,true,true,true,true,true,true,true,true]),(147,[true,false]),(148,[false,true,true,true,true,true,true,true,true]),(149,[false,true,true,true,true,true,true,true,true]),(150,[false,true,true,true,true,true,true,true,true]),(152,[true,false]),(161,[true]),(203,[true]),(212,[false,true]),(256,[true,false]),(266,[true,false]),(271,[true,false]),(277,[false,true,true,true,true,true,true,true,true])]
def Abh {R:Type}:=@Abc R Tryz.prog muts
theorem follows:Tryz.prog.follows .mixedOrders=true:=by kernel_rfl
abbrev Qr:=List (Bd Tryz.prog)
def Jd {R:Type} (fn hs) (l:Qr) (r N) (F:KF R):=@Abh R fn hs (vR l) r N F
def Dq (N f:Nat):=@Abe Tryz.prog muts follows N f
def G2:Hints:={ H:=hL }
def IQ:Hints:={ H:=hL,modes:=[(3,0)] }
def BP:Hints:={ H:=(hK 2 (hS (hP [0,1,2,15,16] hL) hL)) }
def VO:Hints:={ H:=(hK 1 (hS (hK 1 (hS (hP [0,3] hL) hL)) hL)) }
def iO:Hints:={ H:=(hK 2 (hS (hS (hP [0,3] hL) hL) hL)),nils:=[(2,1)],modes:=[(2,1)] }
def Bi (F:KF R):Bool→O R:=(fun v0=>F (.bool v0) [])
def Ca (F:KF R):Bool→LA→O R:=(fun v0 v1=>F (.tup []) [(100000,(bP v0 0 v1))])
def Dp (F:KF R):Int→O R:=(fun v0=>F (iv v0) [])
def SH (F:KF R):LA→O R:=(fun v0=>F (.pagg v0 false) [])
def F7 (F:KF R):LA→O R:=(fun v0=>F (.tup []) [(100000,(bQ 0 v0))])
def F8 (F:KF R):Nat→LA→O R:=(fun v0 v1=>F (.own 300000 0 v0) (hq [(bQ 1 v1)]))
def sJ (v0:Bool) (v1:LA) (F:KF R):Lu→O R:=(fun v2=>F (.str v2) [(100000,(bN 0 [(.optr 100001 0)])),(100001,(bP v0 0 v1))])
def Se (F:KF R):Bool→LA→O R:=(fun v0 v1=>F (.tup []) [(100000,(bP v0 0 v1)),(100001,(bN 0 [(.optr 100000 0)]))])
def O1 (F:KF R):LA→Int→O R:=(fun v0 v1=>F (.tup [(.pagg v0 false),(iv v1)]) [])
def wK (F:KF R):Nat→Int→LA→O R:=(fun v0 v1 v2=>F (.tup [(.own 300000 0 v0),(iv v1)]) (hq [(bQ 3 v2)]))
def VP (F:KF R):Nat→Int→LA→O R:=(fun v0 v1 v2=>F (.tup [(.own 300000 0 v0),(iv v1)]) (hq [(bQ 1 v2)]))
end
end Gx
namespace Gx
open Go
theorem am {a b:Bool} (d:a=true) (e:b=true):(a&&b)=true:=by rw[d,e];rfl
theorem wv {P:Program} (U:laidOutB P=true) (V:mapsRowed P=true) (X:(P.stops==[])=true) (Y:(P.stopKnobs==[])=true) (b:P.stopsHeard=true) (d:P.mayEnter=true) {f:FuncId} {fn:Func} {s:ChangeSpec} {c:OpenClaim} (e:(c.inPlace==P.inPlace f)=true) (i:(c.unfollowed==P.unfollowed f)=true) (j:(c.recurses==P.recurses f)=true) (m:(c.named==P.varsNamed f)=true)
  (q:(c.lifted==P.liftsFinal)=true) (u:(P.make==some c.make)=true) (v:(c.plainKeys==P.plainKeys)=true)
  (h1:c.wf (OpenSpec.ofChange s)=true) (h4:fn.params.all (P.readableRec ·)=true) (h5:namedTie P c.named s.vars=true) (h6:(c.stops==[])=true) (h8:(c.knobs==[])=true)
  (y:(c.maps==(fn.params.toList++s.plain.varTypes P).any (P.mapsRec ·))=true) (z:(c.ifaces==(fn.params.toList++s.plain.varTypes P).any (P.ifacesRec ·))=true) (A:(c.mapsOut==P.mapsAmong fn.resultTypes.toList)=true)
  (C:(c.loops==(fn.params.toList++s.plain.varTypes P).any (P.loopsFrom ·))=true) (D:(c.wideKeys==(fn.params.toList++s.plain.varTypes P++fn.resultTypes.toList).any (P.wideKeysFrom ·))=true)
  (F:s.vars.all (P.varReadable ·)=true) (G:fn.resultTypes.all (fun t=>P.readableRec t&&decide (t<P.types.size))=true) (I:(c.ifacesOut==fn.resultTypes.toList.any (P.ifacesRec ·))=true) (K:(c.loopsOut==fn.resultTypes.toList.any (P.loopsFrom ·))=true)
  (L:c.shortTexts.isNone=true) (M:(c.kinds==(if c.domain.isEmpty then [] else fn.params.toList.map fun t=>match P.underlying t with | some (.int k)=>some k | _=>none))=true) (O:(c.pinned==c.pinnedBy)=true)
  (S:(c.veiled==(fn.params.toList++s.plain.varTypes P++fn.resultTypes.toList).any (P.veiledRec ·))=true) (T:c.veiledFits P fn.params.toList (fn.params.toList++s.plain.varTypes P++fn.resultTypes.toList)=true):joinedFacts P f fn s c=true:=by
 unfold joinedFacts
 exact am (am (am (am (am (am (am (am (am (am (am (am (am (am (am (am (am (am (am (am (am (am (am (am (am (am (am (am (am (am (am h1 U) V) h4) h5) h6) X) h8) Y) e) i) j) m) y) z) A) C) D) F) G) I) K) v) L) b) d) q) u) M) O) S) T
end Gx
namespace Go.Proofs.YtnlplnjnonldpaaGreatDoor
open Go.ChangeShapes Go.WideShapes Go.ChangeAt Go.RowKit
theorem zV:ownKnob Tryz.prog.godebug=none:=by kernel_rfl
theorem b9:laidOutB Tryz.prog=true:=by kernel_rfl
theorem zW : Tryz.prog.globalNamed "internal/strconv.uint64pow10" = some 3 := by kernel_rfl
theorem Abi:(Tryz.prog.globals[3]?).map (·.type)=some 293:=by kernel_rfl
theorem zX:Tryz.prog.underlying 293=some (.array 20 138):=by kernel_rfl
theorem zY:Tryz.prog.underlying 138=some (.int .u64):=by kernel_rfl
theorem zZ:Tryz.prog.cellsOf 293=20:=by kernel_rfl
theorem z1:Tryz.prog.cellsOf 138=1:=by kernel_rfl
def xm:List Int:=(List.range 20).map fun i=>((10 ^ i:Nat):Int)
theorem sK {H:Type}:(Rows.laid_internal_strconv_uint64pow10:DataW H)=Lib.tabData .u64 xm:=rfl
theorem vS {W:World} (hL:laidMetH Tryz.prog Rows.branchlogRoundRow.laid W) (d:W.ShapedOpen Tryz.prog):Gx.GlobOk (fun _ k=>k<W.heap.size) W:=by
 have z : Lib.TabIs Tryz.prog W "internal/strconv.uint64pow10" .u64 xm := by
  have e:laidMet Tryz.prog Rows.branchlogRoundRow.laid W:=hL
  obtain⟨ps,⟨M,t0,cs0,O,S,T,A,C,D,F,⟨U,t1,cs1,V,X,Y,G,I,K,L,⟨g2,t2,cs2,f2,p2,q2,i,j,q,b,_,_⟩,_⟩,_⟩,_⟩:=e
  obtain rfl:=Option.some.inj (zW.symm.trans i)
  obtain rfl:=Option.some.inj (Abi.symm.trans j)
  unfold Lib.TabIs
  rw[sK] at b
  rw[q,←Lib.cells_of_tab zX zY z1 zZ b]
 obtain⟨ty,fr,s⟩:=Gx.tj z zW
 obtain⟨m,u⟩:=cell_of_shapedOpen_int (P:=Tryz.prog) (g:=0) (t:=3) (zero:=#[.int .i64 0]) d (of_decide_eq_true (by kernel_rfl)) (by kernel_rfl) rfl (by kernel_rfl) (by kernel_rfl) Tryz.underlying3
 refine⟨fun p v=>?_,fun g y=>?_⟩
 ·simp only[Gx.qs,List.mem_singleton] at v
  subst v
  refine⟨?_,ty,fr,?_⟩
  ·show 3<W.heap.size
   rcases Nat.lt_or_ge 3 W.heap.size with h | h
   ·exact h
   ·rw[Array.getElem?_eq_none h] at s;cases s
  ·rw[s];rfl
 ·simp only[Gx.o9,List.mem_singleton] at y
  subst y
  exact⟨Gx.tk u,m,u⟩
noncomputable def rC (os:Os):World:=World.laidAll Tryz.prog os Rows.branchlogRoundRow.laid
theorem tp (os:Os):(rC os).os=os:=World.laidAll_os _ _ _
theorem sL (os:Os) (args:Array Value):laidMetH Tryz.prog Rows.branchlogRoundRow.laid ((rC os).forCall (fun _ _=>0) ⟨#[],args,[]⟩).memory :=
 laidMet_laidAll args (by kernel_rfl) (by kernel_rfl)
theorem xn:mapsRowed Tryz.prog=true:=by kernel_rfl
theorem ww:(Tryz.prog.stops==[])=true:=by kernel_rfl
theorem wx:(Tryz.prog.stopKnobs==[])=true:=by kernel_rfl
theorem wy:Tryz.prog.stopsHeard=true:=by kernel_rfl
theorem wz:Tryz.prog.mayEnter=true:=by kernel_rfl
theorem xA:(Rows.branchlogRoundRow.lifted==Tryz.prog.liftsFinal)=true:=by kernel_rfl
theorem xo:(Tryz.prog.make==some Rows.branchlogRoundRow.make)=true:=by kernel_rfl
theorem xp:(Rows.branchlogRoundRow.plainKeys==Tryz.prog.plainKeys)=true:=by kernel_rfl
end Go.Proofs.YtnlplnjnonldpaaGreatDoor
namespace Gx
open Go
theorem wrap_u32 (a:Nat) (h:a<4294967296):wrap .u32 (a:Int)=(a:Int):=IntWalk.u32_in _ (by omega)
theorem sM (a:Nat):wrap .u32 (a:Int)=((a%4294967296:Nat):Int):=by rw[IntKind.wrap_u32];omega
theorem Xq (a:Int) (h:-9223372036854775808≤a∧a≤9223372036854775807):wrap .i64 a=a:=IntWalk.i64_in _ h
theorem wrap_u64 (a:Nat) (h:a<18446744073709551616):wrap .u64 (a:Int)=(a:Int):=IntWalk.u64_in _ (by omega)
theorem GN (w a:Nat):BitVec.ofInt w (a:Int)=BitVec.ofNat w a:=by simp
theorem pP {k:IntKind} (hs:k.signed=false) {a b:Nat} (e:a<2 ^ k.bits) (d:b<2 ^ k.bits):pN k a b=((a &&& b:Nat):Int):=by
 unfold pN
 rw[GN,GN]
 have i:(BitVec.ofNat k.bits a &&& BitVec.ofNat k.bits b).toNat=a &&& b:=by
  rw[BitVec.toNat_and,Aev,Aev,Adg e,Adg d]
 rw[i]
 have j:a &&& b<2 ^ k.bits:=Nat.and_lt_two_pow _ d
 unfold wrap
 simp only[hs,Afz,Adx,if_false]
 have:(2 ^ k.bits:Int)=((2 ^ k.bits:Nat):Int):=by simp
 rw[this,←Int.natCast_emod,Adg j]
theorem iP {k:IntKind} (hs:k.signed=false) {a b:Nat} (d:a<2 ^ k.bits) (e:b<2 ^ k.bits):bZ k a b=((a ||| b:Nat):Int):=by
 unfold bZ
 rw[GN,GN]
 have i:(BitVec.ofNat k.bits a ||| BitVec.ofNat k.bits b).toNat=a ||| b:=by
  rw[BitVec.toNat_or,Aev,Aev,Adg d,Adg e]
 rw[i]
 have j:a ||| b<2 ^ k.bits:=Nat.or_lt_two_pow d e
 unfold wrap
 simp only[hs,Afz,Adx,if_false]
 have:(2 ^ k.bits:Int)=((2 ^ k.bits:Nat):Int):=by simp
 rw[this,←Int.natCast_emod,Adg j]
theorem b_ (a k:Nat):Int.fdiv (a:Int) (2 ^ k)=((a/2 ^ k:Nat):Int):=by
 have:(2 ^ k:Int)=((2 ^ k:Nat):Int):=by simp
 rw[this,Int.fdiv_eq_ediv_of_nonneg (a:Int) (Int.natCast_nonneg (2 ^ k))]
 rfl
theorem Ay {R:Type} {k:IntKind} {n:Int} {r:LA} {f:Int→O R}:An k (.int k n::r) f=f n:=by simp[An,CU,Jp]
theorem Ab {i n:Nat} (h:i<n):Af (i:Int) n=true:=by simp[Af];omega
end Gx
namespace Gx
open Go Go.RowKit
section
variable {P:Program} {W:World} {H:Type} {enc:TypeId×Value→H} {β:Bu} {h:Ao}
theorem vT {k:IntKind} {n:Int}:Rep (fun _ k=>k<W.heap.size) β h W (.int k n) (.int k n):=by rw[Rep]
theorem tq:Reps (fun _ k=>k<W.heap.size) β h W [] []:=by rw[Reps]
theorem SI {x:AV} {xs:LA} {v:Value} {vs:List Value} (b:Rep (fun _ k=>k<W.heap.size) β h W x v) (d:Reps (fun _ k=>k<W.heap.size) β h W xs vs):Reps (fun _ k=>k<W.heap.size) β h W (x::xs) (v::vs):=by
 rw[Reps];exact⟨v,vs,rfl,b,d⟩
theorem tt {t:TypeId} {α:Type} {e:α→LA} {n:Nat} {cs:Array Value} {d:DataW H} {p:List MemPlace} (b:Opens P t e n)
  (i:DataW.Trod enc P W 0 (fun _=>true) true t (.agg cs) d p):∃ a:α,Rep (fun _ k=>k<W.heap.size) β h W (.pagg (e a) false) (.agg cs):=by
 obtain⟨fuel,j⟩:=i
 obtain⟨m,a,hr⟩:=b.read enc W fuel _ _ _ j
 refine⟨a,?_⟩
 rw[Rep]
 exact⟨cs.toList,rfl,by rw[b.len];exact m,hr⟩
end
end Gx
namespace Gx
open Go Go.RowKit
theorem jr {P:Program} {t:TypeId} (b:P.underlying t=some .string) (e:P.cellsOf t=1):Opens P t (α:={ s:Lu // s.length≤maxLen }) (fun s=>[.str s.1]) 1:=by
 refine⟨e,by omega,fun _=>rfl,fun enc W fuel cs d ps h=>?_⟩
 obtain⟨s,rfl,_,i⟩:=DataW.trod_string b h
 refine⟨rfl,⟨s.data.toList,i⟩,?_⟩
 simp[RepCs,RepC]
theorem Opens.map {P:Program} {t:TypeId} {α β:Type} {e:α→LA} {n:Nat} (h:Opens P t e n) (i:β→LA) (g:α→β) (j:∀ a,e a=i (g a)) (k:∀ b,(i b).length=n):Opens P t i n:=by
 refine⟨h.size,h.pos,k,fun enc W fuel cs d ps m=>?_⟩
 obtain⟨q,a,s⟩:=h.read enc W fuel cs d ps m
 exact⟨q,g a,by rw[←j];exact s⟩
structure OpensF (P:Program) (fs:List Field) (off:Nat) {α:Type} (e:α→List AV) (n:Nat):Prop where
 len:∀ a,(e a).length=n
 read:∀ {H:Type} (enc:TypeId×Value→H) (W:World) (fuel:Nat) (cs:List Value),(∀ (i:Nat) (f:Field),fs[i]?=some f→∃ d ps,DataW.trod enc P W 0 (fun _=>true) true fuel f.type ((cs.drop f.offset).take (P.cellsOf f.type))=some (d,ps)) →
  ∃ a,RepCs (fun k=>k<W.heap.size) W (e a) (fun j=>cs[j]?) off
theorem Ml {P:Program} {off:Nat}:OpensF P [] off (α:=Unit) (fun _=>[]) 0:=⟨fun _=>rfl,fun _ _ _ _ _=>⟨(),by simp[RepCs]⟩⟩
theorem Bb {P:Program} {f:Field} {fs:List Field} {off:Nat} {α β:Type} {e:α→LA} {n:Nat} {y:β→LA} {m:Nat} (D:f.offset=off) (k:Opens P f.type e n) (z:OpensF P fs (off+n) y m) :
  OpensF P (f::fs) off (α:=α×β) (fun p=>e p.1++y p.2) (n+m):=by
 refine⟨fun p=>by rw[Ab4,k.len,z.len],fun enc W fuel cs h=>?_⟩
 obtain⟨d,ps,F⟩:=h 0 f rfl
 obtain⟨I,a,A⟩:=k.read enc W fuel _ _ _ F
 obtain⟨b,C⟩:=z.read enc W fuel cs fun i g G=>h (i+1) g (by simpa using G)
 refine⟨(a,b),?_⟩
 rw[Bg] at A C ⊢
 intro j x v
 by_cases s:j<n
 ·rw[Aep (by rw[k.len];exact s)] at v
  obtain⟨u,q,hr⟩:=A j x v
  refine⟨u,?_,hr⟩
  simp only[Ab8] at q
  rw[k.size,Aff s,Ac2,D] at q
  exact q
 ·rw[Aec (by rw[k.len];omega),k.len] at v
  obtain⟨u,q,hr⟩:=C (j - n) x v
  refine⟨u,?_,hr⟩
  rw[show off+n+(j - n)=off+j by omega] at q
  exact q
theorem Hr {P:Program} {t:TypeId} {fs:Array Field} {α:Type} {e:α→LA} {n:Nat} (q:P.underlying t=some (.struct fs)) (k:P.cellsOf t=n) (hn:0<n) (h:OpensF P fs.toList 0 e n):Opens P t e n:=by
 refine⟨k,hn,h.len,fun enc W fuel cs d ps s=>?_⟩
 obtain⟨xs,g,_,_,u,b,v⟩:=DataW.trod_struct q s
 refine⟨by rw[u,k],?_⟩
 exact h.read enc W g cs fun i f hi=>by
  have m:fs[i]?=some f:=by simpa using hi
  have:=v i f m
  have j:i<xs.length:=by
   rw[b];exact(Ac3.1 m).1
  rw[Ab1 j] at this
  exact⟨_,_,this⟩
end Gx
namespace Gx
open Go Go.RowKit
section
variable {P:Program} {W:World} {H:Type} {enc:TypeId×Value→H} {β:Bu} {h:Ao}
theorem IR {t:TypeId} {fs:Array Field} {b:Nat} {r:Reach} {v:Value} (d:P.underlying t=some (.struct fs)) (h:Value.okWide P W r b t v):∃ cs,v=.agg cs:=by
 unfold Value.okWide at h
 rw[d] at h
 obtain⟨cs,h,_⟩:=h
 exact⟨cs,h⟩
theorem tu {J:Nat→Prop}:∀ {x:AV} {u:Value},RepC J W x u→Rep (fun _=>J) β h W x u
 | .int ..,_,h=>by rw[Rep];rw[RepC] at h;exact h
 | .bool _,_,h=>by rw[Rep];rw[RepC] at h;exact h
 | .str _,_,h=>by rw[Rep];rw[RepC] at h;exact h
 | .nsl,_,h=>by rw[Rep];rw[RepC] at h;exact h
 | .imm ..,_,h=>by rw[Rep];exact h
 | .iptr ..,_,h=>by rw[Rep];exact h
 | .nilptr,_,h=>by rw[Rep];rw[RepC] at h;exact h
 | .nilfn,_,h=>by rw[Rep];rw[RepC] at h;exact h
 | .fn f [],_,h=>by
  rw[Rep];rw[RepC] at h
  exact⟨[],by simpa using h,by rw[Reps]⟩
 | .fn _ (_::_),_,h=>by simp[RepC] at h
 | .pagg ..,_,h=>by simp[RepC] at h
 | .agg _,_,h=>by simp[RepC] at h
 | .tup _,_,h=>by simp[RepC] at h
 | .own ..,_,h=>by simp[RepC] at h
 | .omap _,_,h=>by simp[RepC] at h
 | .optr ..,_,h=>by simp[RepC] at h
 | .undef,_,h=>by simp[RepC] at h
theorem rD {J:Nat→Prop}:∀ {c:LA} {cs:List Value} {rd:Nat→Option Value} {i:Nat},cs.length=c.length→(∀ j,cs[j]?=rd (i+j))→RepCs J W c rd i→Reps (fun _=>J) β h W c cs
 | [],cs,_,_,b,_,_=>by rw[Reps];simpa using b
 | x::r,[],_,_,b,_,_=>by simp at b
 | x::r,u::k,rd,i,b,hr,e=>by
  rw[RepCs] at e
  obtain⟨⟨q,d,m⟩,e⟩:=e
  have h0:=hr 0
  simp only[List.getElem?_cons_zero,Ac4] at h0
  rw[←h0] at d
  cases d
  rw[Reps]
  refine⟨u,k,rfl,tu m,rD (by simpa using b) (fun j=>?_) e⟩
  have:=hr (j+1)
  rw[List.getElem?_cons_succ] at this
  rw[this];congr 1;omega
theorem rE {c:LA} {v:Value} (hr:Rep (fun _ k=>k<W.heap.size) β h W (.pagg c false) v):Rep (fun _ k=>k<W.heap.size) β h W (.agg c) v:=by
 rw[Rep] at hr
 obtain⟨cs,b,d,e⟩:=hr
 rw[Rep]
 exact⟨cs,b,rD d (fun j=>by rw[Ab8]) e⟩
end
end Gx
namespace Gx
open Go Go.RowKit
def WOk {H:Type} (P:Program) (t:TypeId) (d:DataW H):Prop:=∀ m ∈ d.weights P t,m≤reachBytes
theorem WOk.of_each {H:Type} {P:Program} {ts:List TypeId} {ds:List (DataW H)} (h:(DataW.weightsEach P ts ds).all (·≤reachBytes)=true) {j:Nat} {t:TypeId} {d:DataW H} (b:ts[j]?=some t) (e:ds[j]?=some d):WOk P t d:=fun m i=>by
 simpa using Aey.1 h _ (DataW.weights_mem_each b e m i)
structure OpensW (P:Program) (t:TypeId) {α:Type} (e:α→List AV) (n:Nat):Prop where
 size:P.cellsOf t=n
 pos:0<n
 len:∀ a,(e a).length=n
 read:∀ {H:Type} (enc:TypeId×Value→H) (W:World) (fuel:Nat) (cs:List Value) (d:DataW H) (ps:List MemPlace),DataW.trod enc P W 0 (fun _=>true) true fuel t cs=some (d,ps)→WOk P t d →
  cs.length=n∧∃ a,RepCs (fun k=>k<W.heap.size) W (e a) (fun j=>cs[j]?) 0
theorem Opens.w {P:Program} {t:TypeId} {α:Type} {e:α→LA} {n:Nat} (h:Opens P t e n):OpensW P t e n:=⟨h.size,h.pos,h.len,fun enc W fuel cs d ps b _=>h.read enc W fuel cs d ps b⟩
theorem DR {H:Type} {P:Program} {e:TypeId}:∀ {l:List (DataW H)} {i:Nat} {x:DataW H} {m:Nat},l[i]?=some x→m ∈ x.weights P e→m ∈ DataW.weightsAll P e l
 | a::r,0,x,m,h,b=>by simp at h;subst h;rw[DataW.weightsAll];exact Aca.2 (.inl b)
 | a::r,i+1,x,m,h,b=>by rw[DataW.weightsAll];exact Aca.2 (.inr (DR (l:=r) (i:=i) (by simpa using h) b))
theorem Nj {k:Nat} {P:Program} {t z:TypeId} {α:Type} {e:α→LA} {n:Nat} (hu:P.underlying t=some (.slice z)) (hc:P.cellsOf t=1) (A:OpensW P z e n) (hk:k≤P.bytesOf z) :
  OpensW P t (α:={ l:List α // l.length*k≤reachBytes }) (fun l=>[.imm (l.1.flatMap e) l.1.length n false false]) 1:=by
 refine⟨hc,by omega,fun _=>rfl,fun enc W fuel cs d ps h hb=>?_⟩
 rcases DataW.trod_slice hu h with⟨rfl,_⟩ | ⟨a,len,cap,IE,Oy,m,_,rfl,I,hb0,hlc,hcm,s,K,_⟩
 ·refine⟨rfl,⟨[],by simp⟩,?_⟩
  simp[RepCs,RepC]
 ·obtain rfl:d=.slice (IE.map (·.1)) (Oy.map (·.1)):=(Prod.mk.inj I).1
  have hw:∀ m ∈ ((IE.map (·.1)).length+(Oy.map (·.1)).length)*P.bytesOf z::(DataW.weightsAll P z (IE.map (·.1))++DataW.weightsAll P z (Oy.map (·.1))),m≤reachBytes:=by
   have:=hb
   unfold WOk at this;rw[DataW.weights,hu] at this;exact this
  rw[A.size] at K
  have each:∀ i:Nat,i<len→∃ x:α,∃ cs,W.cells? 0 (a.add (i*n)) n=some cs∧RepCs (fun k=>k<W.heap.size) W (e x) (fun j=>cs[j]?) 0:=by
   intro i hi
   have L:=K i hi
   have M:i<IE.length:=by omega
   rw[Ab1 M] at L
   cases b:W.cells? 0 (a.add (i*n)) n with
   | none=>rw[b] at L;simp at L
   | some cs =>
    rw[b] at L
    have T:WOk P z IE[i].1:=fun q hq=>hw q (Adc _ (Aca.2 (.inl (DR (l:=IE.map (·.1)) (i:=i) (by rw[Adr,Ab1 M];rfl) hq))))
    obtain⟨_,x,I⟩:=A.read enc W m cs IE[i].1 IE[i].2 L T
    exact⟨x,cs,rfl,I⟩
  have U:len*k≤reachBytes:=by
   have h1:=hw _ (List.mem_cons_self ..)
   rw[Adl,s] at h1
   refine Add (Adp len hk) (Add (Aco _ (Nat.le_add_right _ _)) h1)
  refine⟨rfl,?_⟩
  have build:∀ m,m≤len→∃ l:List α,l.length=m∧∀ i x,l[i]?=some x→∃ cs,W.cells? 0 (a.add (i*n)) n=some cs∧RepCs (fun k=>k<W.heap.size) W (e x) (fun j=>cs[j]?) 0:=by
   intro m
   induction m with
   | zero=>intro _;exact⟨[],rfl,by simp⟩
   | succ m ih =>
    intro hm
    obtain⟨l,O,C⟩:=ih (by omega)
    obtain⟨x,cs,V,X⟩:=each m (by omega)
    refine⟨l++[x],by simp[O],fun i y F=>?_⟩
    rw[Acr] at F
    split at F
    ·exact C i y F
    ·have:i=m:=by
      have:=(Ab7.1 F).1
      simp at this;omega
     subst this
     simp[O] at F;subst F
     exact⟨cs,V,X⟩
  obtain⟨l,O,C⟩:=build len (Ab3 _)
  refine⟨⟨l,by rw[O];exact U⟩,?_⟩
  simp only[RepCs,RepC,and_true]
  refine⟨_,rfl,?_,some a,cap,by rw[O],by omega,by simp,?_⟩
  ·exact DQ A.len l
  ·by_cases h0:l.length=0
   ·exact .inl h0
   ·right
    refine⟨a,rfl,?_,?_⟩
    ·obtain⟨x,cs,I,_⟩:=each 0 (by omega)
     have:=World.cells?_block I A.pos
     rwa [Mv] at this
    ·rw[Bg]
     intro j x G
     rw[DP A.pos A.len] at G
     cases hq:l[j/n]? with
     | none=>rw[hq] at G;simp at G
     | some y =>
      rw[hq] at G
      simp at G
      obtain⟨cs,b,v⟩:=C (j/n) y hq
      rw[Bg] at v
      obtain⟨u,S,Y⟩:=v (j%n) x G
      refine⟨u,?_,Y⟩
      obtain⟨_,s,D⟩:=World.cells?_some b
      have hlt:j%n<n:=Aeg _ A.pos
      have:=D (j%n) hlt
      rw[Addr.add_add,show j/n*n+j%n=j by rw[Ado];exact Ad4 j n] at this
      simp only[Ab8] at S ⊢
      rw[this];exact S
theorem OpensW.map {P:Program} {t:TypeId} {α β:Type} {e:α→LA} {n:Nat} (h:OpensW P t e n) (i:β→LA) (g:α→β) (j:∀ a,e a=i (g a)) (k:∀ b,(i b).length=n):OpensW P t i n:=by
 refine⟨h.size,h.pos,k,fun enc W fuel cs d ps m q=>?_⟩
 obtain⟨s,a,u⟩:=h.read enc W fuel cs d ps m q
 exact⟨s,g a,by rw[←j];exact u⟩
structure OpensWF (P:Program) (fs:List Field) (off:Nat) {α:Type} (e:α→List AV) (n:Nat):Prop where
 len:∀ a,(e a).length=n
 read:∀ {H:Type} (enc:TypeId×Value→H) (W:World) (fuel:Nat) (cs:List Value),(∀ (i:Nat) (f:Field),fs[i]?=some f→∃ d ps,DataW.trod enc P W 0 (fun _=>true) true fuel f.type ((cs.drop f.offset).take (P.cellsOf f.type))=some (d,ps)∧WOk P f.type d) →
  ∃ a,RepCs (fun k=>k<W.heap.size) W (e a) (fun j=>cs[j]?) off
theorem E1 {P:Program} {off:Nat}:OpensWF P [] off (α:=Unit) (fun _=>[]) 0:=⟨fun _=>rfl,fun _ _ _ _ _=>⟨(),by simp[RepCs]⟩⟩
theorem Ae {P:Program} {f:Field} {fs:List Field} {off:Nat} {α β:Type} {e:α→LA} {n:Nat} {z:β→LA} {m:Nat} (D:f.offset=off) (k:OpensW P f.type e n) (A:OpensWF P fs (off+n) z m) :
  OpensWF P (f::fs) off (α:=α×β) (fun p=>e p.1++z p.2) (n+m):=by
 refine⟨fun p=>by rw[Ab4,k.len,A.len],fun enc W fuel cs h=>?_⟩
 obtain⟨d,ps,F,v⟩:=h 0 f rfl
 obtain⟨I,a,C⟩:=k.read enc W fuel _ _ _ F v
 obtain⟨b,v⟩:=A.read enc W fuel cs fun i g G=>h (i+1) g (by simpa using G)
 refine⟨(a,b),?_⟩
 rw[Bg] at C v ⊢
 intro j x y
 by_cases s:j<n
 ·rw[Aep (by rw[k.len];exact s)] at y
  obtain⟨u,q,hr⟩:=C j x y
  refine⟨u,?_,hr⟩
  simp only[Ab8] at q
  rw[k.size,Aff s,Ac2,D] at q
  exact q
 ·rw[Aec (by rw[k.len];omega),k.len] at y
  obtain⟨u,q,hr⟩:=v (j - n) x y
  refine⟨u,?_,hr⟩
  rw[show off+n+(j - n)=off+j by omega] at q
  exact q
theorem C9 {P:Program} {t:TypeId} {fs:Array Field} {α:Type} {e:α→LA} {n:Nat} (s:P.underlying t=some (.struct fs)) (u:P.cellsOf t=n) (hn:0<n) (h:OpensWF P fs.toList 0 e n):OpensW P t e n:=by
 refine⟨u,hn,h.len,fun enc W fuel cs d ps y z=>?_⟩
 obtain⟨xs,g,_,A,C,b,D⟩:=DataW.trod_struct s y
 obtain rfl:d=.agg (xs.map (·.1)):=(Prod.mk.inj A).1
 refine⟨by rw[C,u],?_⟩
 exact h.read enc W g cs fun i f hi=>by
  have v:fs[i]?=some f:=by simpa using hi
  have:=D i f v
  have k:i<xs.length:=by
   rw[b];exact(Ac3.1 v).1
  rw[Ab1 k] at this
  have m:WOk P f.type xs[i].1:=fun q hq=>by
   have:=z
   unfold WOk at this;rw[DataW.weights,s] at this
   exact this q (DataW.weights_mem_each (j:=i) (t:=f.type) (d:=xs[i].1) (by simp[hi]) (by rw[Adr,Ab1 k];rfl) q hq)
  exact⟨xs[i].1,xs[i].2,this,m⟩
end Gx
namespace Gx.Cf
open Go Go.Proofs
inductive Sl (α:Type) where
 | nil
 | of (l:List α) (t o:Bool)
def Sl.l {α:Type}:Sl α→List α
 | .nil=>[]
 | .of l _ _=>l
def Sl.av {α:Type} (sz:Nat) (e:α→LA):Sl α→AV
 | .nil=>.nsl
 | .of l t o=>.imm (l.flatMap e) l.length sz t o
def Wq (n:Int):LA:=[.int .i64 n]
def Ax (l:List Int):LA:=l.map fun n=>.int .i64 n
theorem C0:∀ l:List Int,l.flatMap Wq=Ax l
 | []=>rfl
 | a::r=>by rw[Ad0,C0 r];rfl
theorem Eb (l:List Int):(Ax l).length=l.length:=by simp[Ax]
theorem DS (l m:List Int):Ax l++Ax m=Ax (l++m):=by simp[Ax]
structure FracD where
 num:Int
 den:Int
structure BusD where
 name:List UInt8
 demand:Sl Int
 shed:Int
structure LineD where
 name:List UInt8
 fr:Int
 tl:Int
 re:FracD
 smin:FracD
 smax:FracD
 limit:Int
 emer:Int
 away:Sl Int
structure SegD where
 width:Int
 price:Int
structure UnitD where
 name:List UInt8
 bus:Int
 min:Int
 max:Int
 segs:Sl SegD
 noLoad:Int
 rampUp:Int
 rampDown:Int
 startRamp:Int
 stopRamp:Int
 upTime:Int
 downTime:Int
 startTime:Int
 hotCost:Int
 coldCost:Int
 hotHours:Int
 reserve:Int
 reservePrice:Int
 away:Sl Int
 state:Int
 hours:Int
 output:Int
structure StoreD where
 name:List UInt8
 bus:Int
 capacity:Int
 initial:Int
 final:Int
 charge:Int
 discharge:Int
 eff:FracD
structure TieD where
 name:List UInt8
 bus:Int
 imp:Sl Int
 exp:Sl Int
 price:Sl Int
structure MoveD where
 unit:Int
 up:Int
 down:Int
structure OutD where
 name:List UInt8
 lines:Sl Int
 corr:Bool
 moves:Sl MoveD
structure CaseD where
 hours:Int
 reserve:Sl Int
 buses:Sl BusD
 lines:Sl LineD
 units:Sl UnitD
 stores:Sl StoreD
 ties:Sl TieD
 outs:Sl OutD
def BusD.av (b:BusD):LA:=[.str b.name,b.demand.av 1 Wq,.int .i64 b.shed]
def LineD.av (b:LineD):LA:=[.str b.name,.int .i64 b.fr,.int .i64 b.tl,.int .i64 b.re.num,.int .i64 b.re.den,.int .i64 b.smin.num,.int .i64 b.smin.den,.int .i64 b.smax.num,.int .i64 b.smax.den,.int .i64 b.limit,.int .i64 b.emer,b.away.av 1 Wq]
def SegD.av (s:SegD):LA:=[.int .i64 s.width,.int .i64 s.price]
def UnitD.av (u:UnitD):LA:=[.str u.name,.int .i64 u.bus,.int .i64 u.min,.int .i64 u.max,u.segs.av 2 SegD.av,.int .i64 u.noLoad,.int .i64 u.rampUp,.int .i64 u.rampDown,.int .i64 u.startRamp,.int .i64 u.stopRamp,.int .i64 u.upTime,.int .i64 u.downTime,.int .i64 u.startTime,.int .i64 u.hotCost,.int .i64 u.coldCost,.int .i64 u.hotHours,.int .i64 u.reserve,.int .i64 u.reservePrice,u.away.av 1 Wq,.int .i64 u.state,.int .i64 u.hours,.int .i64 u.output]
def StoreD.av (s:StoreD):LA:=[.str s.name,.int .i64 s.bus,.int .i64 s.capacity,.int .i64 s.initial,.int .i64 s.final,.int .i64 s.charge,.int .i64 s.discharge,.int .i64 s.eff.num,.int .i64 s.eff.den]
def TieD.av (t:TieD):LA:=[.str t.name,.int .i64 t.bus,t.imp.av 1 Wq,t.exp.av 1 Wq,t.price.av 1 Wq]
def MoveD.av (m:MoveD):LA:=[.int .i64 m.unit,.int .i64 m.up,.int .i64 m.down]
def OutD.av (o:OutD):LA:=[.str o.name,o.lines.av 1 Wq,.bool o.corr,o.moves.av 3 MoveD.av]
def CaseD.av (c:CaseD):LA:=[.int .i64 c.hours,c.reserve.av 1 Wq,c.buses.av 3 BusD.av,c.lines.av 12 LineD.av,c.units.av 22 UnitD.av,c.stores.av 9 StoreD.av,c.ties.av 5 TieD.av,c.outs.av 4 OutD.av]
section
variable {R:Type}
theorem Bj {α:Type} {sz:Nat} {e:α→LA} {s:Sl α} {r:LA} {f:LA→Nat→O R}:Az sz (s.av sz e::r) f=f (s.l.flatMap e) s.l.length:=by
 cases s<;>simp[Az,Sl.av,Sl.l,l7]
theorem C2 {s:Lu} {r:LA} {f:Lu→O R}:IP (.str s::r) f=f s:=by simp[IP,UO]
theorem tv {b:Bool} {r:LA} {f:Bool→O R}:L_ (.bool b::r) f=f b:=by simp[L_,asBool]
theorem Cn (a b:Nat):ble a b=decide (a≤b):=by
  cases h:ble a b with
  | true=>simp at h;simp[h]
  | false => have : ¬ a ≤ b := fun d => by rw [Nat.ble_eq_true_of_le d] at h; cases h
             simp[this]
theorem U4 (a b:Nat):beq a b=decide (a=b):=by
  cases h:beq a b with
  | true=>have:=Ab5 h;simp[this]
  | false => have : a ≠ b := fun e => by subst e; rw [Nat.beq_refl] at h; cases h
             simp[this]
theorem ct (x y:O R):cond true x y=x:=rfl
theorem cf (x y:O R):cond false x y=y:=rfl
theorem Ap {α:Type} {e:α→LA} {sz:Nat} (b:∀ a,(e a).length=sz):∀ (l:List α) (j:Nat) (h:j<l.length),drop (j*sz) (l.flatMap e)=e l[j]++(l.drop (j+1)).flatMap e
 | a::r,0,_=>by simp
 | a::r,j+1,h=>by
  have:=Ap b r j (by simpa using h)
  rw[Ad0,List.drop_append,b,show(j+1)*sz - sz=j*sz by rw[Ad8];omega,Ac8 (by rw[b,Ad8];omega)]
  simpa using this
theorem cA {l:List Int} {i:Nat} (h:i<l.length) {f:Int→O R}:An .i64 (drop i (Ax l)) f=f l[i]:=by
 rw[Ax,Ack (by simpa using h)];simp[Ay]
abbrev B8:=Option ((Int×Int×Int)×{ e:Int // e≠0 })
def nd (p:B8) (ok:Bool) (w:Int×Int×Int) (e:{ e:Int // e≠0 }):B8:=match p with
 | some x=>some x
 | none=>cond ok none (some (w,e))
theorem D5 (p:B8) (w:Int×Int×Int) (e:{ e:Int // e≠0 }):nd p true w e=p:=by cases p<;>rfl
theorem Zi (x:(Int×Int×Int)×{ e:Int // e≠0 }) (ok:Bool) (w:Int×Int×Int) (e:{ e:Int // e≠0 }):nd (some x) ok w e=some x:=rfl
theorem K4 (p:B8) (a b:Bool) (w:Int×Int×Int) (e:{ e:Int // e≠0 }):nd (nd p a w e) b w e=nd p (a&&b) w e:=by cases p<;>cases a<;>cases b<;>rfl
def Xr (p:B8) (k i:Int):LA:=match p with
 | none=>[.int .i64 k,.int .i64 i,.int .i64 0,.int .i64 0]
 | some ((a,b,f),e)=>[.int .i64 a,.int .i64 b,.int .i64 f,.int .i64 e.1]
def Fv (lo hi n:Int):Bool:=decide (lo≤n)&&decide (n≤hi)
end
end Gx.Cf
namespace Gx
open Go Go.Proofs
set_option maxRecDepth 100000
noncomputable section
variable {R:Type} (N:Nat)
def Pv (N:Nat) (r0:LA→Nat→O R) (c:LA) (a:Nat) (d b:Bool) (k0:Int→O R) (f:Int):O R :=
 (cond ((decide (f>0))==true) (cond (Af (wrap .i64 (f - 1)) a) (An .u32 (c.drop (((wrap .i64 (f - 1)).toNat)*1)) fun g=>cond (cond true (g==0) false) (k0 (wrap .i64 (f - 1))) (cond ((decide ((0:Int)≤(0:Int)))&&((decide (0≤f))&&((decide (f≤(a:Int)))&&(decide ((a:Int)≤(a:Int)))))) (r0 (c.take ((f.toNat)*1)) (f.toNat)) none)) none) (cond ((decide ((0:Int)≤(0:Int)))&&((decide (0≤f))&&((decide (f≤(a:Int)))&&(decide ((a:Int)≤(a:Int)))))) (r0 (c.take ((f.toNat)*1)) (f.toNat)) none))
def Hs (r0:LA→Nat→O R) (c:LA) (a:Nat) (d b:Bool):Nat→Int→O R
 | 0,_=>none
 | n+1,f=>Pv N r0 c a d b (Hs r0 c a d b n) f
def Zj (N:Nat) (r0:LA→Nat→O R) (q0:Int→O R) (c:LA) (a:Nat) (d b:Bool):O R :=
 (q0 (a:Int))
def Xs:=(Ai fun N c a d b r0=>Zj (R:=R) N r0 (Hs N r0 c a d b N) c a d b).1
theorem IS (c a d b r0):(@Xs R N c a d b r0)=(Zj N r0 (Hs N r0 c a d b N) c a d b):=by rw[Xs,(Ai _).2]
def js (F:KF R):=Jd Tryz.f203 iO [] [] N F
def Sf (b:Bool) (F:KF R):LA→Nat→O R:=(fun h i=>F (.imm h i 1 false b) [])
def jt (c:LA) (a:Nat) (d b:Bool) (K:St→O R):=fun f=>K ⟨[(0,(.imm c a 1 d b)),(3,(iv f))],[]⟩
theorem YB (F:KF R) (c a d b):∀ n,jt c a d b (Am (js N F (pz 336) []) n)=(Hs N (Sf b F) c a d b n):=Fc fun n e=>(By (Pv N (Sf b F) c a d b) e:_)
def m8:=Dq N 203 [] iO (fun
 | [(.imm c a 1 d b)],[]=>some fun _ k=>Xs N c a d b (Sf b k)
 | _,_=>none) fun _ _=>by split;rename_i c a d b;intro R F;exact(By (Zj N (Sf b F) · c a d b) ((lW ..).trans (YB ..)):_).trans (IS ..).symm;trivial
def IT (N:Nat) (r0:LA→O R) (k0:O R):O R :=
 (r0 [])
def Nk (r0:LA→O R):Nat→O R
 | 0=>none
 | n+1=>IT N r0 (Nk r0 n)
def Zk (N:Nat) (r0:LA→O R) (q0:O R):O R :=
 q0
def Xt:=(Ai fun N r0=>Zk (R:=R) N r0 (Nk N r0 N)).1
theorem IU (r0):(@Xt R N r0)=(Zk N r0 (Nk N r0 N)):=by rw[Xt,(Ai _).2]
def ju (F:KF R):=Jd Tryz.f203 iO [] [] N F
def Sg (F:KF R):LA→O R:=(fun a=>F (.own 300000 0 0) (hq [(bQ 1 a)]))
def jv (K:St→O R):=K ⟨[(0,.nsl),(3,(iv 0))],[]⟩
theorem YC (F:KF R):∀ n,jv (Am (ju N F (pz 336) []) n)=(Nk N (Sg F) n):=Fc fun n e=>(By (IT N (Sg F)) e:_)
def m9:=Dq N 203 [] iO (fun
 | [.nsl],[]=>some fun _ k=>Xt N (Sg k)
 | _,_=>none) fun _ _=>by split;intro R F;exact(By (Zk N (Sg F)) ((lW ..).trans (YC ..)):_).trans (IU ..).symm;trivial
def T3 (N:Nat) (r0:Int→O R) (c:LA) (a:Nat) (b:Bool) (d:LA) (k0:Int→O R) (f:Int):O R :=
 (cond (decide (f≥0)) (cond (Af f a) (An .u32 (c.drop ((f.toNat)*1)) fun j=>cond (Af f 0) (An .u32 (d.drop (0+((f.toNat)*1))) fun l=>cond (decide (j<l)) (r0 (-1)) (cond (Af f a) (An .u32 (c.drop ((f.toNat)*1)) fun m=>cond (Af f 0) (An .u32 (d.drop (0+((f.toNat)*1))) fun o=>cond (decide (m>o)) (r0 1) (k0 (wrap .i64 (f - 1)))) none) none)) none) none) (r0 0))
def Ll (r0:Int→O R) (c:LA) (a:Nat) (b:Bool) (d:LA):Nat→Int→O R
 | 0,_=>none
 | n+1,f=>T3 N r0 c a b d (Ll r0 c a b d n) f
def Vd (r0:Int→O R) (q0:LA→Nat→LA→Int→O R) (g:LA) (h:Nat) (i b:Bool):O R :=
 (Xs N g h i b fun c a=>Xt N fun d=>cond ((a:Int) != 0) (cond (decide ((a:Int)<0)) (r0 (-1)) (r0 1)) (q0 c a d (wrap .i64 ((a:Int) - 1))))
def O2:=(Ai fun N g h i b r0=>Vd (R:=R) N r0 (fun c a d=>Ll N r0 c a b d N) g h i b).1
theorem DT (g h i b r0):(@O2 R N g h i b r0)=(Vd N r0 (fun c a d=>Ll N r0 c a b d N) g h i b):=by rw[O2,(Ai _).2]
def IV:Hints:={ H:=(hK 3 (hS (hK 1 (hS (hP [0,1,5] hL) hL)) hL)) }
def U5:=Aax (m8 N) (m9 N) (Eq.refl 203)
def MX:Qr:=[U5 N]
def fk (F:KF R):=Jd Tryz.f183 IV (MX N) [] N F
def fl (c:LA) (a:Nat) (b:Bool) (d:LA) (K:St→O R):=fun f=>K ⟨[(0,(.imm c a 1 false b)),(1,(.own 300000 0 0)),(5,(iv f))],(hq [(bQ 1 d)])⟩
theorem SK (F:KF R) (c a b d):∀ n,fl c a b d (Am (fk N F (pz 5444) []) n)=(Ll N (Dp F) c a b d n):=Fc fun n e=>(By (T3 N (Dp F) c a b d) e:_)
def MY:=Dq N 183 (MX N) IV (fun
 | [(.imm g h 1 i b),.nsl],[]=>some fun _ k=>O2 N g h i b (Dp k)
 | _,_=>none) fun _ _=>by split;intro R F;exact(By (Vd N (Dp F) · _ _ _ _) (zL fun c a d=>(lW ..).trans (SK ..)):_).trans (DT ..).symm;trivial
def GO (a:LA) (b:Bool) (r0:LA→Bool→LA→Nat→Bool→O R):O R :=
 (Az 1 (a.drop 2) fun c d=>O2 N c d false b fun e=>cond (e==0) (r0 [(.bool false),.nsl] false [(.int .u32 1)] 1 false) (cond (ble 2 (a.length)) (Az 1 (a.drop 2) fun f g=>cond ((beq 0 0)&&((beq ((a.take 2).length) 2)&&(beq 2 2))) (cond (ble 2 ((a.take 2).length)) (r0 ((a.take 2).take 2) b f g b) none) none) none))
def MZ:=(Ai (@GO R)).1
theorem Zl:@MZ R=@GO R:=(Ai _).2
def m_ (F:KF R):LA→Bool→LA→Nat→Bool→O R:=(fun h i j l m=>F (.tup [(.pagg h i),(.imm j l 1 false m)]) [])
def pQ:=Dq N 158 [MY N] { H:=hL,nils:=[(3,1)],modes:=[(3,0),(1,1)] } (fun
 | [(.pagg a b)],[]=>some fun _ k=>MZ N a b (m_ k)
 | _,_=>none) fun _ _=>by split;intro R F;dsimp only;rw[Zl];kernel_rfl;trivial
def cB (a:LA) (b:Bool) (r0:Int→O R):O R :=
 (Az 1 (a.drop 1) fun c d=>O2 N c d false b fun e=>cond (e==0) (r0 0) (L_ a fun f=>cond f (r0 (-1)) (r0 1)))
def Z_:=(Ai (@cB R)).1
theorem VQ:@Z_ R=@cB R:=(Ai _).2
def sN:=Dq N 159 [MY N] G2 (fun
 | [(.pagg a b)],[]=>some fun _ k=>Z_ N a b (Dp k)
 | _,_=>none) fun _ _=>by split;intro R F;dsimp only;rw[VQ];kernel_rfl;trivial
def cC (a:LA) (b:Bool) (r0:Int→O R):O R :=
 (cond (ble 3 (a.length)) (MZ N (a.take 3) b fun c d f g h=>cond ((beq 0 0)&&((beq (c.length) 2)&&(beq 2 2))) (cond (ble 2 (c.length)) (Z_ N (c.take 2) d fun e=>r0 e) none) none) none)
def Z':=(Ai (@cC R)).1
theorem VR:@Z' R=@cC R:=(Ai _).2
def sO:=Dq N 115 [pQ N,sN N] G2 (fun
 | [(.pagg a b)],[]=>some fun _ k=>Z' N a b (Dp k)
 | _,_=>none) fun _ _=>by split;intro R F;dsimp only;rw[VR];kernel_rfl;trivial
def Sh (N:Nat) (r0:Nat→LA→O R) (b:LA) (a:Nat) (f d:Bool) (k0:Int→O R) (c:Int):O R :=
 (cond ((decide (c>0))==true) (cond (Af (wrap .i64 (c - 1)) a) (An .u32 (b.drop (((wrap .i64 (c - 1)).toNat)*1)) fun g=>cond (cond true (g==0) false) (k0 (wrap .i64 (c - 1))) (cond ((decide ((0:Int)≤(0:Int)))&&((decide (0≤c))&&((decide (c≤(a:Int)))&&(decide ((a:Int)≤(a:Int)))))) (cond ((!d)||(Aw (b.take ((c.toNat)*1)))) (cond ((ble (0+(c.toNat)) 140737488355328)&&(ble ((0+(c.toNat))*4) 140737488355328)) (r0 (0+(c.toNat)) (b.take ((c.toNat)*1))) none) none) none)) none) (cond ((decide ((0:Int)≤(0:Int)))&&((decide (0≤c))&&((decide (c≤(a:Int)))&&(decide ((a:Int)≤(a:Int)))))) (cond ((!d)||(Aw (b.take ((c.toNat)*1)))) (cond ((ble (0+(c.toNat)) 140737488355328)&&(ble ((0+(c.toNat))*4) 140737488355328)) (r0 (0+(c.toNat)) (b.take ((c.toNat)*1))) none) none) none))
def Jt (r0:Nat→LA→O R) (b:LA) (a:Nat) (f d:Bool):Nat→Int→O R
 | 0,_=>none
 | n+1,c=>Sh N r0 b a f d (Jt r0 b a f d n) c
def Xu (N:Nat) (r0:Nat→LA→O R) (q0:Int→O R) (b:LA) (a:Nat) (f d:Bool):O R :=
 (q0 (a:Int))
def Df:=(Ai fun N b a f d r0=>Xu (R:=R) N r0 (Jt N r0 b a f d N) b a f d).1
theorem Zm (b a f d r0):(@Df R N b a f d r0)=(Xu N r0 (Jt N r0 b a f d N) b a f d):=by rw[Df,(Ai _).2]
def ma (F:KF R):=Jd Tryz.f179 iO [] [] N F
def mb (b:LA) (a:Nat) (f d:Bool) (K:St→O R):=fun c=>K ⟨[(0,(.imm b a 1 f d)),(3,(iv c))],[]⟩
theorem cD (F:KF R) (b a f d):∀ n,mb b a f d (Am (ma N F (pz 336) []) n)=(Jt N (F8 F) b a f d n):=Fc fun n e=>(By (Sh N (F8 F) b a f d) e:_)
def Ht:=Dq N 179 [] iO (fun
 | [(.imm b a 1 f d)],[]=>some fun _ k=>Df N b a f d (F8 k)
 | _,_=>none) fun _ _=>by split;intro R F;exact(By (Xu N (F8 F) · _ _ _ _) ((lW ..).trans (cD ..)):_).trans (Zm ..).symm;trivial
def SL (b:Bool) (c:LA) (d:Nat) (f e:Bool) (r0:LA→O R):O R :=
 (Df N c d false e fun a g=>cond (b==true) (r0 [(.bool (cond true (decide ((a:Int)>0)) false)),(.imm (g.take (a*1)) a 1 false false)]) (r0 [(.bool false),(.imm (g.take (a*1)) a 1 false false)]))
def F9:=(Ai (@SL R)).1
theorem M_:@F9 R=@SL R:=(Ai _).2
def Mm:=Dq N 134 [Ht N] IQ (fun
 | [(.bool b),(.imm c d 1 f e)],[]=>some fun _ k=>F9 N b c d f e (SH k)
 | _,_=>none) fun _ _=>by split;intro R F;dsimp only;rw[M_];kernel_rfl;trivial
def SM (a:LA) (b:Bool) (r0:LA→O R):O R :=
 (L_ a fun d=>Az 1 (a.drop 1) fun e f=>F9 N d e f false b fun c=>cond ((beq 0 0)&&((beq (c.length) 2)&&(beq 2 2))) (cond (ble 2 (c.length)) (r0 (c.take 2)) none) none)
def Xv:=(Ai (@SM R)).1
theorem M':@Xv R=@SM R:=(Ai _).2
def cE:=Dq N 129 [Mm N] IQ (fun
 | [(.pagg a b)],[]=>some fun _ k=>Xv N a b (SH k)
 | _,_=>none) fun _ _=>by split;intro R F;dsimp only;rw[M'];kernel_rfl;trivial
def SN (a:LA) (b:Bool) (r0:Int→O R):O R :=
 (cond (ble 2 (a.length)) (Xv N (a.take 2) b fun c=>cond ((beq (c.length) 2)&&((ble 2 (a.length))&&(!false))) (L_ (setCells a 0 c) fun d=>cond d (r0 (-1)) (Az 1 ((setCells a 0 c).drop 1) fun f e=>cond ((e:Int)==0) (r0 0) (r0 1))) none) none)
def Xw:=(Ai (@SN R)).1
theorem NA:@Xw R=@SN R:=(Ai _).2
def cF:=Dq N 127 [cE N] G2 (fun
 | [(.pagg a b)],[]=>some fun _ k=>Xw N a b (Dp k)
 | _,_=>none) fun _ _=>by split;intro R F;dsimp only;rw[NA];kernel_rfl;trivial
def SO (N:Nat) (r0:LA→O R):O R :=
 (r0 [(.bool false),(.imm [] 0 1 false false),(.imm [(.int .u32 1)] 1 1 false false)])
def NB:=(Ai (@SO R)).1
theorem NC:@NB R=@SO R:=(Ai _).2
def pR:=Dq N 128 [] IQ (fun
 | [],[]=>some fun _ k=>NB N (SH k)
 | _,_=>none) fun _ _=>by split;intro R F;dsimp only;rw[NC];kernel_rfl;trivial
def Pw (N:Nat) (r0:Bool→O R) (c:LA) (a:Nat) (f g:Bool) (d:LA) (b:Nat) (h i:Bool) (k0:Int→O R) (j:Int):O R :=
 (cond (decide (j<(a:Int))) (cond (Af j a) (An .u32 (c.drop ((j.toNat)*1)) fun l=>cond (Af j b) (An .u32 (d.drop ((j.toNat)*1)) fun m=>cond (l != m) (r0 false) (k0 (wrap .i64 (j+1)))) none) none) (r0 true))
def Hu (r0:Bool→O R) (c:LA) (a:Nat) (f g:Bool) (d:LA) (b:Nat) (h i:Bool):Nat→Int→O R
 | 0,_=>none
 | n+1,j=>Pw N r0 c a f g d b h i (Hu r0 c a f g d b h i n) j
def Zn (N:Nat) (r0:Bool→O R) (q0:Int→O R) (c:LA) (a:Nat) (f g:Bool) (d:LA) (b:Nat) (h i:Bool):O R :=
 (cond ((a:Int) != (b:Int)) (r0 false) (q0 0))
def Xx:=(Ai fun N c a f g d b h i r0=>Zn (R:=R) N r0 (Hu N r0 c a f g d b h i N) c a f g d b h i).1
theorem IW (c a f g d b h i r0):(@Xx R N c a f g d b h i r0)=(Zn N r0 (Hu N r0 c a f g d b h i N) c a f g d b h i):=by rw[Xx,(Ai _).2]
def ND:Hints:={ H:=(hK 2 (hS (hK 1 (hS (hP [0,1,5] hL) hL)) hL)) }
def jw (F:KF R):=Jd Tryz.f130 ND [] [] N F
def jx (c:LA) (a:Nat) (f g:Bool) (d:LA) (b:Nat) (h i:Bool) (K:St→O R):=fun j=>K ⟨[(0,(.imm c a 1 f g)),(1,(.imm d b 1 h i)),(5,(iv j))],[]⟩
theorem YD (F:KF R) (c a f g d b h i):∀ n,jx c a f g d b h i (Am (jw N F (pz 1348) []) n)=(Hu N (Bi F) c a f g d b h i n):=Fc fun n e=>(By (Pw N (Bi F) c a f g d b h i) e:_)
def mc:=Dq N 130 [] ND (fun
 | [(.imm c a 1 f g),(.imm d b 1 h i)],[]=>some fun _ k=>Xx N c a f g d b h i (Bi k)
 | _,_=>none) fun _ _=>by split;intro R F;exact(By (Zn N (Bi F) · _ _ _ _ _ _ _ _) ((lW ..).trans (YD ..)):_).trans (IW ..).symm;trivial
def Ec (N:Nat) (r0:Int→Bool→O R) (a:Nat) (b:LA) (k0:Int→Int→O R) (i c:Int):O R :=
 (cond (decide (c≥0)) (cond (Af c a) (An .u32 (b.drop (0+((c.toNat)*1))) fun j=>k0 (bZ .u64 (wrap .u64 (i*2 ^ 32)) (wrap .u64 j)) (wrap .i64 (c - 1))) none) (r0 i true))
def Da (r0:Int→Bool→O R) (a:Nat) (b:LA):Nat→Int→Int→O R
 | 0,_,_=>none
 | n+1,i,c=>Ec N r0 a b (Da r0 a b n) i c
def Ve (r0:Int→Bool→O R) (q0:Nat→LA→Int→Int→O R) (d:LA) (f:Nat) (h g:Bool):O R :=
 (Df N d f false g fun a b=>cond (decide ((a:Int)>2)) (r0 0 false) (q0 a b 0 (wrap .i64 ((a:Int) - 1))))
def O3:=(Ai fun N d f h g r0=>Ve (R:=R) N r0 (fun a b=>Da N r0 a b N) d f h g).1
theorem DU (d f h g r0):(@O3 R N d f h g r0)=(Ve N r0 (fun a b=>Da N r0 a b N) d f h g):=by rw[O3,(Ai _).2]
def IX:Hints:={ H:=(hK 4 (hS (hK 1 (hS (hP [0,4,5] hL) hL)) hL)) }
def NE:Qr:=[Ht N]
def fm (F:KF R):=Jd Tryz.f197 IX (NE N) [] N F
def Px (F:KF R):Int→Bool→O R:=(fun l m=>F (.tup [(.int .u64 l),(.bool m)]) [])
def fq (a:Nat) (b:LA) (K:St→O R):=fun i c=>K ⟨[(0,(.own 300000 0 a)),(4,(.int .u64 i)),(5,(iv c))],(hq [(bQ 1 b)])⟩
theorem SP (F:KF R) (a b):∀ n,fq a b (Am (fm N F (pz 21828) []) n)=(Da N (Px F) a b n):=Fc fun n e=>(By (Ec N (Px F) a b) e:_)
def jy:=Dq N 197 (NE N) IX (fun
 | [(.imm d f 1 h g)],[]=>some fun _ k=>O3 N d f h g (Px k)
 | _,_=>none) fun _ _=>by split;intro R F;exact(By (Ve N (Px F) · _ _ _ _) (fj fun a b=>(lW ..).trans (SP ..)):_).trans (DU ..).symm;trivial
def Rl (a:Int) (r0:Nat→LA→O R):O R :=
 (Df N [(.int .u32 (wrap .u32 a)),(.int .u32 (wrap .u32 (Int.fdiv a (2 ^ 32))))] 2 false true fun b c=>r0 b c)
def Fi:=(Ai (@Rl R)).1
theorem T4:@Fi R=@Rl R:=(Ai _).2
def Xy:=Dq N 135 [Ht N] { H:=hL,nils:=[(2,1)],modes:=[(2,1)] } (fun
 | [(.int .u64 a)],[]=>some fun _ k=>Fi N a (F8 k)
 | _,_=>none) fun _ _=>by split;intro R F;dsimp only;rw[T4];kernel_rfl;trivial
def Nl (N:Nat) (r0:Int→O R) (k0:Int→Int→O R) (f g:Int):O R :=
 (cond (decide (g>0)) (k0 (wrap .i64 (f+1)) (Int.fdiv g (2 ^ 1))) (r0 f))
def Hj (r0:Int→O R):Nat→Int→Int→O R
 | 0,_,_=>none
 | n+1,f,g=>Nl N r0 (Hj r0 n) f g
def Xz (r0:Int→O R) (q0:Int→Int→O R) (a:LA) (b:Nat) (d c:Bool):O R :=
 (Df N a b false c fun h i=>cond ((h:Int)==0) (r0 0) (cond (Af (wrap .i64 ((h:Int) - 1)) h) (An .u32 (i.drop (0+(((wrap .i64 ((h:Int) - 1)).toNat)*1))) fun j=>q0 (wrap .i64 (32*(wrap .i64 ((h:Int) - 1)))) j) none))
def DV:=(Ai fun N a b d c r0=>Xz (R:=R) N r0 (Hj N r0 N) a b d c).1
theorem Zo (a b d c r0):(@DV R N a b d c r0)=(Xz N r0 (Hj N r0 N) a b d c):=by rw[DV,(Ai _).2]
def VS:Hints:={ H:=(hK 4 (hS (hK 1 (hS (hP [3,4] hL) hL)) hL)) }
def cG:Qr:=[Ht N]
def md (F:KF R):=Jd Tryz.f198 VS (cG N) [] N F
def mf (K:St→O R):=fun f g=>K ⟨[(3,(iv f)),(4,(.int .u32 g))],[]⟩
theorem cH (F:KF R):∀ n,mf (Am (md N F (pz 21828) []) n)=(Hj N (Dp F) n):=Fc fun n e=>(By (Nl N (Dp F)) e:_)
def pS:=Dq N 198 (cG N) VS (fun
 | [(.imm a b 1 d c)],[]=>some fun _ k=>DV N a b d c (Dp k)
 | _,_=>none) fun _ _=>by split;intro R F;exact(By (Xz N (Dp F) · _ _ _ _) ((lW ..).trans (cH ..)):_).trans (Zo ..).symm;trivial
def T5 (N:Nat) (k0:Nat→Int→Int→LA→O R) (r0:Nat→LA→O R) (c:LA) (a:Nat) (f g:Bool) (d:LA) (b:Nat) (h i:Bool) (j:Nat) (l:LA) (p m:Int):O R :=
 (cond (decide (m<(b:Int))) (cond (Af m b) (An .u32 (d.drop ((m.toNat)*1)) fun r=>cond (Af m j) (cond ((beq 1 1)&&((ble ((0+((m.toNat)*1))+1) (l.length))&&(!false))) (k0 j (Int.fdiv (wrap .u64 (p+(wrap .u64 r))) (2 ^ 32)) (wrap .i64 (m+1)) (l.set (0+((m.toNat)*1)) (.int .u32 (wrap .u32 (wrap .u64 (p+(wrap .u64 r))))))) none) none) none) (cond (Af m j) (cond ((beq 1 1)&&((ble ((0+((m.toNat)*1))+1) (l.length))&&(!false))) (k0 j (Int.fdiv p (2 ^ 32)) (wrap .i64 (m+1)) (l.set (0+((m.toNat)*1)) (.int .u32 (wrap .u32 p)))) none) none))
def Vf (r0:Nat→LA→O R) (c:LA) (a:Nat) (f g:Bool) (d:LA) (b:Nat) (h i:Bool) (k0:Nat→Int→Int→LA→O R) (q1:Nat→LA→Int→Int→O R) (j:Nat) (q o:Int) (l:LA):O R :=
 (cond (decide (o<(j:Int))) (cond (decide (o<(a:Int))) (cond (Af o a) (An .u32 (c.drop ((o.toNat)*1)) fun s=>q1 j l (wrap .u64 (q+(wrap .u64 s))) o) none) (q1 j l q o)) (Df N (l.take (j*1)) j false true fun t u=>r0 t u))
def Gn (r0:Nat→LA→O R) (c:LA) (a:Nat) (f g:Bool) (d:LA) (b:Nat) (h i:Bool):Nat→Nat→Int→Int→LA→O R
 | 0,_,_,_,_=>none
 | n+1,j,q,o,l=>Vf N r0 c a f g d b h i (Gn r0 c a f g d b h i n) (fun j l=>T5 N (Gn r0 c a f g d b h i n) r0 c a f g d b h i j l) j q o l
def NF (N:Nat) (r0:Nat→LA→O R) (q0:Nat→Int→Int→LA→O R) (c:LA) (a:Nat) (f g:Bool) (d:LA) (b:Nat) (h i:Bool):O R :=
 (cond ((decide (0≤(wrap .i64 ((KO (a:Int) (b:Int))+1))))&&((decide ((wrap .i64 ((KO (a:Int) (b:Int))+1))≤(wrap .i64 ((KO (a:Int) (b:Int))+1))))&&((decide ((wrap .i64 ((KO (a:Int) (b:Int))+1))≤140737488355328))&&(decide (((wrap .i64 ((KO (a:Int) (b:Int))+1))*((4:Nat):Int))≤140737488355328))))) (q0 ((wrap .i64 ((KO (a:Int) (b:Int))+1)).toNat) 0 0 (replicate ((wrap .i64 ((KO (a:Int) (b:Int))+1)).toNat) (.int .u32 0))) none)
def Zp:=(Ai fun N c a f g d b h i r0=>NF (R:=R) N r0 (Gn N r0 c a f g d b h i N) c a f g d b h i).1
theorem VT (c a f g d b h i r0):(@Zp R N c a f g d b h i r0)=(NF N r0 (Gn N r0 c a f g d b h i N) c a f g d b h i):=by rw[Zp,(Ai _).2]
def cI:Hints:={ H:=(hK 3 (hS (hK 1 (hS (hP [0,1,5,6,7] (hK 1 (hS (hS (hJ [0,1,5,6,7] hL hL) hL) hL))) hL)) hL)),nils:=[(4,1)],modes:=[(2,1)] }
def iQ:Qr:=[Ht N]
def cJ (F:KF R):=Jd Tryz.f199 cI (iQ N) [] N F
def pT (c:LA) (a:Nat) (f g:Bool) (d:LA) (b:Nat) (h i:Bool) (j:Nat) (l:LA) (K:St→O R):=fun p m=>K ⟨[(0,(.imm c a 1 f g)),(1,(.imm d b 1 h i)),(5,(.own 300000 0 j)),(6,(.int .u64 p)),(7,(iv m))],(hq [(bQ 1 l)])⟩
def cK (c:LA) (a:Nat) (f g:Bool) (d:LA) (b:Nat) (h i:Bool) (K:St→O R):=fun j q o l=>K ⟨[(0,(.imm c a 1 f g)),(1,(.imm d b 1 h i)),(5,(.own 300000 0 j)),(6,(.int .u64 q)),(7,(iv o))],(hq [(bQ 1 l)])⟩
theorem ft (Q0) (F:KF R) (c a f g d b h i j l):pT c a f g d b h i j l (Bv (cJ N F (pz 5574721) [Q0]))=(T5 N (cK c a f g d b h i Q0) (F8 F) c a f g d b h i j l):=by kernel_rfl
theorem fu (F:KF R) (c a f g d b h i):∀ n,cK c a f g d b h i (Am (cJ N F (pz 5444) []) n)=(Gn N (F8 F) c a f g d b h i n):=Fc fun n e=>(MW (Vf N (F8 F) c a f g d b h i) e (fj fun j l=>(jW ..).trans ((ft ..).trans (oY (T5 _ · _ _ _ _ _ _ _ _ _ _ _) e))):_)
def iR:=Dq N 199 (iQ N) cI (fun
 | [(.imm c a 1 f g),(.imm d b 1 h i)],[]=>some fun _ k=>Zp N c a f g d b h i (F8 k)
 | _,_=>none) fun _ _=>by split;intro R F;exact(By (NF N (F8 F) · _ _ _ _ _ _ _ _) ((lW ..).trans (fu ..)):_).trans (VT ..).symm;trivial
def cL (N:Nat) (c:LA) (b:Nat) (d e:Bool) (a:Int) (r0:Int→O R):O R :=
 (cond (decide ((wrap .i64 (Int.tdiv a 32))≥(b:Int))) (r0 0) (cond (Af (wrap .i64 (Int.tdiv a 32)) b) (An .u32 (c.drop (((wrap .i64 (Int.tdiv a 32)).toNat)*1)) fun f=>cond (decide ((wrap .u64 (Int.tmod a 32))<0)) none (r0 (pN .u32 (Int.fdiv f (2 ^ (min ((wrap .u64 (Int.tmod a 32)).toNat) 32))) 1))) none))
def aA:=(Ai (@cL R)).1
theorem VU:@aA R=@cL R:=(Ai _).2
def pU (F:KF R):Int→O R:=(fun g=>F (.int .u32 g) [])
def sP:=Dq N 200 [] G2 (fun
 | [(.imm c b 1 d e),(.int .i64 a)],[]=>some fun _ k=>aA N c b d e a (pU k)
 | _,_=>none) fun _ _=>by split;intro R F;dsimp only;rw[VU];kernel_rfl;trivial
def L5 (N:Nat) (r0:Int→O R) (a b:Nat) (c d:LA) (k0:Int→O R) (f:Int):O R :=
 (cond (decide (f≥0)) (cond (Af f a) (An .u32 (c.drop (0+((f.toNat)*1))) fun q=>cond (Af f b) (An .u32 (d.drop (0+((f.toNat)*1))) fun r=>cond (decide (q<r)) (r0 (-1)) (cond (Af f a) (An .u32 (c.drop (0+((f.toNat)*1))) fun s=>cond (Af f b) (An .u32 (d.drop (0+((f.toNat)*1))) fun t=>cond (decide (s>t)) (r0 1) (k0 (wrap .i64 (f - 1)))) none) none)) none) none) (r0 0))
def Fj (r0:Int→O R) (a b:Nat) (c d:LA):Nat→Int→O R
 | 0,_=>none
 | n+1,f=>L5 N r0 a b c d (Fj r0 a b c d n) f
def Si (r0:Int→O R) (q0:Nat→Nat→LA→LA→Int→O R) (g:LA) (h:Nat) (o i:Bool) (j:LA) (l:Nat) (p m:Bool):O R :=
 (Df N g h false i fun a c=>Df N j l false m fun b d=>cond ((a:Int) != (b:Int)) (cond (decide ((a:Int)<(b:Int))) (r0 (-1)) (r0 1)) (q0 a b c d (wrap .i64 ((a:Int) - 1))))
def Qs:=(Ai fun N g h o i j l p m r0=>Si (R:=R) N r0 (fun a b c d=>Fj N r0 a b c d N) g h o i j l p m).1
theorem BQ (g h o i j l p m r0):(@Qs R N g h o i j l p m r0)=(Si N r0 (fun a b c d=>Fj N r0 a b c d N) g h o i j l p m):=by rw[Qs,(Ai _).2]
def DW:Hints:={ H:=(hK 3 (hS (hK 1 (hS (hP [0,1,5] hL) hL)) hL)) }
def IY:Qr:=[Ht N]
def cM (F:KF R):=Jd Tryz.f221 DW (IY N) [] N F
def cN (a b:Nat) (c d:LA) (K:St→O R):=fun f=>K ⟨[(0,(.own 300000 0 a)),(1,(.own 300001 0 b)),(5,(iv f))],(hq [(bQ 1 c),(bQ 1 d)])⟩
theorem NG (F:KF R) (a b c d):∀ n,cN a b c d (Am (cM N F (pz 5444) []) n)=(Fj N (Dp F) a b c d n):=Fc fun n e=>(By (L5 N (Dp F) a b c d) e:_)
def fw:=Dq N 221 (IY N) DW (fun
 | [(.imm g h 1 o i),(.imm j l 1 p m)],[]=>some fun _ k=>Qs N g h o i j l p m (Dp k)
 | _,_=>none) fun _ _=>by split;intro R F;exact(By (Si N (Dp F) · _ _ _ _ _ _ _ _) (wu fun a b c d=>(lW ..).trans (NG ..)):_).trans (BQ ..).symm;trivial
def T6 (N:Nat) (k0:Int→Int→LA→O R) (r0:Nat→Bool→LA→O R) (a b:Nat) (c d f:LA) (g t:Int):O R :=
 (cond (Af g a) (An .u32 (c.drop (0+((g.toNat)*1))) fun u=>cond (decide ((wrap .u64 u)<t)) (cond (Af g a) (cond ((beq 1 1)&&((ble ((0+((g.toNat)*1))+1) (f.length))&&(!false))) (k0 1 (wrap .i64 (g+1)) (f.set (0+((g.toNat)*1)) (.int .u32 (wrap .u32 (wrap .u64 ((wrap .u64 ((wrap .u64 u)+4294967296)) - t)))))) none) none) (cond (Af g a) (cond ((beq 1 1)&&((ble ((0+((g.toNat)*1))+1) (f.length))&&(!false))) (k0 0 (wrap .i64 (g+1)) (f.set (0+((g.toNat)*1)) (.int .u32 (wrap .u32 (wrap .u64 ((wrap .u64 u) - t)))))) none) none)) none)
def Vg (r0:Nat→Bool→LA→O R) (a b:Nat) (c d:LA) (k0:Int→Int→LA→O R) (q1:LA→Int→Int→O R) (s h:Int) (f:LA):O R :=
 (cond (decide (h<(a:Int))) (cond (decide (h<(b:Int))) (cond (Af h b) (An .u32 (d.drop (0+((h.toNat)*1))) fun v=>q1 f h (wrap .u64 (s+(wrap .u64 v)))) none) (q1 f h s)) (Df N (f.take (a*1)) a false true fun w x=>r0 w true x))
def Gp (r0:Nat→Bool→LA→O R) (a b:Nat) (c d:LA):Nat→Int→Int→LA→O R
 | 0,_,_,_=>none
 | n+1,s,h,f=>Vg N r0 a b c d (Gp r0 a b c d n) (fun f=>T6 N (Gp r0 a b c d n) r0 a b c d f) s h f
def NH (r0:Nat→Bool→LA→O R) (q0:Nat→Nat→LA→LA→Int→Int→LA→O R) (i:LA) (j:Nat) (q l:Bool) (m:LA) (o:Nat) (r p:Bool):O R :=
 (Qs N i j false l m o false p fun y=>cond (decide (y<0)) (r0 0 false []) (Df N i j false l fun a c=>Df N m o false p fun b d=>cond ((decide (0≤(a:Int)))&&((decide ((a:Int)≤(a:Int)))&&((decide ((a:Int)≤140737488355328))&&(decide (((a:Int)*((4:Nat):Int))≤140737488355328))))) (q0 a b c d 0 0 (replicate a (.int .u32 0))) none))
def Zq:=(Ai fun N i j q l m o r p r0=>NH (R:=R) N r0 (fun a b c d=>Gp N r0 a b c d N) i j q l m o r p).1
theorem VV (i j q l m o r p r0):(@Zq R N i j q l m o r p r0)=(NH N r0 (fun a b c d=>Gp N r0 a b c d N) i j q l m o r p):=by rw[Zq,(Ai _).2]
def cO:Hints:={ H:=(hK 5 (hS (hK 1 (hS (hP [0,1,6,7,8] (hK 1 (hS (hS (hK 1 (hJ [0,1,6,8,9] hL hL)) hL) hL))) hL)) hL)),nils:=[(4,1)],modes:=[(2,1),(0,0)] }
def iS:Qr:=[fw N,Ht N]
def cP (F:KF R):=Jd Tryz.f201 cO (iS N) [] N F
def T7 (F:KF R):Nat→Bool→LA→O R:=(fun z aa ab=>F (.tup [(.own 300000 0 z),(.bool aa)]) (hq [(bQ 1 ab)]))
def pV (a b:Nat) (c d f:LA) (K:St→O R):=fun g t=>K ⟨[(0,(.own 300000 0 a)),(1,(.own 300001 0 b)),(6,(.own 300002 0 a)),(8,(iv g)),(9,(.int .u64 t))],(hq [(bQ 1 c),(bQ 1 d),(bQ 1 f)])⟩
def cQ (a b:Nat) (c d:LA) (K:St→O R):=fun s h f=>K ⟨[(0,(.own 300000 0 a)),(1,(.own 300001 0 b)),(6,(.own 300002 0 a)),(7,(.int .u64 s)),(8,(iv h))],(hq [(bQ 1 c),(bQ 1 d),(bQ 1 f)])⟩
theorem fy (Q0) (F:KF R) (a b c d f):pV a b c d f (Bv (cP N F (pz 357843205) [Q0]))=(T6 N (cQ a b c d Q0) (T7 F) a b c d f):=by kernel_rfl
theorem gA (F:KF R) (a b c d):∀ n,cQ a b c d (Am (cP N F (pz 87364) []) n)=(Gp N (T7 F) a b c d n):=Fc fun n e=>(MW (Vg N (T7 F) a b c d) e (fi fun f=>(jW ..).trans ((fy ..).trans (oY (T6 _ · _ _ _ _ _ _) e))):_)
def iT:=Dq N 201 (iS N) cO (fun
 | [(.imm i j 1 q l),(.imm m o 1 r p)],[]=>some fun _ k=>Zq N i j q l m o r p (T7 k)
 | _,_=>none) fun _ _=>by split;intro R F;exact(By (NH N (T7 F) · _ _ _ _ _ _ _ _) (wu fun a b c d=>(lW ..).trans (gA ..)):_).trans (VV ..).symm;trivial
def I5 (k1:Nat→Int→LA→LA→O R) (r0:Nat→Nat→Bool→LA→LA→O R) (b:LA) (a:Nat) (f c:Bool) (d:Nat) (h:Int) (g i:LA) (r:Nat) (s:LA):O R :=
 (Zq N (s.take (r*1)) r false true (g.take (d*1)) d false true fun x y z=>cond y (cond (Af (wrap .i64 (Int.tdiv h 32)) a) (An .u32 (i.drop (0+(((wrap .i64 (Int.tdiv h 32)).toNat)*1))) fun aa=>cond (decide ((wrap .u64 (Int.tmod h 32))<0)) none (cond (Af (wrap .i64 (Int.tdiv h 32)) a) (cond ((beq 1 1)&&((ble ((0+(((wrap .i64 (Int.tdiv h 32)).toNat)*1))+1) (i.length))&&(!false))) (k1 x (wrap .i64 (h - 1)) (i.set (0+(((wrap .i64 (Int.tdiv h 32)).toNat)*1)) (.int .u32 (bZ .u32 aa (wrap .u32 ((1:Int)*2 ^ (min ((wrap .u64 (Int.tmod h 32)).toNat) 32)))))) z) none) none)) none) (k1 r (wrap .i64 (h - 1)) i s))
def Nm (r0:Nat→Nat→Bool→LA→LA→O R) (b:LA) (a:Nat) (f c:Bool) (d:Nat) (g:LA) (k1:Nat→Int→LA→LA→O R) (q2:Int→LA→Nat→LA→O R) (j:Nat) (h:Int) (i p:LA):O R :=
 (cond (decide (h≥0)) (Zp N (p.take (j*1)) j false true (p.take (j*1)) j false true fun u v=>aA N b a false c h fun ab=>cond (ab==1) (Zp N (v.take (u*1)) u false true [(.int .u32 1)] 1 false true fun ac ad=>q2 h i ac ad) (q2 h i u v)) (Df N (i.take (a*1)) a false true fun ae af=>Df N (p.take (j*1)) j false true fun ag ah=>r0 ae ag true af ah))
def D6 (r0:Nat→Nat→Bool→LA→LA→O R) (b:LA) (a:Nat) (f c:Bool) (d:Nat) (g:LA):Nat→Nat→Int→LA→LA→O R
 | 0,_,_,_,_=>none
 | n+1,j,h,i,p=>Nm N r0 b a f c d g (D6 r0 b a f c d g n) (fun h i=>I5 N (D6 r0 b a f c d g n) r0 b a f c d h g i) j h i p
def T8 (r0:Nat→Nat→Bool→LA→LA→O R) (b:LA) (a:Nat) (f c:Bool) (d:Nat) (g:LA) (q1:Nat→Int→LA→LA→O R):O R :=
 (cond ((decide (0≤(a:Int)))&&((decide ((a:Int)≤(a:Int)))&&((decide ((a:Int)≤140737488355328))&&(decide (((a:Int)*((4:Nat):Int))≤140737488355328))))) (DV N b a false c fun ai=>q1 0 (wrap .i64 (ai - 1)) (replicate a (.int .u32 0)) []) none)
def Lm (r0:Nat→Nat→Bool→LA→LA→O R) (b:LA) (a:Nat) (f c:Bool) (d:Nat) (g:LA):O R:=(T8 N r0 b a f c d g (D6 N r0 b a f c d g N))
def Vh (r0:Nat→Nat→Bool→LA→LA→O R) (q0:Nat→LA→O R) (b:LA) (a:Nat) (f c:Bool) (l:LA) (m:Nat) (q o:Bool):O R :=
 (Df N l m false o fun d g=>cond ((d:Int)==0) (r0 0 0 false [] []) (O3 N b a false c fun w aj=>O3 N (g.take (d*1)) d false true fun t ak=>cond (aj==true) (cond (cond true ak false) (cond (t==0) none (Fi N (wrap .u64 (Int.tdiv w t)) fun al am=>cond (t==0) none (Fi N (Int.tmod w t) fun an ao=>r0 al an true am ao))) (q0 d g)) (q0 d g)))
def O4:=(Ai fun N b a f c l m q o r0=>Vh (R:=R) N r0 (fun d g=>Lm N r0 b a f c d g) b a f c l m q o).1
theorem DX (b a f c l m q o r0):(@O4 R N b a f c l m q o r0)=(Vh N r0 (fun d g=>Lm N r0 b a f c d g) b a f c l m q o):=by rw[O4,(Ai _).2]
def IZ:Hints:={ H:=(hK 4 (hJ [0,1,5] hL (hK 1 (hS (hK 1 (hS (hP [0,1,4,5,11] (hK 1 (hS (hS (hK 1 (hJ [0,1,4,5,11] hL hL)) hL) hL))) hL)) hL)))),nils:=[(4,1),(5,1)],modes:=[(2,1),(2,1),(0,0)] }
def NI:Qr:=[Ht N,jy N,Xy N,pS N,iR N,sP N,iT N]
def Wr (F:KF R):=Jd Tryz.f175 IZ (NI N) [] N F
def Gq (F:KF R):Nat→Nat→Bool→LA→LA→O R:=(fun ap aq ar au av=>F (.tup [(.own 300000 0 ap),(.own 300001 0 aq),(.bool ar)]) (hq [(bQ 1 au),(bQ 1 av)]))
def gB (b:LA) (a:Nat) (f c:Bool) (d:Nat) (h:Int) (g i:LA) (K:St→O R):=fun r s=>K ⟨[(0,(.imm b a 1 f c)),(1,(.own 300000 0 d)),(4,(.own 300001 0 a)),(5,(.own 300002 0 r)),(11,(iv h))],(hq [(bQ 1 g),(bQ 1 i),(bQ 1 s)])⟩
def I_ (b:LA) (a:Nat) (f c:Bool) (d:Nat) (g:LA) (K:St→O R):=fun j h i p=>K ⟨[(0,(.imm b a 1 f c)),(1,(.own 300000 0 d)),(4,(.own 300001 0 a)),(5,(.own 300002 0 j)),(11,(iv h))],(hq [(bQ 1 g),(bQ 1 i),(bQ 1 p)])⟩
def gC (b:LA) (a:Nat) (f c:Bool) (d:Nat) (g:LA) (K:St→O R):=K ⟨[(0,(.imm b a 1 f c)),(1,(.own 300000 0 d)),(5,(.own 300001 0 0))],(hq [(bQ 1 g),(bQ 1 [])])⟩
theorem SQ (Q1) (F:KF R) (b a f c d h g i):gB b a f c d h g i (Bv (Wr N F (pz 1431585029) [Q1]))=(I5 N (I_ b a f c d g Q1) (Gq F) b a f c d h g i):=by kernel_rfl
theorem SR (F:KF R) (b a f c d g):∀ n,I_ b a f c d g (Am (Wr N F (pz 349508) []) n)=(D6 N (Gq F) b a f c d g n):=Fc fun n e=>(MW (Nm N (Gq F) b a f c d g) e (fj fun h i=>(jW ..).trans ((SQ ..).trans (oY (I5 _ · _ _ _ _ _ _ _ _ _) e))):_)
theorem ST (F:KF R) (b a f c d g):gC b a f c d g (Bv (Wr N F (pz 1365) []))=(Lm N (Gq F) b a f c d g):=(By (T8 N (Gq F) b a f c d g) ((lW ..).trans (SR ..)):_)
def NJ:=Dq N 175 (NI N) IZ (fun
 | [(.imm b a 1 f c),(.imm l m 1 q o)],[]=>some fun _ k=>O4 N b a f c l m q o (Gq k)
 | _,_=>none) fun _ _=>by split;intro R F;exact(By (Vh N (Gq F) · _ _ _ _ _ _ _ _) (fj fun d g=>(jW ..).trans (ST ..)):_).trans (DX ..).symm;trivial
def Mx (r0:Nat→LA→O R) (k0:Nat→Nat→LA→LA→O R) (i a:Nat) (m o:LA):O R :=
 (cond (decide ((a:Int)>0)) (O4 N (m.take (i*1)) i false true (o.take (a*1)) a false true fun v p w x q=>k0 a p o q) (r0 i m))
def Dg (r0:Nat→LA→O R):Nat→Nat→Nat→LA→LA→O R
 | 0,_,_,_,_=>none
 | n+1,i,a,m,o=>Mx N r0 (Dg r0 n) i a m o
def NK (r0:Nat→LA→O R) (q0:Nat→Nat→LA→LA→O R) (b:LA) (c:Nat) (j d:Bool) (f:LA) (g:Nat) (l h:Bool):O R :=
 (Df N b c false d fun r s=>Df N f g false h fun t u=>q0 r t s u)
def NL:=(Ai fun N b c j d f g l h r0=>NK (R:=R) N r0 (Dg N r0 N) b c j d f g l h).1
theorem VW (b c j d f g l h r0):(@NL R N b c j d f g l h r0)=(NK N r0 (Dg N r0 N) b c j d f g l h):=by rw[NL,(Ai _).2]
def cR:Hints:={ H:=(hK 2 (hS (hS (hP [0,1] hL) hL) hL)),nils:=[(4,1)],modes:=[(2,1)] }
def iU:Qr:=[Ht N,NJ N]
def pW (F:KF R):=Jd Tryz.f174 cR (iU N) [] N F
def pX (K:St→O R):=fun i a m o=>K ⟨[(0,(.own 300000 0 i)),(1,(.own 300001 0 a))],(hq [(bQ 1 m),(bQ 1 o)])⟩
theorem gD (F:KF R):∀ n,pX (Am (pW N F (pz 336) []) n)=(Dg N (F8 F) n):=Fc fun n e=>(By (Mx N (F8 F)) e:_)
def sQ:=Dq N 174 (iU N) cR (fun
 | [(.imm b c 1 j d),(.imm f g 1 l h)],[]=>some fun _ k=>NL N b c j d f g l h (F8 k)
 | _,_=>none) fun _ _=>by split;intro R F;exact(By (NK N (F8 F) · _ _ _ _ _ _ _ _) ((lW ..).trans (gD ..)):_).trans (VW ..).symm;trivial
def cS (a:LA) (b:Bool) (c:LA) (d:Bool) (r0:LA→O R):O R :=
 (Az 1 (a.drop 1) fun g h=>Az 1 (c.drop 1) fun i j=>NL N g h false b i j false d fun f l=>F9 N false (l.take (f*1)) f false true fun e=>cond ((beq 0 0)&&((beq (e.length) 2)&&(beq 2 2))) (cond (ble 2 (e.length)) (r0 (e.take 2)) none) none)
def aB:=(Ai (@cS R)).1
theorem VX:@aB R=@cS R:=(Ai _).2
def sR:=Dq N 131 [sQ N,Mm N] IQ (fun
 | [(.pagg a b),(.pagg c d)],[]=>some fun _ k=>aB N a b c d (SH k)
 | _,_=>none) fun _ _=>by split;intro R F;dsimp only;rw[VX];kernel_rfl;trivial
def mg (a:LA) (b:Bool) (r0:LA→O R):O R :=
 (Az 1 (a.drop 1) fun d e=>F9 N false d e false b fun c=>cond ((beq 0 0)&&((beq (c.length) 2)&&(beq 2 2))) (cond (ble 2 (c.length)) (r0 (c.take 2)) none) none)
def jz:=(Ai (@mg R)).1
theorem mh:@jz R=@mg R:=(Ai _).2
def sS:=Dq N 177 [Mm N] IQ (fun
 | [(.pagg a b)],[]=>some fun _ k=>jz N a b (SH k)
 | _,_=>none) fun _ _=>by split;intro R F;dsimp only;rw[mh];kernel_rfl;trivial
def mi (a:LA) (c:Bool) (b:LA) (d:Bool) (r0:LA→O R):O R :=
 (L_ a fun l=>L_ b fun m=>cond (l==m) (L_ a fun n=>Az 1 (a.drop 1) fun o p=>Az 1 (b.drop 1) fun q r=>Zp N o p false c q r false d fun h s=>F9 N n (s.take (h*1)) h false true fun e=>cond ((beq 0 0)&&((beq (e.length) 2)&&(beq 2 2))) (cond (ble 2 (e.length)) (r0 (e.take 2)) none) none) (Az 1 (a.drop 1) fun t u=>Az 1 (b.drop 1) fun v w=>Zq N t u false c v w false d fun i x y=>cond x (L_ a fun z=>F9 N z (y.take (i*1)) i false true fun f=>cond ((beq 0 0)&&((beq (f.length) 2)&&(beq 2 2))) (cond (ble 2 (f.length)) (r0 (f.take 2)) none) none) (Az 1 (b.drop 1) fun aa ab=>Az 1 (a.drop 1) fun ac ad=>Zq N aa ab false d ac ad false c fun j ag ae=>L_ b fun af=>F9 N af (ae.take (j*1)) j false true fun g=>cond ((beq 0 0)&&((beq (g.length) 2)&&(beq 2 2))) (cond (ble 2 (g.length)) (r0 (g.take 2)) none) none)))
def NM:=(Ai (@mi R)).1
theorem mj:@NM R=@mi R:=(Ai _).2
def iV:=Dq N 176 [iR N,Mm N,iT N] IQ (fun
 | [(.pagg a c),(.pagg b d)],[]=>some fun _ k=>NM N a c b d (SH k)
 | _,_=>none) fun _ _=>by split;intro R F;dsimp only;rw[mj];kernel_rfl;trivial
def NN (a:Int) (r0:LA→O R):O R :=
 (cond (decide (a<0)) (Fi N (wrap .u64 ((wrap .u64 (wrap .i64 ((0:Int) - (wrap .i64 (a+1)))))+1)) fun d f=>F9 N true (f.take (d*1)) d false true fun b=>cond ((beq 0 0)&&((beq (b.length) 2)&&(beq 2 2))) (cond (ble 2 (b.length)) (r0 (b.take 2)) none) none) (Fi N (wrap .u64 a) fun e g=>F9 N false (g.take (e*1)) e false true fun c=>cond ((beq 0 0)&&((beq (c.length) 2)&&(beq 2 2))) (cond (ble 2 (c.length)) (r0 (c.take 2)) none) none))
def Vi:=(Ai (@NN R)).1
theorem YE:@Vi R=@NN R:=(Ai _).2
def gE:=Dq N 88 [Xy N,Mm N] IQ (fun
 | [(.int .i64 a)],[]=>some fun _ k=>Vi N a (SH k)
 | _,_=>none) fun _ _=>by split;intro R F;dsimp only;rw[YE];kernel_rfl;trivial
def ml (a:LA) (b:Bool) (r0:LA→O R):O R :=
 (L_ a fun d=>Az 1 (a.drop 1) fun e f=>F9 N (!d) e f false b fun c=>cond ((beq 0 0)&&((beq (c.length) 2)&&(beq 2 2))) (cond (ble 2 (c.length)) (r0 (c.take 2)) none) none)
def NO:=(Ai (@ml R)).1
theorem mm:@NO R=@ml R:=(Ai _).2
def iW:=Dq N 133 [Mm N] IQ (fun
 | [(.pagg a b)],[]=>some fun _ k=>NO N a b (SH k)
 | _,_=>none) fun _ _=>by split;intro R F;dsimp only;rw[mm];kernel_rfl;trivial
def mn (a:LA) (c:Bool) (b:LA) (d:Bool) (r0:LA→O R):O R :=
 (cond (ble 2 (a.length)) (cond (ble 2 (b.length)) (NO N (b.take 2) d fun f=>NM N (a.take 2) c f false fun e=>cond ((beq 0 0)&&((beq (e.length) 2)&&(beq 2 2))) (cond (ble 2 (e.length)) (r0 (e.take 2)) none) none) none) none)
def kA:=(Ai (@mn R)).1
theorem mo:@kA R=@mn R:=(Ai _).2
def sT:=Dq N 178 [iW N,iV N] IQ (fun
 | [(.pagg a c),(.pagg b d)],[]=>some fun _ k=>kA N a c b d (SH k)
 | _,_=>none) fun _ _=>by split;intro R F;dsimp only;rw[mo];kernel_rfl;trivial
def DY (g:LA) (i:Bool) (f:LA) (h:Bool) (r0:LA→LA→Bool→O R):O R :=
 (Az 1 (g.drop 1) fun m n=>Az 1 (f.drop 1) fun o p=>O4 N m n false i o p false h fun j l q r s=>cond (!q) (r0 [(.bool false),.nsl] [(.bool false),.nsl] false) (L_ g fun t=>L_ f fun u=>F9 N (!(t==u)) (r.take (j*1)) j false true fun a=>L_ g fun v=>F9 N v (s.take (l*1)) l false true fun b=>cond ((beq 0 0)&&((beq (a.length) 2)&&(beq 2 2))) (cond ((beq 0 0)&&((beq (b.length) 2)&&(beq 2 2))) (L_ b fun w=>cond w (cond (ble 2 (b.length)) (cond (ble 2 (f.length)) (jz N (f.take 2) h fun x=>NM N (b.take 2) false x false fun c=>cond ((beq (c.length) 2)&&((ble 2 (b.length))&&(!false))) (L_ f fun y=>cond y (cond (ble 2 (a.length)) (Vi N 1 fun z=>NM N (a.take 2) false z false fun d=>cond ((beq (d.length) 2)&&((ble 2 (a.length))&&(!false))) (cond (ble 2 ((setCells a 0 d).length)) (cond (ble 2 ((setCells b 0 c).length)) (cond ((beq (((setCells a 0 d).take 2).length) 2)&&((ble 2 ((setCells a 0 d).length))&&(!false))) (cond ((beq (((setCells b 0 c).take 2).length) 2)&&((ble 2 ((setCells b 0 c).length))&&(!false))) (cond (ble 2 ((setCells (setCells a 0 d) 0 ((setCells a 0 d).take 2)).length)) (cond (ble 2 ((setCells (setCells b 0 c) 0 ((setCells b 0 c).take 2)).length)) (r0 ((setCells (setCells a 0 d) 0 ((setCells a 0 d).take 2)).take 2) ((setCells (setCells b 0 c) 0 ((setCells b 0 c).take 2)).take 2) true) none) none) none) none) none) none) none) none) (cond (ble 2 (a.length)) (Vi N 1 fun aa=>kA N (a.take 2) false aa false fun e=>cond ((beq (e.length) 2)&&((ble 2 (a.length))&&(!false))) (cond (ble 2 ((setCells a 0 e).length)) (cond (ble 2 ((setCells b 0 c).length)) (cond ((beq (((setCells a 0 e).take 2).length) 2)&&((ble 2 ((setCells a 0 e).length))&&(!false))) (cond ((beq (((setCells b 0 c).take 2).length) 2)&&((ble 2 ((setCells b 0 c).length))&&(!false))) (cond (ble 2 ((setCells (setCells a 0 e) 0 ((setCells a 0 e).take 2)).length)) (cond (ble 2 ((setCells (setCells b 0 c) 0 ((setCells b 0 c).take 2)).length)) (r0 ((setCells (setCells a 0 e) 0 ((setCells a 0 e).take 2)).take 2) ((setCells (setCells b 0 c) 0 ((setCells b 0 c).take 2)).take 2) true) none) none) none) none) none) none) none) none)) none) none) none) (cond (ble 2 (a.length)) (cond (ble 2 (b.length)) (cond ((beq ((a.take 2).length) 2)&&((ble 2 (a.length))&&(!false))) (cond ((beq ((b.take 2).length) 2)&&((ble 2 (b.length))&&(!false))) (cond (ble 2 ((setCells a 0 (a.take 2)).length)) (cond (ble 2 ((setCells b 0 (b.take 2)).length)) (r0 ((setCells a 0 (a.take 2)).take 2) ((setCells b 0 (b.take 2)).take 2) true) none) none) none) none) none) none)) none) none))
def T9:=(Ai (@DY R)).1
theorem DZ:@T9 R=@DY R:=(Ai _).2
def gF (F:KF R):LA→LA→Bool→O R:=(fun ab ac ad=>F (.tup [(.pagg ab false),(.pagg ac false),(.bool ad)]) [])
def kB:=Dq N 132 [NJ N,Mm N,sS N,iV N,gE N,sT N] { H:=hL,modes:=[(3,0),(3,0),(0,0)] } (fun
 | [(.pagg g i),(.pagg f h)],[]=>some fun _ k=>T9 N g i f h (gF k)
 | _,_=>none) fun _ _=>by split;intro R F;dsimp only;rw[DZ];kernel_rfl;trivial
def Vj (r0:LA→O R) (d:Bool) (b:LA) (c:Bool) (a:LA):O R :=
 (cond (ble 2 (b.length)) (cond (ble 2 (a.length)) (aB N (b.take 2) d (a.take 2) c fun h=>cond ((beq 0 0)&&((beq (h.length) 2)&&(beq 2 2))) (cond (ble 2 (b.length)) (cond (ble 2 (h.length)) (T9 N (b.take 2) d (h.take 2) false fun e t ab=>cond ((beq 0 0)&&((beq (e.length) 2)&&(beq 2 2))) (cond ((beq 0 0)&&((beq (t.length) 2)&&(beq 2 2))) (cond (ble 2 (a.length)) (cond (ble 2 (h.length)) (T9 N (a.take 2) c (h.take 2) false fun f u ac=>cond ((beq 0 0)&&((beq (f.length) 2)&&(beq 2 2))) (cond ((beq 0 0)&&((beq (u.length) 2)&&(beq 2 2))) (L_ f fun v=>cond v (cond (ble 2 (e.length)) (NO N (e.take 2) false fun g=>cond (ble 2 (f.length)) (NO N (f.take 2) false fun s=>cond ((beq (g.length) 2)&&((ble 2 (e.length))&&(!false))) (cond ((beq (s.length) 2)&&((ble 2 (f.length))&&(!false))) (cond (ble 2 ((setCells e 0 g).length)) (Az 1 ((setCells f 0 s).drop 1) fun l m=>cond ((beq (((setCells e 0 g).take 2).length) 2)&&(ble 2 3)) (cond ((beq 1 1)&&(ble 3 ((setCells [(.bool false),.nsl,.nsl] 0 ((setCells e 0 g).take 2)).length))) (cond ((beq 0 0)&&((beq (((setCells [(.bool false),.nsl,.nsl] 0 ((setCells e 0 g).take 2)).set 2 (.imm l m 1 false false)).length) 3)&&(beq 3 3))) (cond (ble 3 (((setCells [(.bool false),.nsl,.nsl] 0 ((setCells e 0 g).take 2)).set 2 (.imm l m 1 false false)).length)) (r0 (((setCells [(.bool false),.nsl,.nsl] 0 ((setCells e 0 g).take 2)).set 2 (.imm l m 1 false false)).take 3)) none) none) none) none) none) none) none) none) none) (cond (ble 2 (e.length)) (Az 1 (f.drop 1) fun n o=>cond ((beq ((e.take 2).length) 2)&&(ble 2 3)) (cond ((beq 1 1)&&(ble 3 ((setCells [(.bool false),.nsl,.nsl] 0 (e.take 2)).length))) (cond ((beq 0 0)&&((beq (((setCells [(.bool false),.nsl,.nsl] 0 (e.take 2)).set 2 (.imm n o 1 false false)).length) 3)&&(beq 3 3))) (cond (ble 3 (((setCells [(.bool false),.nsl,.nsl] 0 (e.take 2)).set 2 (.imm n o 1 false false)).length)) (r0 (((setCells [(.bool false),.nsl,.nsl] 0 (e.take 2)).set 2 (.imm n o 1 false false)).take 3)) none) none) none) none) none)) none) none) none) none) none) none) none) none) none) none) none)
def GP (r0:LA→O R) (q0:O R) (b:LA) (d:Bool) (a:LA) (c:Bool):O R :=
 (cond (ble 2 (a.length)) (Xw N (a.take 2) c fun w=>cond (w==0) (NB N fun p=>cond ((beq 0 0)&&((beq (p.length) 3)&&(beq 3 3))) (cond (ble 3 (p.length)) (r0 (p.take 3)) none) none) (cond (ble 2 (a.length)) (Xv N (a.take 2) c fun j=>cond ((beq 0 0)&&((beq (j.length) 2)&&(beq 2 2))) (L_ j fun x=>cond ((!x)==true) (Az 1 (j.drop 1) fun y z=>Xx N y z false false [(.int .u32 1)] 1 false true fun aa=>cond (cond true aa false) (cond (ble 2 (b.length)) (Xv N (b.take 2) d fun i=>Az 1 (j.drop 1) fun q r=>cond ((beq (i.length) 2)&&(ble 2 3)) (cond ((beq 1 1)&&(ble 3 ((setCells [(.bool false),.nsl,.nsl] 0 i).length))) (cond ((beq 0 0)&&((beq (((setCells [(.bool false),.nsl,.nsl] 0 i).set 2 (.imm q r 1 false false)).length) 3)&&(beq 3 3))) (cond (ble 3 (((setCells [(.bool false),.nsl,.nsl] 0 i).set 2 (.imm q r 1 false false)).length)) (r0 (((setCells [(.bool false),.nsl,.nsl] 0 i).set 2 (.imm q r 1 false false)).take 3)) none) none) none) none) none) q0) q0) none) none)) none)
def D_:=(Ai fun N b d a c r0=>GP (R:=R) N r0 (Vj N r0 d b c a) b d a c).1
theorem NP (b d a c r0):(@D_ R N b d a c r0)=(GP N r0 (Vj N r0 d b c a) b d a c):=by rw[D_,(Ai _).2]
def VY:Hints:={ H:=(hK 2 (hJ [2,3,4] hL hL)),modes:=[(3,0)] }
def cT:Qr:=[cF N,pR N,cE N,mc N,sR N,kB N,iW N]
def mq (F:KF R):=Jd Tryz.f87 VY (cT N) [] N F
def mr (d:Bool) (b:LA) (c:Bool) (a:LA) (K:St→O R):=K ⟨[(2,(op 0)),(3,(op 1)),(4,(op 2))],(hq [(bP d 0 b),(bP c 0 a),(bN 0 [(.bool false),.nsl,.nsl])])⟩
theorem cU (F:KF R) (d b c a):mr d b c a (Bv (mq N F (pz 85) []))=(Vj N (SH F) d b c a):=by kernel_rfl
def pY:=Dq N 87 (cT N) VY (fun
 | [(.pagg b d),(.pagg a c)],[]=>some fun _ k=>D_ N b d a c (SH k)
 | _,_=>none) fun _ _=>by split;intro R F;exact(By (GP N (SH F) · _ _ _ _) ((jW ..).trans (cU ..)):_).trans (NP ..).symm;trivial
def SU (a:LA) (b:Bool) (r0:LA→O R):O R :=
 (cond (ble 2 (a.length)) (Az 1 (a.drop 2) fun d e=>D_ N (a.take 2) b [(.bool false),(.imm d e 1 false b)] (b||false) fun c=>cond ((beq 0 0)&&((beq (c.length) 3)&&(beq 3 3))) (cond (ble 3 (c.length)) (r0 (c.take 3)) none) none) none)
def NQ:=(Ai (@SU R)).1
theorem NR:@NQ R=@SU R:=(Ai _).2
def pZ:=Dq N 182 [pY N] IQ (fun
 | [(.pagg a b)],[]=>some fun _ k=>NQ N a b (SH k)
 | _,_=>none) fun _ _=>by split;intro R F;dsimp only;rw[NR];kernel_rfl;trivial
def SV (a:LA) (b:Bool) (r0:Int→O R):O R :=
 (cond (ble 3 (a.length)) (NQ N (a.take 3) b fun c=>cond (ble 2 (c.length)) (Xw N (c.take 2) false fun d=>r0 d) none) none)
def EA:=(Ai (@SV R)).1
theorem NS:@EA R=@SV R:=(Ai _).2
def p8:=Dq N 156 [pZ N,cF N] G2 (fun
 | [(.pagg a b)],[]=>some fun _ k=>EA N a b (Dp k)
 | _,_=>none) fun _ _=>by split;intro R F;dsimp only;rw[NS];kernel_rfl;trivial
end
end Gx
namespace Gx
open Go
section
variable {J:Bool→Nat→Prop} {β:Bu} {h:Ao} {w w':World}
theorem Step.junk (S:SimH J β h w) (v:w'.os=w.os) (y:w'.tape=w.tape) (z:w'.output=w.output) (hs:w.heap.size≤w'.heap.size) (i:∀ k,k<w.heap.size→w'.heap[k]?=w.heap[k]?):Step J β h w J β h w':=by
 have A:∀ k,Ar w k≤Ar w' k:=fun k=>by
  by_cases q:k<w.heap.size
  ·simp[Ar,i k q]
  ·simp[Ar,Acq (Adm q)]
 have E:Ext J β h w J β h w':=⟨fun _ _ d=>d,fun o k d=>i k (S.jlt o k d),fun b x e=>⟨x,⟨e,rfl⟩,by cases j:x.dead<;>simp⟩,fun b k o _=>A k⟩
 refine⟨E,⟨fun o k d=>Adj (S.jlt o k d) hs,S.jft,S.gl.ext E,fun b x e j m=>?_,fun b x e j m=>(S.mblk b x e j m).keep rfl (fun k o C=>i k (La S e j C)) (fun _ _ _ _ d=>d),S.sep⟩,v,y,z,hs,fun k q _=>i k q,fun k m _=>m,fun _ _ d=>.inl d⟩
 rcases S.blk b x e j m with s | ⟨k,o,cs,ty,fr,s,u,D,F,G,I⟩
 ·exact .inl s
 ·exact .inr ⟨k,o,cs,ty,fr,s,by rw[i k (Ng u)];exact u,D,F,G.ext E,I⟩
theorem Step.newAt (S:SimH J β h w) {d k0:Nat} {x:Blk} {cs:Array Value} {ty:TypeId} {fr:Nat×Nat} (hn:Ag h d=none) (hxd:x.dead=false) (I:x.sealed=false)
  (K:FrTy x.ty ty 0 cs.size fr) (V:x.cells.length≤cs.size) (L:w'.heap[k0]?=some (.cells cs ty fr)) (hge:w.heap.size≤k0)
  (ho:w'.os=w.os) (ht:w'.tape=w.tape) (hu:w'.output=w.output) (hs:w.heap.size≤w'.heap.size) (z:∀ k,k<w.heap.size→w'.heap[k]?=w.heap[k]?)
  (hc:CellsRep J β h w x fun j=>cs[j]?) (M:x.mp=false:=by rfl) :
  Step J β h w J (fun b=>if b=d then some (k0,0) else β b) (Dd h d x) w':=by
 have ne:∀ {b y},Ag h b=some y→b≠d:=fun i e=>by subst e;rw[hn] at i;cases i
 have E:Ext J β h w J (fun b=>if b=d then some (k0,0) else β b) (Dd h d x) w':=by
  refine⟨fun _ _ q=>q,fun o k q=>z k (S.jlt o k q),fun b y i=>⟨y,⟨by rw[Ac,if_neg (ne i)];exact i,rfl⟩,?_⟩,fun b k o m=>?_⟩
  ·cases v:y.dead
   ·exact .inr ⟨rfl,by simp[ne i],rfl,fun _=>rfl⟩
   ·exact .inl rfl
  ·by_cases D:k<w.heap.size
   ·simp[Ar,z k D]
   ·simp[Ar,Acq (Adm D)]
 refine⟨E,⟨fun o k q=>Adj (S.jlt o k q) hs,S.jft,S.gl.ext E,fun b y i v F=>?_,fun b y i v F=>by
   rw[Ac] at i
   by_cases e:b=d
   ·rw[if_pos e] at i;simp at i;subst i;simp[M] at F
   ·rw[if_neg e] at i
    exact(S.mblk b y i v F).keep (by simp[e]) (fun k o m=>z k (La S i v m)) (fun _ _ _ _ q=>q),?_⟩,ho,ht,hu,hs,fun k D _=>z k D,?_,fun _ _ q=>.inl q⟩
 ·rw[Ac] at i
  by_cases e:b=d
  ·subst e;simp at i;subst i
   exact .inr ⟨k0,0,cs,ty,fr,by simp,L,K,by omega,by simpa using hc.ext E,fun _ g q=>by have:=S.jlt g _ q;omega,fun hs=>by simp[I] at hs⟩
  ·rw[if_neg e] at i
   rcases S.blk b y i v F with G | ⟨k,o,O,T,U,G,X,h3,h4,h5,h6⟩
   ·exact .inl ⟨by simp[e,G.1],G.2⟩
   ·exact .inr ⟨k,o,O,T,U,by simp[e,G],by rw[z k (Ng X)];exact X,h3,h4,h5.ext E,h6⟩
 ·intro b Y y y' k o o' i s v C hs m u
  rw[Ac] at i s
  by_cases e:b=d<;>by_cases A:Y=d
  ·rw[e,A]
  ·rw[if_neg A] at s
   simp[e] at m;simp[A] at u
   have:=La S s C u;omega
  ·rw[if_neg e] at i
   simp[A] at u;simp[e] at m
   have:=La S i v m;omega
  ·rw[if_neg e] at i;rw[if_neg A] at s
   simp[e] at m;simp[A] at u
   exact S.sep b Y y y' k o o' i s v C hs m u
 ·rintro k ⟨b,y,o,i,v,hs,m⟩ z
  rw[Ac] at i
  by_cases e:b=d
  ·simp[e] at m;omega
  ·rw[if_neg e] at i;simp[e] at m
   exact⟨b,y,o,i,v,hs,m⟩
end
end Gx
namespace Go.Proofs.Bw
open Go Go.RowKit
section
variable {P:Program} (w:World)
theorem mt (base:Nat) (t ty e:TypeId) (i:TypeInfo) (z:Value) (size bytes:Nat) (S:P.underlying t=some (.slice e)) (hi:P.info? e=some i) (T:i.zero=some z)
  (y:i.size=size) (I:i.bytes=bytes) (U:z.cells.size=size) (V:0<size)
  (v:Value) (n:Nat) (xs:List Value) (b:w.ownsRow base e size v n xs)
  (a:Addr) (m c:Nat) (news:List Value) (K:news.length=m*size) (d:∀ j u,news[j]?=some u→w.cell? (a.add j)=some u) (h1:∀ u ∈ news,u.oneCell'=true)
  (hm:0<m) (C:n+m≤maxLen) (q:(n+m)*bytes≤140737488355328) (D:base≤w.heap.size) :
  ∃ v' w',(Builtin.append_ #[t,t] ty #[v,.slice (some a) m c]).run P w=.ok v' w'∧w'.ownsRow base e size v' (n+m) (xs++news)∧w'.ownsRow base e size v n xs∧w.grownBy w' v.ownBlock ∧
   (v'.ownBlock=v.ownBlock∨∃ k,v'.ownBlock=some k∧w.heap.size≤k):=by
 obtain⟨v',w',hr,h2,X,h4⟩:=run_append_own (P:=P) w base t ty e i z size bytes S hi T y I U V v n xs b a m c news K d h1 C q D
 subst y
 subst I
 refine⟨v',w',hr,h2,?_⟩
 rcases b.2 with⟨rfl,rfl⟩ | ⟨g,cap,cur,rfl,Y,hg,L,hcm,M,F⟩
 ·have hx:xs=[]:=List.eq_nil_of_length_eq_zero (by simpa using b.1)
  subst hx
  have s:=run_append_nil (P:=P) w t ty e i z S hi T a m c news K d hm (by simp only[maxLen] at C;omega) (by have hb:=q;simp only[Nat.zero_add] at hb;omega)
  rw[hr] at s
  injection s with e1 e2
  subst e1
  exact⟨World.ownsRow_nil _ _ _ _,X,.inr ⟨w.heap.size,rfl,Nat.le_refl _⟩⟩
 ·by_cases A:n+m≤cap
  ·have O:n*i.size+news.length≤cur.size:=by rw[K,M,←Nat.add_mul];exact Nat.mul_le_mul_right _ A
   have s:=run_append_room (P:=P) w t ty e i S hi g n cap cur hg a m c news K d h1 A O
   rw[hr] at s
   injection s with e1 e2
   subst e1
   refine⟨⟨b.1,?_⟩,X,.inl rfl⟩
   rcases h2.2 with⟨h5,_⟩ | ⟨g',cap',cur',hv,hb',hg',hn',hc',hs',ht'⟩
   ·cases h5
   ·cases hv
    refine .inr ⟨g,cap,cur',rfl,hb',hg',L,hc',hs',?_⟩
    have:cur'.toList.take (n*i.size)=(cur'.toList.take ((n+m)*i.size)).take (n*i.size):=by
     rw[List.take_take,Nat.min_eq_left (Nat.mul_le_mul_right _ (by omega))]
    rw[this,ht',←b.1]
    exact List.take_left
  ·have G:∀ j u,xs[j]?=some u→w.cell? ((⟨g,0,none⟩:Addr).add j)=some u:=b.cells (g:=g) rfl
   have s:=run_append_grow (P:=P) w t ty e i z S hi T ⟨g,0,none⟩ n cap xs b.1 G a m c news K d (by omega) (by simp only[maxLen] at C;omega) (growslice_fits (by omega) q)
   rw[hr] at s
   injection s with e1 e2
   subst e1 e2
   refine⟨?_,X,.inr ⟨w.heap.size,rfl,Nat.le_refl _⟩⟩
   have hlt:=(Array.getElem?_eq_some_iff.1 hg).1
   exact⟨b.1,.inr ⟨g,cap,cur,rfl,Y,(heap_alloc_old w.drew _ hlt).trans hg,L,hcm,M,F⟩⟩
theorem K_ {ops:Array Oper} {Oy:List Oper} {o:Oper} {a:Act} {Q:Exit→Act→World→Prop} (C:o.guard=none) (s x:Operand) (t:TypeId)
  (L:o.op=.call { callee:=.builtin .append,args:=#[s,x],argTypes:=#[t,t] })
  (base:Nat) (e:TypeId) (i:TypeInfo) (z:Value) (size bytes:Nat) (M:P.underlying t=some (.slice e)) (hi:P.info? e=some i) (O:i.zero=some z)
  (d:i.size=size) (D:i.bytes=bytes) (F:z.cells.size=size) (G:0<size)
  (v:Value) (n:Nat) (xs:List Value) (hs:a.eval s=v) (A:w.ownsRow base e size v n xs)
  (ad:Addr) (m c:Nat) (news:List Value) (S:a.eval x=.slice (some ad) m c) (T:news.length=m*size) (q:∀ j u,news[j]?=some u→w.cell? (ad.add j)=some u) (U:∀ u ∈ news,u.oneCell'=true)
  (V:0<m) (I:n+m≤maxLen) (b:(n+m)*bytes≤140737488355328) (y:base≤w.heap.size)
  (h:∀ v' w',w'.ownsRow base e size v' (n+m) (xs++news)→w'.ownsRow base e size v n xs→w.grownBy w' v.ownBlock→(v'.ownBlock=v.ownBlock∨∃ k,v'.ownBlock=some k∧w.heap.size≤k)→wpList P ops Q Oy (a.put o.dst v') w'):wpList P ops Q (o::Oy) a w :=
 wpList_plain C fun K hK=>by
  obtain⟨v',w',hr,X,Y,h4,h5⟩:=mt (P:=P) w base t o.type e i z size bytes M hi O d D F G v n xs A ad m c news T q U V I b y
  unfold Oper.wp execOp
  simp only[L,resolve,invoke,builtin,Sem.run_bind,Sem.run_pure,Result.andThen_ok,List.map_toArray,List.map_cons,List.map_nil,hs,S,hr]
  exact hK _ _ (h v' w' X Y h4 h5)
end
end Go.Proofs.Bw
namespace Go.Proofs.Bw
open Go Go.RowKit
theorem tz:(Tryz.prog.info? 63).map (fun i=>(i.zero,i.size,i.bytes))=some (some (.agg #[.int .i64 0,.int .i64 0,.int .i64 0]),3,24):=by kernel_rfl
theorem xq (a:Option Addr) (l c:Nat) (w:World):(binOp .eql 59 (.slice a l c) (.slice none 0 0)).run Tryz.prog w=.ok (.bool a.isNone) w:=run_eql_slice_nil w 59 63 a l c Tryz.underlying59
theorem p9 (a:Addr) (n:Nat):(a.add n).block=a.block:=by unfold Addr.add;split<;>rfl
theorem sU {w w':World} {row:Option Nat} (h:w.grownBy w' row) (a:Addr) (d:a.block<w.heap.size) (b:some a.block≠row:=by simp):w'.cell? a=w.cell? a:=by unfold World.cell?;rw[h.block a.block d b]
theorem EB (w:World) (o:Obj) {k:Nat} (b:k<w.heap.size):(w.alloc o).heap[k]?=w.heap[k]?:=by
 show(w.heap.push o)[k]?=_
 rw[Array.getElem?_push,if_neg (by omega)]
theorem p_ {w:World} {b d e size:Nat} {v:Value} {n:Nat} {xs:List Value} (h:w.ownsRow b e size v n xs) (i:d≤b):w.ownsRow d e size v n xs:=by
 refine⟨h.1,?_⟩
 rcases h.2 with j | ⟨g,cap,cur,k,m,q⟩
 ·exact .inl j
 ·exact .inr ⟨g,cap,cur,k,Nat.le_trans i m,q⟩
theorem Ga {w:World} {k o:Nat} {cs:Array Value} {v:Value} {ty:TypeId} {fr:Nat×Nat} (h:w.heap[k]?=some (.cells (cs.setIfInBounds o v) ty fr)) (b:o<cs.size):w.cell? ⟨k,o,none⟩=some v:=by
 simp[World.cell?,h,b]
theorem sV {w:World} {k o:Nat} {cs:Array Value} {v:Value} {ty:TypeId} {fr:Nat×Nat} (h:w.heap[k]?=some (.cells (cs.setIfInBounds o v) ty fr)) (b:o<cs.size) (d:fr.1=fr.2∨cs.size≤fr.1):w.frozen? ⟨k,o,none⟩=false:=by
 simp only[World.frozen?,h]
 simp;omega
theorem sW {w:World} {k o:Nat} {cs:Array Value} {v:Value} {ty:TypeId} {fr:Nat×Nat} (h:w.heap[k]?=some (.cells (cs.setIfInBounds o v) ty fr)) (u:Value):(w.setCell ⟨k,o,none⟩ u).heap[k]?=some (.cells (cs.setIfInBounds o u) ty fr):=by
 have e:(cs.setIfInBounds o v).setIfInBounds o u=cs.setIfInBounds o u:=by
  apply Array.ext_getElem?;intro i
  simp only[Array.getElem?_setIfInBounds,Array.size_setIfInBounds]
  by_cases hi:o=i<;>simp[hi]
 simp[World.setCell,Array.getElem?_modify,h,e]
theorem sX {w:World} {k o j:Nat} (u:Value) (b:j≠k):(w.setCell ⟨k,o,none⟩ u).heap[j]?=w.heap[j]?:=by
 simp only[World.setCell,Array.getElem?_modify];rw[if_neg (fun e=>b e.symm)]
def pa (w w':World):Prop:=w.grownBy w' none
set_option maxRecDepth 100000 in
set_option maxHeartbeats 1000000 in
theorem sY (w:World):Calls Tryz.prog 57 #[.slice none 0 0] w fun e w'=>e=.returned (.slice none 0 0)∧w'=w:=by
 have b:=xq
 go_enter Tryz.func57,Tryz.ntmps57
 go_wp2
 go_ret
 exact⟨rfl,rfl⟩
set_option maxRecDepth 100000 in
set_option maxHeartbeats 1000000 in
theorem pb (B g n cap:Nat) (xs:List Value) (w:World) (h:w.ownsRow B 63 3 (.slice (some ⟨g,0,none⟩) n cap) n xs) (hB:B≤w.heap.size) (hn:n≤1000000000) (D:∀ u ∈ xs,u.oneCell'=true) :
  Calls Tryz.prog 57 #[.slice (some ⟨g,0,none⟩) n cap] w fun e w'=>∃ v,e=.returned v∧w'.ownsRow B 63 3 v n xs∧pa w w'∧∃ k,v.ownBlock=some k∧w.heap.size≤k:=by
 obtain⟨i0,hi,q,s,y⟩:=info_parts tz
 have F:∀ j u,xs[j]?=some u→w.cell? ((⟨g,0,none⟩:Addr).add j)=some u:=h.cells rfl
 have i:xs.length=n*3:=h.1
 have z:g<w.heap.size:=(h.lt g rfl).2
 clear h
 have m:(w.alloc (.cells #[] 63)).ownsRow w.heap.size 63 3 (.slice (some ⟨w.heap.size,0,none⟩) 0 0) 0 [] :=
  ⟨rfl,.inr ⟨w.heap.size,0,#[],rfl,Nat.le_refl _,heap_alloc_new w _,Nat.le_refl _,by simp[maxLen],rfl,rfl⟩⟩
 have G:=xq
 go_enter Tryz.func57,Tryz.ntmps57
 go_wp2_with (first
  | (at_builtin;refine wpList_append_own _ rfl _ _ 59 rfl w.heap.size 63 i0 _ 3 24 Tryz.underlying59 hi q s y rfl (by decide) _ _ _ rfl m ⟨g,0,none⟩ n cap xs rfl i ?c1 D ?c3 ?c4 ?c5 ?_)
  | go_in)
 case c1=>intro j u I;rw[←F j u I];exact sU (World.grownBy_alloc w _ none) _ (by rw[p9];exact z)
 case c3=>simp[maxLen];omega
 case c4=>omega
 case c5=>simp
 intro v' K b d A
 go_wp2
 go_ret
 have L:pa w K:=⟨d.os,d.tape,d.output,by have:=d.size;simp at this;omega,fun k M _=>by
  rw[d.block k (by simp;omega) (by simp[Value.ownBlock];omega)];exact EB w _ M⟩
 refine⟨v',rfl,p_ b hB,L,?_⟩
 rcases b.2 with⟨O,T⟩ | ⟨g',cap',cur',S,C,_⟩
 ·exact absurd O A
 ·exact⟨g',by rw[S];rfl,C⟩
theorem uA (B n:Nat) (fx:Value) (xs:List Value) (w:World) (h:w.ownsRow B 63 3 fx n xs) (hB:B≤w.heap.size) (hn:n≤1000000000) (j:∀ u ∈ xs,u.oneCell'=true) :
  Calls Tryz.prog 57 #[fx] w fun e w'=>∃ A c,e=.returned (.slice A n c)∧w'.ownsRow B 63 3 (.slice A n c) n xs∧pa w w'∧∀ k,(Value.slice A n c).ownBlock=some k→w.heap.size≤k:=by
 rcases h.2 with⟨rfl,rfl⟩ | ⟨g,cap,cur,rfl,_⟩
 ·have m:xs=[]:=List.eq_nil_of_length_eq_zero (by simpa using h.1)
  subst m
  refine(sY w).mono ?_
  rintro e w' ⟨rfl,rfl⟩
  exact⟨_,_,rfl,World.ownsRow_nil _ _ _ _,⟨rfl,rfl,rfl,Nat.le_refl _,fun _ _ _=>rfl⟩,fun k q=>by simp[Value.ownBlock] at q⟩
 ·refine(pb B g n cap xs w h hB hn j).mono ?_
  rintro e w' ⟨v,rfl,d,s,k,i,y⟩
  rcases d.2 with⟨rfl,z⟩ | ⟨g',cap',cur',rfl,_⟩
  ·simp[Value.ownBlock] at i
  ·exact⟨_,_,rfl,d,s,fun C b=>by rw[i] at b;cases b;exact y⟩
structure Fr (kf:Nat) (x:Option Nat) (w w':World):Prop where
 os:w'.os=w.os
 tape:w'.tape=w.tape
 output:w'.output=w.output
 size:w.heap.size≤w'.heap.size
 block:∀ k,k<w.heap.size→k≠kf→some k≠x→w'.heap[k]?=w.heap[k]?
section
variable {B kf of:Nat} {csF:Array Value} {tyF:TypeId} {frF:Nat×Nat}
structure Fd (B kf of:Nat) (csF:Array Value) (tyF:TypeId) (frF:Nat×Nat) (w:World) (fv:Value) (m:Nat) (ys:List Value) (vis:Prop):Prop where
 blk:w.heap[kf]?=some (.cells (csF.setIfInBounds of fv) tyF frF)
 row:vis→w.ownsRow B 63 3 fv m ys
 lt:vis→∀ k,fv.ownBlock=some k→k<w.heap.size
set_option maxRecDepth 100000 in
set_option maxHeartbeats 1000000 in
theorem mu (kn on:Nat) (node at_:Int) (fx:Value) (w:World) (b:w.cell? ⟨kn,on,none⟩=some (.int .i64 node)) (d:at_≠node) :
  Calls Tryz.prog 56 #[.int .i64 at_,fx,.pointer (some ⟨kn,on,none⟩),.pointer (some ⟨kf,of,none⟩)] w fun e w'=>e=.returned (.tuple #[])∧w'=w:=by
 go_enter Tryz.func56,Tryz.ntmps56
 go_wp2
 go_end0
 exact⟨rfl,rfl⟩
set_option maxRecDepth 100000 in
set_option maxHeartbeats 1000000 in
theorem pc (kn on n m:Nat) (node:Int) (fx fv:Value) (xs ys:List Value) (w:World) (K:w.cell? ⟨kn,on,none⟩=some (.int .i64 node))
  (q:w.ownsRow B 63 3 fx n xs) (hB:B≤w.heap.size) (hn:n≤1000000000) (L:∀ u ∈ xs,u.oneCell'=true) {vis:Prop} (s:Fd B kf of csF tyF frF w fv m ys vis) (G:of<csF.size) (v:frF.1=frF.2∨csF.size≤frF.1) (hkB:kf<B) :
  Calls Tryz.prog 56 #[.int .i64 node,fx,.pointer (some ⟨kn,on,none⟩),.pointer (some ⟨kf,of,none⟩)] w fun e w'=>e=.returned (.tuple #[]) ∧
   ∃ j,Fd B kf of csF tyF frF w' j n xs True∧Fr kf none w w'∧∀ k,j.ownBlock=some k→w.heap.size≤k:=by
 have y:=uA B n fx xs w q hB hn L
 have z:kf<w.heap.size:=by omega
 go_enter Tryz.func56,Tryz.ntmps56
 go_wp2_with (first
  | (go_at_call 57;refine y.mono ?_;rintro e C ⟨A,c,rfl,b,i,I⟩;have d:C.heap[kf]?=some (.cells (csF.setIfInBounds of fv) tyF frF):=(i.block kf z (by simp)).trans s.blk;have M:C.cell? ⟨kf,of,none⟩=some fv:=Ga d G;have O:C.frozen? ⟨kf,of,none⟩=false:=sV d G v)
  | go_in)
 go_end0
 refine⟨rfl,_,⟨sW d _,fun _=>ownsRow_setCell_other b (fun e=>by have:=I kf e;omega) _,fun _ k e=>by have:=(b.lt k e).2;simpa[World.setCell] using this⟩,⟨i.os,i.tape,i.output,?_,fun k D F _=>?_⟩,I⟩
 ·have:=i.size;simpa[World.setCell] using this
 ·rw[sX _ F];exact i.block k D (by simp)
end
end Go.Proofs.Bw
namespace Go.Proofs.Bw
open Go Go.RowKit
abbrev Nd:=Int×Int×Int
def fC (f:Nd):List Value:=[.int .i64 f.1,.int .i64 f.2.1,.int .i64 f.2.2]
def Ru (s:List (List Nd)) (n:Nd):List (List Nd):=match s with
 | []=>[]
 | p::r=>if n.1=0 then (p++[(n.2.1,n.2.2,0)])::(p++[(n.2.1,n.2.2,1)])::(p++[(n.2.1,n.2.2,2)])::r else r
def JA (ns:List Nd) (i:Nat):List (List Nd):=(ns.take i).foldl Ru [[]]
theorem cV {ns:List Nd} {i:Nat} {n:Nd} (h:ns[i]?=some n):JA ns (i+1)=Ru (JA ns i) n:=by
 have hi:=(List.getElem?_eq_some_iff.1 h).1
 unfold JA
 rw[List.take_add_one,h,List.foldl_append];rfl
def NodesAt (kb ko:Nat) (ns:List Nd) (w:World):Prop:=∀ i n,ns[i]?=some n→∃ o A l c,w.cell? ⟨kb,ko+i*5,none⟩=some (.int .i64 n.1)∧w.cell? ⟨kb,ko+i*5+1,none⟩=some (.int .i64 n.2.1)∧w.cell? ⟨kb,ko+i*5+2,none⟩=some (.int .i64 n.2.2) ∧
 w.cell? ⟨kb,ko+i*5+3,none⟩=some (.int .i64 o)∧w.cell? ⟨kb,ko+i*5+4,none⟩=some (.slice A l c)
section
variable {B kf of:Nat} {csF:Array Value} {tyF:TypeId} {frF:Nat×Nat}
def seen (ns:List Nd) (node:Int) (i:Nat):List Nd:=if 0≤node∧node<(i:Int) then (JA ns node.toNat).headD [] else []
variable {kb ko cap kn on:Nat} {node:Int} {ns:List Nd}
structure Pre (B kf of:Nat) (csF:Array Value) (tyF:TypeId) (frF:Nat×Nat) (kb ko kn on:Nat) (node:Int) (ns:List Nd) (w:World) (fx:Value) (xs:List Nd) (i:Nat) (fv:Value):Prop where
 hB:B≤w.heap.size
 nodes:NodesAt kb ko ns w
 nd:w.cell? ⟨kn,on,none⟩=some (.int .i64 node)
 row:w.ownsRow B 63 3 fx xs.length (xs.flatMap fC)
 fd:Fd B kf of csF tyF frF w fv (seen ns node i).length ((seen ns node i).flatMap fC) (0≤node∧node<(i:Int))
 ne:0≤node∧node<(i:Int)→∀ k,fv.ownBlock=some k→fx.ownBlock≠some k
theorem xB (xs:List Nd):∀ u ∈ xs.flatMap fC,u.oneCell'=true:=by
 intro u b
 obtain⟨f,_,h⟩:=List.mem_flatMap.1 b
 simp[fC] at h
 rcases h with rfl | rfl | rfl<;>rfl
theorem Fr.refl (kf:Nat) (x:Option Nat) (w:World):Fr kf x w w:=⟨rfl,rfl,rfl,Nat.le_refl _,fun _ _ _ _=>rfl⟩
theorem Fr.trans {kf:Nat} {x:Option Nat} {d e w3:World} (a:Fr kf x d e) (b:Fr kf x e w3):Fr kf x d w3 :=
 ⟨b.os.trans a.os,b.tape.trans a.tape,b.output.trans a.output,Nat.le_trans a.size b.size,fun k i j m=>(b.block k (Nat.lt_of_lt_of_le i a.size) j m).trans (a.block k i j m)⟩
theorem Fr.of_grown {kf:Nat} {x:Option Nat} {b d:World} (a:b.grownBy d x):Fr kf x b d:=⟨a.os,a.tape,a.output,a.size,fun k e _ i=>a.block k e i⟩
theorem Fr.of_kept {kf:Nat} {x:Option Nat} {b d:World} (a:pa b d):Fr kf x b d:=⟨a.os,a.tape,a.output,a.size,fun k e _ i=>a.block k e (by simp)⟩
theorem Fr.mono {kf:Nat} {x y:Option Nat} {b d:World} (a:Fr kf x b d) (h:∀ k,k<b.heap.size→x=some k→y=some k):Fr kf y b d:=⟨a.os,a.tape,a.output,a.size,fun k i j m=>a.block k i j (fun e=>m (h k i e.symm).symm)⟩
theorem Sj {kf:Nat} {x:Option Nat} {w w':World} (h:Fr kf x w w') {a:Addr} {v:Value} (h0:w.cell? a=some v) (d:a.block≠kf) (e:some a.block≠x):w'.cell? a=some v:=by
 have b:a.block<w.heap.size:=by
  rcases Nat.lt_or_ge a.block w.heap.size with b | b
  ·exact b
  ·simp[World.cell?,Array.getElem?_eq_none b] at h0
 unfold World.cell? at h0 ⊢;rw[h.block a.block b d e];exact h0
theorem NodesAt.fr {kf:Nat} {x:Option Nat} {w w':World} (h:Fr kf x w w') (hn:NodesAt kb ko ns w) (b:kb≠kf) (d:some kb≠x):NodesAt kb ko ns w':=by
 intro i n hi
 obtain⟨o,A,l,c,e,c1,c2,c3,c4⟩:=hn i n hi
 exact⟨o,A,l,c,Sj h e b d,Sj h c1 b d,Sj h c2 b d,Sj h c3 b d,Sj h c4 b d⟩
theorem uB {kf:Nat} {x:Option Nat} {w w':World} {v:Value} {n:Nat} {xs:List Value} (h:Fr kf x w w') (hr:w.ownsRow B 63 3 v n xs) (j:kf<B) (d:∀ k,v.ownBlock=some k→x≠some k):w'.ownsRow B 63 3 v n xs:=by
 refine⟨hr.1,?_⟩
 rcases hr.2 with hn | ⟨g,cap,cur,rfl,i,b,Oy⟩
 ·exact .inl hn
 ·exact .inr ⟨g,cap,cur,rfl,i,by rw[h.block g (Array.getElem?_eq_some_iff.1 b).1 (by omega) (fun e=>d g rfl e.symm)];exact b,Oy⟩
theorem Pre.kept {w w':World} {fx fv:Value} {xs:List Nd} {i:Nat} (p:Pre B kf of csF tyF frF kb ko kn on node ns w fx xs i fv) (k:pa w w') (hkB:kf<B):Pre B kf of csF tyF frF kb ko kn on node ns w' fx xs i fv:=by
 have b:∀ {a:Addr} {v:Value},w.cell? a=some v→w'.cell? a=some v:=by
  intro a v h0
  have d:a.block<w.heap.size:=by
   rcases Nat.lt_or_ge a.block w.heap.size with d | d
   ·exact d
   ·simp[World.cell?,Array.getElem?_eq_none d] at h0
  unfold World.cell? at h0 ⊢;rw[k.block a.block d (by simp)];exact h0
 refine⟨Nat.le_trans p.hB k.size,fun i n hi=>?_,b p.nd,p.row.kept k (by cases fx.ownBlock<;>simp),⟨?_,fun e=>(p.fd.row e).kept k (by cases fv.ownBlock<;>simp),fun e q hq=>Nat.lt_of_lt_of_le (p.fd.lt e q hq) k.size⟩,p.ne⟩
 ·obtain⟨o,A,l,c,j,c1,c2,c3,c4⟩:=p.nodes i n hi
  exact⟨o,A,l,c,b j,b c1,b c2,b c3,b c4⟩
 ·rw[k.block kf (by have:=p.hB;omega) (by simp)];exact p.fd.blk
theorem kC {i:Nat} (h:(i:Int)≠node):seen ns node (i+1)=seen ns node i:=by
 unfold seen
 by_cases b:0≤node∧node<(i:Int)
 ·rw[if_pos b,if_pos (by omega)]
 ·rw[if_neg b,if_neg (by omega)]
theorem kD {i:Nat} (h:(i:Int)=node) {xs:List Nd} {st:List (List Nd)} (hs:JA ns i=xs::st):seen ns node (i+1)=xs:=by
 unfold seen
 subst h
 rw[if_pos (by omega),Int.toNat_natCast,hs];rfl
theorem uC {w:World} {fx fv:Value} {xs:List Nd} {st:List (List Nd)} {i:Nat} (p:Pre B kf of csF tyF frF kb ko kn on node ns w fx xs i fv) (hs:JA ns i=xs::st) (s:xs.length≤1000000000)
  (u:of<csF.size) (m:frF.1=frF.2∨csF.size≤frF.1) (hkB:kf<B) (v:kb≠kf) (hbB:kb<B) (hn:kn≠kf) :
  Calls Tryz.prog 56 #[.int .i64 i,fx,.pointer (some ⟨kn,on,none⟩),.pointer (some ⟨kf,of,none⟩)] w fun e w'=>e=.returned (.tuple #[])∧Fr kf none w w' ∧
   ∃ b,Pre B kf of csF tyF frF kb ko kn on node ns w' fx xs (i+1) b∧(b=fv∧(0≤node∧node<((i+1:Nat):Int)→0≤node∧node<(i:Int))∨∀ k,b.ownBlock=some k→w.heap.size≤k):=by
 by_cases h:(i:Int)=node
 ·rw[h]
  refine(pc kn on xs.length _ node fx fv _ _ w p.nd p.row p.hB s (xB xs) p.fd u m hkB).mono ?_
  rintro e w' ⟨rfl,b,j,hF,d⟩
  refine⟨rfl,hF,b,⟨Nat.le_trans p.hB hF.size,p.nodes.fr hF v (by simp),Sj hF p.nd hn (by simp),uB hF p.row hkB (by simp),?_,fun _ k y e=>?_⟩,.inr d⟩
  ·rw[kD h hs];exact⟨j.blk,fun _=>j.row trivial,fun _=>j.lt trivial⟩
  ·have:=d k y;have:=(p.row.lt k e).2;omega
 ·refine(mu kn on node i fx w p.nd h).mono ?_
  rintro e w' ⟨rfl,rfl⟩
  exact⟨rfl,Fr.refl ..,fv,⟨p.hB,p.nodes,p.nd,p.row,by rw[kC h];exact⟨p.fd.blk,fun q=>p.fd.row (by omega),fun q=>p.fd.lt (by omega)⟩,fun q=>p.ne (by omega)⟩,.inl ⟨rfl,by omega⟩⟩
end
end Go.Proofs.Bw
namespace Go.Proofs.Bw
open Go Go.RowKit
section
variable {B kf of:Nat} {csF:Array Value} {tyF:TypeId} {frF:Nat×Nat}
variable {kb ko cap kn on:Nat} {node:Int} {ns:List Nd}
theorem pd {w w':World} {B e size:Nat} {v v':Value} {n m:Nat} {xs ys:List Value} (h0:w.ownsRow B e size v n xs) (u:w.ownsRow B e size v' m (xs++ys)) (y:w'.ownsRow B e size v' m (xs++ys)) (d:v'.ownBlock=v.ownBlock) (i:n≤m):w'.ownsRow B e size v n xs:=by
 refine⟨h0.1,?_⟩
 rcases h0.2 with hn | ⟨g,cap,cur,rfl,z,A,C,D,hs,V⟩
 ·exact .inl hn
 ·rcases u.2 with⟨rfl,_⟩ | ⟨F,cap1,cur1,rfl,G,b,I,K,j,L⟩
  ·simp[Value.ownBlock] at d
  ·rcases y.2 with⟨M,_⟩ | ⟨X,cap2,cur2,O,S,k,T,U,q,s⟩
   ·cases M
   ·cases O
    simp only[Value.ownBlock,Option.some.injEq] at d
    subst d
    rw[A] at b
    simp only[Option.some.injEq,Obj.cells.injEq,and_true] at b
    subst b
    refine .inr ⟨F,cap,cur2,rfl,z,k,C,D,by rw[q,←j,hs],?_⟩
    have:cur2.toList.take (n*size)=(cur2.toList.take (m*size)).take (n*size):=by rw[List.take_take,Nat.min_eq_left (Nat.mul_le_mul_right _ i)]
    rw[this,s,←h0.1,List.take_left]
def gG (xs:List Nd) (nd:Nd) (st:List (List Nd)):Nat→List (List Nd)
 | 0=>(xs++[(nd.2.1,nd.2.2,0)])::(xs++[(nd.2.1,nd.2.2,1)])::(xs++[(nd.2.1,nd.2.2,2)])::st
 | 1=>(xs++[(nd.2.1,nd.2.2,1)])::(xs++[(nd.2.1,nd.2.2,2)])::st
 | 2=>(xs++[(nd.2.1,nd.2.2,2)])::st
 | _=>st
theorem iX (xs:List Nd) (nd:Nd) (st:List (List Nd)):∀ k,k<3→gG xs nd st k=(xs++[(nd.2.1,nd.2.2,(k:Int))])::gG xs nd st (k+1)
 | 0,_=>rfl
 | 1,_=>rfl
 | 2,_=>rfl
 | k+3,h=>by omega
theorem kE:∀ (k i:Nat),ns.length=i+k→JA ns ns.length=[]→∀ p st,JA ns i=p::st→i<ns.length
 | 0,i,h,h0,p,st,hs=>by rw[h,Nat.add_zero,hs] at h0;cases h0
 | k+1,i,h,_,_,_,_=>by omega
theorem VZ {w w':World} {o:Obj} {x:Option Nat} (h:(w.alloc o).grownBy w' x):w.grownBy w' x :=
 ⟨h.os,h.tape,h.output,by have:=h.size;simp at this;omega,fun k b d=>(h.block k (by simp;omega) d).trans (EB w o b)⟩
theorem sZ {w w':World} {fx v' fv:Value} {xs:List Nd} {f:Nd} {i:Nat} {o:Obj} (p:Pre B kf of csF tyF frF kb ko kn on node ns w fx xs i fv) (hkB:kf<B) (u:kb≠kf) (hbB:kb<B) (hn:kn≠kf) (hnB:kn<B)
  (m:w'.ownsRow B 63 3 v' (xs.length+1) (xs.flatMap fC++fC f)) (z:(w.alloc o).grownBy w' fx.ownBlock) (s:v'.ownBlock=fx.ownBlock∨∃ k,v'.ownBlock=some k∧(w.alloc o).heap.size≤k) :
  Pre B kf of csF tyF frF kb ko kn on node ns w' v' (xs++[f]) i fv:=by
 have hG:=VZ z
 have d:∀ b,b<B→some b≠fx.ownBlock:=fun b u e=>by have:=(p.row.lt b e.symm).1;omega
 have hF:Fr kf fx.ownBlock w w':=Fr.of_grown hG
 refine⟨Nat.le_trans p.hB hG.size,p.nodes.fr hF u (d _ hbB),Sj hF p.nd hn (d _ hnB),?_,⟨?_,fun j=>(p.fd.row j).kept hG ?_,fun j q hq=>Nat.lt_of_lt_of_le (p.fd.lt j q hq) hG.size⟩,fun j k y e=>?_⟩
 ·have e1:(xs++[f]).length=xs.length+1:=by simp
  have A:(xs++[f]).flatMap fC=xs.flatMap fC++fC f:=by simp
  rw[e1,A];exact m
 ·rw[hG.block kf (by have:=p.hB;omega) (d _ hkB)];exact p.fd.blk
 ·cases hq:fv.ownBlock with
  | none=>exact .inl rfl
  | some q=>exact .inr (fun e=>p.ne j q hq e.symm)
 ·rcases s with h | ⟨q,h,C⟩
  ·rw[h] at e;exact p.ne j k y e
  ·rw[h] at e;cases e
   have:=p.fd.lt j k y
   simp at C;omega
theorem uD {w s w':World} {fx v' fv d:Value} {xs:List Nd} {f:Nd} {i j:Nat} {o:Obj} (p:Pre B kf of csF tyF frF kb ko kn on node ns w fx xs i fv) (hkB:kf<B)
  (m:s.ownsRow B 63 3 v' (xs.length+1) (xs.flatMap fC++fC f)) (b:s.ownsRow B 63 3 fx xs.length (xs.flatMap fC)) (F:(w.alloc o).grownBy s fx.ownBlock) (u:v'.ownBlock=fx.ownBlock∨∃ k,v'.ownBlock=some k∧(w.alloc o).heap.size≤k)
  (hF:Fr kf v'.ownBlock s w') (q:Pre B kf of csF tyF frF kb ko kn on node ns w' v' (xs++[f]) j d) (y:d=fv∧(0≤node∧node<(j:Int)→0≤node∧node<(i:Int))∨∀ k,d.ownBlock=some k→s.heap.size≤k) :
  Pre B kf of csF tyF frF kb ko kn on node ns w' fx xs j d∧Fr kf fx.ownBlock w w':=by
 have hG:=VZ F
 have hF2:Fr kf fx.ownBlock w w':=⟨hF.os.trans hG.os,hF.tape.trans hG.tape,hF.output.trans hG.output,Nat.le_trans hG.size hF.size,fun k C G D=>by
  rw[hF.block k (Nat.lt_of_lt_of_le C hG.size) G ?_,hG.block k C D]
  rcases u with h | ⟨r,h,A⟩
  ·rw[h];exact D
  ·rw[h];simp at A;simp;omega⟩
 refine⟨⟨q.hB,q.nodes,q.nd,?_,q.fd,fun I k z e=>?_⟩,hF2⟩
 ·rcases u with h | ⟨r,h,A⟩
  ·refine pd b m ?_ h (Nat.le_succ _)
   have:=q.row
   have e1:(xs++[f]).length=xs.length+1:=by simp
   have K:(xs++[f]).flatMap fC=xs.flatMap fC++fC f:=by simp
   rw[e1,K] at this;exact this
  ·exact uB hF b hkB (fun k z e=>by rw[h] at e;cases e;have:=(p.row.lt _ z).2;simp at A;omega)
 ·rcases y with⟨h,hi⟩ | h
  ·subst h;exact p.ne (hi I) k z e
  ·have:=h k z;have:=(p.row.lt k e).2;have:=hG.size;omega
set_option maxRecDepth 100000 in
set_option maxHeartbeats 4000000 in
theorem vU (hcap:ns.length≤cap) (hlen:ns.length≤1000000) (ho:of<csF.size) (hfr:frF.1=frF.2∨csF.size≤frF.1) (hkB:kf<B) (hb:kb≠kf) (hbB:kb<B) (hn:kn≠kf) (hnB:kn<B) (u:JA ns ns.length=[]) :
  ∀ (d i:Nat) (fx fv:Value) (xs:List Nd) (st:List (List Nd)) (w:World),ns.length - i≤d→i≤ns.length→JA ns i=xs::st→xs.length≤i→Pre B kf of csF tyF frF kb ko kn on node ns w fx xs i fv →
  Calls Tryz.prog 55 #[.slice (some ⟨kb,ko,none⟩) ns.length cap,.int .i64 i,fx,.func (.func 56) #[] #[.pointer (some ⟨kn,on,none⟩),.pointer (some ⟨kf,of,none⟩)]] w fun e w' =>
   ∃ j:Nat,e=.returned (.int .i64 j)∧i<j∧j≤ns.length∧JA ns j=st∧Fr kf fx.ownBlock w w'∧∃ b,Pre B kf of csF tyF frF kb ko kn on node ns w' fx xs j b∧(b=fv∧(0≤node∧node<(j:Int)→0≤node∧node<(i:Int))∨∀ k,b.ownBlock=some k→w.heap.size≤k):=by
 intro d
 induction d with
 | zero =>
  intro i fx fv xs st w h1 h2 hs
  have:=kE (ns.length - i) i (by omega) u xs st hs
  omega
 | succ d ih =>
  intro i fx fv xs st w h1 h2 hs hxi p
  have hlt:=kE (ns.length - i) i (by omega) u xs st hs
  obtain⟨nd,hi⟩:∃ nd,ns[i]?=some nd:=⟨_,List.getElem?_eq_getElem hlt⟩
  have m:=cV hi
  rw[hs] at m
  have G:=uC p hs (by omega) ho hfr hkB hb hbB hn
  have F:=p.row
  clear p
  obtain⟨i0,h63,hz0,hz1,hz2⟩:=info_parts tz
  by_cases S:nd.1=0
  ·obtain⟨kd,un,hr⟩:=nd
   simp only at S
   subst S
   have m:JA ns (i+1)=gG xs (0,un,hr) st 0:=by rw[m];simp[Ru,gG]
   have hshape:∃ A n c,fx=.slice A n c:=by
    rcases F.2 with⟨rfl,_⟩ | ⟨g,cap,cur,rfl,_⟩
    ·exact⟨_,_,_,rfl⟩
    ·exact⟨_,_,_,rfl⟩
   clear F
   go_enter Tryz.func55,Tryz.ntmps55
   go_wp2_with (first
    | (go_at_call 56;refine G.mono ?_;rintro e s ⟨rfl,hF,b,I,y⟩;obtain⟨o,A,l,c,c0,c1,c2,c3,c4⟩:=I.nodes i _ hi)
    | go_in)
   generalize D:s.alloc (Obj.cells #[Value.int IntKind.i64 0,Value.int IntKind.i64 un,Value.int IntKind.i64 hr,Value.int IntKind.i64 o,Value.slice A l c] 55)=T
   have hK2:pa s T:=by rw[←D];exact World.grownBy_alloc s _ none
   have hn1:T.cell? ⟨s.heap.size,1,none⟩=some (.int .i64 un):=by rw[←D];unfold World.cell?;rw[heap_alloc_new];rfl
   have hn2:T.cell? ⟨s.heap.size,2,none⟩=some (.int .i64 hr):=by rw[←D];unfold World.cell?;rw[heap_alloc_new];rfl
   have hp2:=I.kept hK2 hkB
   have hF2:Fr kf fx.ownBlock w T:=(hF.mono (by simp)).trans (Fr.of_kept hK2)
   have U:fx.ownBlock≠some s.heap.size:=fun e=>by have:=(I.row.lt _ e).2;omega
   have V:s.heap.size≠kf:=by have:=I.hB;omega
   generalize hbn:s.heap.size=bn at *
   clear D hK2 G
   go_loopw [1,26] (fun v1 v26 wr=>∃ (k j:Nat),v1=.int .i64 j∧v26=.int .i64 k∧k≤3∧i<j∧j≤ns.length∧JA ns j=gG xs (0,un,hr) st k∧Fr kf fx.ownBlock T wr∧∃ fr,Pre B kf of csF tyF frF kb ko kn on node ns wr fx xs j fr∧(fr=b∧(0≤node∧node<(j:Int)→0≤node∧node<((i+1:Nat):Int))∨∀ q,fr.ownBlock=some q→w.heap.size≤q))
    (fun _ v26 _=>3 - (intOf v26).toNat)
   case atStart=>exact⟨0,i+1,by simp,rfl,by omega,by omega,by omega,m,Fr.refl ..,b,hp2,.inl ⟨rfl,fun h=>h⟩⟩
   case round =>
    obtain⟨k,j,rfl,rfl,hk3,hij,X,K,hFr,fr,z,Y⟩:=hrel
    rcases Nat.lt_or_ge k 3 with S | S
    ·have q1:wr.cell? ⟨bn,1,none⟩=some (.int .i64 un):=Sj hFr hn1 V (fun e=>U e.symm)
     have q2:wr.cell? ⟨bn,2,none⟩=some (.int .i64 hr):=Sj hFr hn2 V (fun e=>U e.symm)
     have hks:=iX xs (0,un,hr) st k S
     go_wp2_with (first
      | (at_builtin;refine K_ _ rfl _ _ 59 rfl B 63 i0 _ 3 24 Tryz.underlying59 h63 hz0 hz1 hz2 rfl (by decide) fx xs.length (xs.flatMap fC) rfl (z.row.alloc _) ⟨wr.heap.size,0,none⟩ 1 1 [.int .i64 un,.int .i64 hr,.int .i64 k] rfl rfl ?c1 ?c2 (by decide) ?c3 ?c4 ?c5 ?_)
      | go_in)
     case c2=>exact⟨rfl,rfl,rfl⟩
     case c3=>simp only[maxLen];omega
     case c4=>omega
     case c5=>have:=z.hB;omega
     ·intro v' w4 C L M hbl
      have hpc:=sZ (f:=(un,hr,(k:Int))) z hkB hb hbB hn hnB C M (by simpa using hbl)
      have hjlt:=kE (ns.length - j) j (by omega) u _ _ (K.trans hks)
      have hrec:=ih j v' fr (xs++[(un,hr,(k:Int))]) (gG xs (0,un,hr) st (k+1)) w4 (by omega) X (K.trans hks) (by simp;omega) hpc
      go_wp2_with (first
       | (go_at_call 55;refine hrec.mono ?_;rintro e w5 ⟨j',rfl,hj1,hj2,hj3,hF5,fr',hp5,hn5⟩)
       | go_in)
      go_roundw
      case rel =>
       obtain⟨hpb,hFb⟩:=uD (f:=(un,hr,(k:Int))) z hkB C L M (by simpa using hbl) hF5 hp5 hn5
       refine⟨k+1,j',rfl,by simp,by omega,by omega,hj2,hj3,hFr.trans hFb,fr',hpb,?_⟩
       rcases hn5 with⟨h,hi5⟩ | h
       ·subst h
        rcases Y with⟨h,O⟩ | h
        ·exact .inl ⟨h,fun G=>O (hi5 G)⟩
        ·exact .inr h
       ·exact .inr fun q hq=>by have:=h q hq;have:=M.size;have:=hFr.size;have:=hF2.size;simp at *;omega
      case measure=>simp[intOf];omega
    ·obtain rfl:k=3:=by omega
     go_wp2
     go_ret
     refine⟨j,by simp,hij,X,K,hF2.trans hFr,fr,z,?_⟩
     rcases Y with⟨h,O⟩ | h
     ·subst h
      rcases y with⟨h,hi7⟩ | h
      ·exact .inl ⟨h,fun G=>hi7 (O G)⟩
      ·exact .inr h
     ·exact .inr h
  ·have m:JA ns (i+1)=st:=by rw[m];simp[Ru,S]
   go_enter Tryz.func55,Tryz.ntmps55
   go_wp2_with (first
    | (go_at_call 56;refine G.mono ?_;rintro e s ⟨rfl,hF,b,I,y⟩;obtain⟨o,A,l,c,c0,c1,c2,c3,c4⟩:=I.nodes i nd hi)
    | go_in)
   go_ret
   have hK2:pa s (s.alloc (Obj.cells #[Value.int IntKind.i64 nd.fst,Value.int IntKind.i64 nd.snd.fst,Value.int IntKind.i64 nd.snd.snd,Value.int IntKind.i64 o,Value.slice A l c] 55)):=World.grownBy_alloc s _ none
   exact⟨i+1,by simp,by omega,by omega,m,(hF.mono (by simp)).trans (Fr.of_kept hK2),b,I.kept hK2 hkB,y⟩
end
end Go.Proofs.Bw
namespace Gx
open Go Go.Proofs Go.Proofs.Bw
def mv:Nat→LA→Option (List Nd)
 | 0,_=>some []
 | n+1,.int .i64 k::.int .i64 u::.int .i64 h::.int .i64 _::y::r=>(l7 4 y).bind fun _=>(mv n r).bind fun l=>some ((k,u,h)::l)
 | _+1,_=>none
def Ed:Nat→List Nd→Bool
 | 0,[]=>true
 | 0,_::_=>false
 | _+1,[]=>false
 | o+1,n::l=>Ed (o+cond (n.1==0) 3 0) l
def fA (f:Nd):LA:=[.int .i64 f.1,.int .i64 f.2.1,.int .i64 f.2.2]
theorem cW:∀ (l:List Nd) (s:List (List Nd)),Ed s.length l=true→l.foldl Ru s=[]∧∀ i,i<l.length→(l.take i).foldl Ru s≠[]
 | [],[],_=>⟨rfl,fun i h=>by simp at h⟩
 | [],_::_,h=>by simp[Ed] at h
 | _::_,[],h=>by simp[Ed] at h
 | n::l,p::s,h=>by
  rw[Acd,Ed] at h
  have e:(Ru (p::s) n).length=s.length+cond (n.1==0) 3 0:=by
   unfold Ru
   by_cases h0:n.1=0
   ·simp[h0]
   ·have b:(n.1==0)=false:=by simp[h0]
    rw[b];simp[h0]
  rw[←e] at h
  obtain⟨d,j⟩:=cW l _ h
  refine⟨d,fun i hi=>?_⟩
  cases i with
  | zero=>simp
  | succ i=>exact j i (by simpa using hi)
noncomputable section
variable {R:Type} (N:Nat)
def EC (_N:Nat) (c:LA) (n:Nat) (t o:Bool) (a node:Int) (m:Nat) (L:LA) (r0:Int→Int→Nat→LA→LA→O R):O R :=
 match mv n c with
 | some ns=>cond (Ed 1 ns&&(ble n 1000000&&(decide (a=0)&&(beq m 0&&(decide (0≤node)&&decide (node<(n:Int))))))) (r0 n node (seen ns node n).length L ((seen ns node n).flatMap fA)) none
 | none=>none
def kF:=(Ai (@EC R)).1
theorem Vk:@kF R=@EC R:=(Ai _).2
def X0 (node:Int) (b m:Nat) (L:LA):Ao:=[(100000,bN 0 [.int .i64 node]),(100001,bN 0 [.own b 0 m]),(100002,bQ 3 L)]
def ED:LA→Ao→Option ((R:Type)→KF R→O R)
 | [.imm c n 5 t o,.int .i64 a,.nsl,.fn 56 [.optr 100000 0,.optr 100001 0]],[(100000,⟨false,false,false,false,0,[.int .i64 node],false,none⟩),(100001,⟨false,false,false,false,0,[.own 100002 0 m],false,none⟩),(100002,⟨false,false,true,false,3,L,false,none⟩)] =>
  some fun _ k=>kF N c n t o a node m L fun e nd m2 L2 c2=>k (iv e) (X0 nd 300000 m2 L2++[(300000,bQ 3 c2)])
 | _,_=>none
end
theorem cX {J:Nat→Prop} {w:World}:∀ (n:Nat) (c:LA) (ns:List Nd) (a:Addr) (off:Nat),mv n c=some ns→a.spot=none→RepCs J w c (fun j=>w.cell? (a.add j)) off→NodesAt a.block (a.off+off) ns w∧ns.length=n
 | 0,c,ns,a,off,h,_,_=>by cases h;exact⟨fun i n hi=>by simp at hi,rfl⟩
 | n+1,c,ns,a,off,h,d,hr=>by
  unfold mv at h
  split at h
  ·cases ‹n+1=0›
  ·rename_i T k u U o y r e
   cases e
   obtain⟨p,m,K⟩:=ub h
   obtain⟨l,L,M⟩:=ub K
   cases M
   have ad:∀ j,a.add j=⟨a.block,a.off+j,none⟩:=fun j=>by
    unfold Addr.add
    split
    ·subst_vars;cases a;simp at d;simp[d]
    ·rfl
   rw[RepCs,RepCs,RepCs,RepCs,RepCs] at hr
   obtain⟨⟨v0,q,s⟩,⟨v1,v,z⟩,⟨v2,C,D⟩,⟨v3,F,G⟩,⟨v4,I,b⟩,hr⟩:=hr
   simp only[RepC] at s z D G
   subst s z D G
   obtain⟨A,l4,c4,rfl⟩:∃ A l4 c4,v4=.slice A l4 c4:=by
    unfold l7 at m
    split at m
    ·rw[RepC] at b;obtain⟨_,A,cap,rfl,_⟩:=b;exact⟨_,_,_,rfl⟩
    ·rw[RepC] at b;exact⟨_,_,_,b⟩
    ·cases m
   obtain⟨O,S⟩:=cX n r l a (off+5) L d hr
   refine⟨fun i nd hi=>?_,by simp[S]⟩
   cases i with
   | zero =>
    simp at hi;subst hi
    rw[ad] at q v C F I
    exact⟨o,A,l4,c4,by simpa using q,by simpa[Acx] using v,by simpa[Acx] using C,by simpa[Acx] using F,by simpa[Acx] using I⟩
   | succ i =>
    have:=O i nd (by simpa using hi)
    have e:a.off+off+(i+1)*5=a.off+(off+5)+i*5:=by omega
    rw[e];exact this
  ·cases h
theorem mw {w:World} {k j:Nat} {cs:Array Value} {ty:TypeId} {fr:Nat×Nat} (h:w.heap[k]?=some (.cells cs ty fr)):w.cell? ⟨k,j,none⟩=cs[j]?:=by simp[World.cell?,h]
theorem uE {J:Nat→Prop} {w:World}:∀ (l:List Nd) (cs:Nat→Option Value) (i:Nat),(∀ j u,(l.flatMap fC)[j]?=some u→cs (i+j)=some u)→RepCs J w (l.flatMap fA) cs i
 | [],_,_,_=>trivial
 | f::l,cs,i,h=>by
  have h0:=h 0 (.int .i64 f.1) (by simp[fC])
  have b:=h 1 (.int .i64 f.2.1) (by simp[fC])
  have d:=h 2 (.int .i64 f.2.2) (by simp[fC])
  show RepCs J w (.int .i64 f.1::.int .i64 f.2.1::.int .i64 f.2.2::l.flatMap fA) cs i
  rw[RepCs,RepCs,RepCs]
  refine⟨⟨_,h0,by rw[RepC]⟩,⟨_,b,by rw[RepC]⟩,⟨_,d,by rw[RepC]⟩,?_⟩
  exact uE l cs (i+3) fun j u e=>by
   have:=h (j+3) u (by simpa[fC] using e)
   rw[show i+3+j=i+(j+3) by omega];exact this
theorem pe (l:List Nd):(l.flatMap fA).length=l.length*3:=by induction l with
 | nil=>rfl
 | cons f l b=>simp[fA] at b ⊢;omega
set_option maxRecDepth 100000 in
theorem uF {c:LA} {n:Nat} {t o:Bool} {node:Int} {L:LA} {ns:List Nd} (hd:mv n c=some ns) (ht:Ed 1 ns=true) (hn:n≤1000000) (h0:0≤node) (h1:node<(n:Int)) :
  lZ Tryz.prog 55 [.imm c n 5 t o,.int .i64 0,.nsl,.fn 56 [.optr 100000 0,.optr 100001 0]] (X0 node 100002 0 L) (iv n) (X0 node 300000 (seen ns node n).length L++[(300000,bQ 3 ((seen ns node n).flatMap fA))]):=by
 intro J β w vs S hr
 obtain⟨hs1,hs2⟩:=cW ns [[]] ht
 rw[Reps] at hr
 obtain⟨v0,us,rfl,r0,hr⟩:=hr
 rw[Reps] at hr
 obtain⟨v1,us,rfl,r1,hr⟩:=hr
 rw[Reps] at hr
 obtain⟨v2,us,rfl,r2,hr⟩:=hr
 obtain⟨v3,rfl,r3⟩:=MV hr
 simp only[Rep] at r1 r2
 subst r1 r2
 rw[Rep] at r3
 obtain⟨caps,rfl,hc⟩:=r3
 obtain⟨p1,p2,rfl,c1,c2⟩:=b8 hc
 rw[Rep] at c1 c2
 obtain⟨x1,kn,on,⟨g1,_⟩,rfl,b1⟩:=c1
 obtain⟨x2,kf,off,⟨g2,_⟩,rfl,M⟩:=c2
 have G0:Ag (X0 node 100002 0 L) 100000=some (bN 0 [.int .i64 node]):=rfl
 have G1:Ag (X0 node 100002 0 L) 100001=some (bN 0 [.own 100002 0 0]):=rfl
 rw[G0] at g1;rw[G1] at g2
 cases g1;cases g2
 have b1:β 100000=some (kn,on):=b1.elim (fun h=>nomatch h) id
 have M:β 100001=some (kf,off):=M.elim (fun h=>nomatch h) id
 have hne:kn≠kf:=fun e=>by subst e;have:=S.sep 100000 100001 _ _ kn on off G0 G1 rfl rfl rfl b1 M;omega
 obtain⟨k1,o1,cs1,ty1,fr1,e1,hb1,_,hl1,hc1,_⟩:∃ k o cs ty fr,β 100000=some (k,o)∧w.heap[k]?=some (.cells cs ty fr)∧FrTy none ty o cs.size fr∧o+1≤cs.size∧CellsRep J β (X0 node 100002 0 L) w (bN 0 [.int .i64 node]) (fun j=>cs[o+j]?)∧True:=by
  rcases S.blk _ _ G0 rfl rfl with⟨h,_⟩ | ⟨k,o,cs,ty,fr,h1,h2,h3,h4,h5,_⟩
  ·rw[b1] at h;cases h
  ·exact⟨k,o,cs,ty,fr,h1,h2,h3,h4,h5,trivial⟩
 rw[b1] at e1;cases e1
 obtain⟨u1,hu1,hu2,_⟩:=hc1.2 rfl 0 _ rfl
 rw[Rep] at hu2;subst hu2
 have hnd:w.cell? ⟨kn,on,none⟩=some (.int .i64 node):=by rw[mw hb1];simpa using hu1
 obtain⟨k2,o2,csF,tyF,frF,e2,F,hfr,hl2,hc2,hnJ⟩:∃ k o cs ty fr,β 100001=some (k,o)∧w.heap[k]?=some (.cells cs ty fr)∧FrTy none ty o cs.size fr∧o+1≤cs.size∧CellsRep J β (X0 node 100002 0 L) w (bN 0 [.own 100002 0 0]) (fun j=>cs[o+j]?)∧∀ g,¬ J g k:=by
  rcases S.blk _ _ G1 rfl rfl with⟨h,_⟩ | ⟨k,o,cs,ty,fr,h1,h2,h3,h4,h5,h6,_⟩
  ·rw[M] at h;cases h
  ·exact⟨k,o,cs,ty,fr,h1,h2,h3,h4,h5,h6 rfl⟩
 rw[M] at e2;cases e2
 obtain⟨fv0,hv0,_,_⟩:=hc2.2 rfl 0 _ rfl
 simp only[Ac4] at hv0
 have hkf:=Ng F
 have hkn:=Ng hb1
 rw[Rep,RepC] at r0
 obtain⟨hcl,A,cap,rfl,hcap,_,hA⟩:=r0
 rcases hA with rfl | ⟨a,rfl,hJ,T⟩
 ·cases hd;simp[Ed] at ht
 have I:a.block≠kf:=fun e=>by subst e;exact hnJ _ hJ
 have m:a.spot=none:=by
  cases c with
  | nil =>
   cases n with
   | zero=>cases hd;simp[Ed] at ht
   | succ n=>simp at hcl
  | cons x r =>
   rw[RepCs] at T
   obtain⟨⟨u,X,_⟩,_⟩:=T
   have e:a.add 0=a:=by simp[Addr.add]
   rw[e] at X
   unfold World.cell? at X
   split at X
   ·split at X
    ·cases X
    ·rename_i h;simpa using h
   ·cases X
 obtain⟨hN,rfl⟩:=cX n c ns a 0 hd m T
 have hJlt:=S.jlt _ _ hJ
 obtain⟨kb,ko,sp⟩:=a
 simp only at m hJ I hN hJlt
 subst m
 rw[Ac4] at hN
 have hset:csF.setIfInBounds off fv0=csF:=by
  apply Agf;intro i
  rw[Adw]
  by_cases hi:off=i
  ·subst hi;simp[hv0];omega
  ·simp[hi]
 have hend:JA ns ns.length=[]:=by unfold JA;rw[Ady];exact hs1
 have pre:Pre w.heap.size kf off csF tyF frF kb ko kn on node ns w (.slice none 0 0) [] 0 fv0 :=
  ⟨Ab3 _,hN,hnd,World.ownsRow_nil _ _ _ _,⟨by rw[hset];exact F,fun h=>by omega,fun h=>by omega⟩,fun h=>by omega⟩
 refine(vU hcap hn (by omega) hfr.1 hkf I hJlt hne hkn hend ns.length 0 (.slice none 0 0) fv0 [] [] w (by omega) (by omega) rfl (by simp) pre).mono ?_
 rintro e w' ⟨j,rfl,hj1,hj2,hj3,hF,y,hp,_⟩
 obtain rfl:j=ns.length:=by
  rcases Ae5 j ns.length with h | h
  ·exact absurd hj3 (hs2 j h)
  ·omega
 have hrow:=hp.fd.row ⟨h0,h1⟩
 have K:=hp.fd.blk
 have hsz:kf<w'.heap.size:=Adj hkf hF.size
 obtain⟨v,z⟩:∃ v:World,v={ w' with heap:=w'.heap.setIfInBounds kf (.cells csF tyF frF) }:=⟨_,rfl⟩
 have k1:v.heap[kf]?=some (.cells csF tyF frF):=by rw[z];simp[hsz]
 have k2:∀ k,k≠kf→v.heap[k]?=w'.heap[k]?:=fun k Y=>by rw[z];simp[Adw,Ne.symm Y]
 have k3:v.heap.size=w'.heap.size:=by rw[z];simp
 have G:v.os=w'.os∧v.tape=w'.tape∧v.output=w'.output:=by rw[z];exact⟨rfl,rfl,rfl⟩
 clear z
 have kold:∀ k,k<w.heap.size→v.heap[k]?=w.heap[k]?:=fun k Y=>by
  by_cases e:k=kf
  ·subst e;rw[k1,F]
  ·rw[k2 k e];exact hF.block k Y e (by simp[Value.ownBlock])
 have O:OnlyBlk v w' kf csF (csF.setIfInBounds off y) tyF frF:=⟨k1,K,by simp,fun q hq=>(k2 q hq).symm,k3.symm,G.1.symm,G.2.1.symm,G.2.2.symm⟩
 generalize hp0:seen ns node ns.length=p at *
 have D:Ag (X0 node 100002 0 L) 300000=none:=rfl
 obtain⟨β1,A,hβ1,hrep,hone⟩:∃ β1,Step J β (X0 node 100002 0 L) w J β1 (Dd (X0 node 100002 0 L) 300000 (bQ 3 (p.flatMap fA))) v∧β1 100001=some (kf,off) ∧
   Rep J β1 (Dd (X0 node 100002 0 L) 300000 (bQ 3 (p.flatMap fA))) v (.own 300000 0 p.length) y∧y.oneCell'=true:=by
  have hgx:Ag (Dd (X0 node 100002 0 L) 300000 (bQ 3 (p.flatMap fA))) 300000=some (bQ 3 (p.flatMap fA)):=rfl
  rcases hrow.2 with⟨rfl,hl⟩ | ⟨g,cap',cur,rfl,hbg,hg,hnc,_,hcs,U⟩
  ·have hp1:p=[]:=Adq hl
   subst hp1
   have A1:=Step.junk S (w':=v) (G.1.trans hF.os) (G.2.1.trans hF.tape) (G.2.2.trans hF.output) (by rw[k3];exact hF.size) kold
   have A2:=Step.newNone A1.sim (d:=300000) (x:=bQ 3 []) D rfl
   refine⟨_,A1.trans A2 (fun b k o hb=>A1.ext.size b k o hb),by simp[M],?_,rfl⟩
   rw[Rep]
   exact⟨_,none,0,⟨hgx,rfl⟩,rfl,Ab3 _,.inl rfl⟩
  ·have hgk:g≠kf:=by omega
   have A1:=Step.newAt S (w':=v) (d:=300000) (k0:=g) (x:=bQ 3 (p.flatMap fA)) (cs:=cur) (ty:=63) (fr:=(0,0)) D rfl rfl FrTy.un0
    (by show(p.flatMap fA).length≤_;rw[pe,hcs];exact Aco _ hnc) ((k2 g hgk).trans hg) hbg (G.1.trans hF.os) (G.2.1.trans hF.tape) (G.2.2.trans hF.output) (by rw[k3];exact hF.size) kold
    ⟨fun _=>uE p _ 0 (fun q u hq=>by
     rw[←U,Ac9] at hq
     split at hq
     ·simpa using hq
     ·cases hq),fun h=>(by cases h)⟩
   refine⟨_,A1,by simp[M],?_,rfl⟩
   rw[Rep]
   refine⟨_,_,cap',⟨hgx,rfl⟩,rfl,hnc,.inr ⟨g,0,rfl,.inr ⟨by simp,?_,?_⟩⟩⟩
   ·rw[Cd ((k2 g hgk).trans hg),hcs];simp[bQ]
   ·show 0+p.length*3≤(p.flatMap fA).length;rw[pe];omega
 have V:(csF.setIfInBounds off y)[off+0]?=some y:=by rw[Ac4,Adw,if_pos rfl,if_pos (by omega)]
 have B:=Step.set A.sim (d:=100001) (k:=kf) (o:=off) (x:=bN 0 [.own 100002 0 0]) (x':=bN 0 [.own 300000 0 p.length]) rfl rfl rfl hβ1 O rfl rfl rfl rfl
  ⟨fun h=>(by cases h),fun _ q c hq=>(by
   cases q with
   | zero =>
    simp[bN] at hq;subst hq
    exact⟨y,V,hrep,hone⟩
   | succ q=>simp[bN] at hq)⟩ rfl
 have hz:∀ k,Ar w k≤Ar w' k:=fun k=>by
  by_cases Y:k<w.heap.size
  ·by_cases e:k=kf
   ·subst e;rw[Cd F,Cd K];simp
   ·have:=hF.block k Y e (by simp[Value.ownBlock]);simp[Ar,this]
  ·simp[Ar,Acq (Adm Y)]
 have C:=A.trans B (fun b k o _=>hz k)
 refine⟨_,J,β1,rfl,⟨C.sim,C.os,C.tape,C.output,C.size,C.frame,C.wr,C.ext.jsub,C.jup,hz,fun b x0 x hx0 s hdd=>?_,fun b x s=>?_⟩,by rw[iv,Rep]⟩
 ·obtain⟨x',⟨hx',hm'⟩,hr'⟩:=C.ext.blk b x0 hx0
  have e:x'=x:=by
   have:some x'=some x:=hx'.symm.trans s
   exact Option.some.inj this
  subst e
  rcases hr' with h | ⟨h3,h4,h5,h6⟩
  ·rw[hdd] at h;cases h
  ·exact⟨⟨h4,hm'⟩,h5,h6,h3⟩
 ·simp only[X0,Ada,Adf,Ag] at s
  cases q0:beq 100000 b<;>rw[q0] at s<;>simp only[cond_true,cond_false,Ac0] at s
  ·cases q1:beq 100001 b<;>rw[q1] at s<;>simp only[cond_true,cond_false,Ac0] at s
   ·cases q2:beq 100002 b<;>rw[q2] at s<;>simp only[cond_true,cond_false,Ac0] at s
    ·cases q3:beq 300000 b<;>rw[q3] at s<;>simp only[cond_true,cond_false,Ac0,reduceCtorEq] at s
     subst s;rfl
    ·subst s;rfl
   ·subst s;rfl
  ·subst s;rfl
theorem uG (N:Nat) (a:LA) (h:Ao) (g) (d:AV) (h':Ao) (e:ED N a h=some g) (b:(g (AV×Ao) fun v h=>some (v,h))=some (d,h')):lZ Tryz.prog 55 a h d h':=by
 unfold ED at e
 split at e
 ·rename_i c n t o a node m L
  cases e
  dsimp only at b
  rw[Vk] at b
  unfold EC at b
  split at b
  ·rename_i ns j
   obtain⟨i,k⟩:=uc b
   simp only[Ab6,Afp,Ae7,decide_eq_true_eq] at i
   obtain⟨q,hn,rfl,rfl,h0,s⟩:=i
   cases k
   exact uF j q hn h0 s
  ·cases b
 ·cases e
theorem uH (N:Nat) (a:LA) (h:Ao) (g) (e:ED N a h=some g) (R:Type) (k:KF R):g R k=(g (AV×Ao) fun v h=>some (v,h)).bind fun p=>k p.1 p.2:=by
 unfold ED at e
 split at e
 ·cases e
  dsimp only
  rw[Vk,Vk];unfold EC
  split
  ·cases (Ed _ _&&_)<;>rfl
  ·rfl
 ·cases e
noncomputable def s4 (N:Nat):Bd Tryz.prog:=⟨55,ED N,uH N,uG N⟩
end Gx
namespace Gx
open Go Go.Proofs
set_option maxRecDepth 100000
noncomputable section
variable {R:Type} (N:Nat)
def Vl (N:Nat) (r0:Bool→O R) (b:Bool) (a:LA) (k1:Int→O R) (c:Int):O R :=
 (Az 22 (a.drop 4) fun u d=>cond (decide (c<(d:Int))) (Az 22 (a.drop 4) fun f g=>cond (Af c g) (Az 1 ((f.drop ((c.toNat)*22)).drop 18) fun v h=>cond ((decide ((h:Int)>30))==false) (Az 22 (a.drop 4) fun i j=>cond (Af c j) (Az 2 ((i.drop ((c.toNat)*22)).drop 4) fun w l=>cond (cond false true (decide ((l:Int)>20))) (r0 false) (k1 (wrap .i64 (c+1)))) none) (r0 false)) none) (r0 true))
def Hv (r0:Bool→O R) (b:Bool) (a:LA):Nat→Int→O R
 | 0,_=>none
 | n+1,c=>(Vl N r0 b a (Hv r0 b a n) c)
def EE (N:Nat) (r0:Bool→O R) (b:Bool) (a:LA) (q1:Int→O R):O R :=
 (q1 0)
def Zr (r0:Bool→O R) (b:Bool) (a:LA):O R:=(EE N r0 b a (Hv N r0 b a N))
def NT (N:Nat) (r0:Bool→O R) (q0:O R) (a:LA) (b:Bool):O R :=
 (Az 3 (a.drop 2) fun x m=>cond ((decide ((m:Int)>5))==false) (Az 12 (a.drop 3) fun y o=>cond ((cond false true (decide ((o:Int)>6)))==false) (Az 22 (a.drop 4) fun z p=>cond ((cond false true (decide ((p:Int)>4)))==false) (Az 9 (a.drop 5) fun aa q=>cond ((cond false true (decide ((q:Int)>4)))==false) (Az 5 (a.drop 6) fun ab r=>cond ((cond false true (decide ((r:Int)>4)))==false) (Az 4 (a.drop 7) fun ac s=>cond ((cond false true (decide ((s:Int)>4)))==false) (An .i64 a fun t=>cond (cond false true (decide (t>3))) (r0 false) q0) (r0 false)) (r0 false)) (r0 false)) (r0 false)) (r0 false)) (r0 false))
def GQ:=(Ai fun N a b r0=>NT (R:=R) N r0 (Zr N r0 b a) a b).1
theorem V_ (a b d):(@GQ R N a b d)=(NT N d (Zr N d b a) a b):=by rw[GQ,(Ai _).2]
def cY:Hints:={ H:=(hK 1 (hJ [1] hL (hS (hK 1 (hS (hP [1,3] hL) hL)) hL))) }
def cZ (F:KF R):=Jd Tryz.f16 cY [] [] N F
def pf (b:Bool) (a:LA) (K:St→O R):=fun c=>K ⟨[(1,(op 0)),(3,(iv c))],(hq [(bP b 0 a)])⟩
def pg (b:Bool) (a:LA) (K:St→O R):=K ⟨[(1,(op 0))],(hq [(bP b 0 a)])⟩
theorem gH (F:KF R) (b a):∀ n,pf b a (Am (cZ N F (pz 1348) []) n)=(Hv N (Bi F) b a n):=Fc fun n e=>(By (Vl N (Bi F) b a) e:_)
theorem gI (F:KF R) (b a):pg b a (Bv (cZ N F (pz 21) []))=(Zr N (Bi F) b a):=(By (EE N (Bi F) b a) ((lW ..).trans (gH ..)):_)
def s5:=Dq N 16 [] cY (fun
 | [(.pagg a b)],[]=>some fun _ k=>(GQ N a b (Bi k))
 | _,_=>none) fun _ _=>by split;intro R F;exact(By (NT N (Bi F) · _ _) ((jW ..).trans (gI ..)):_).trans (V_ ..).symm;trivial
def K' (N:Nat) (r0:Bool→O R) (b:LA) (a:Nat) (c d:Bool) (k0:Int→O R) (f:Int):O R :=
 (cond (decide (f<(a:Int))) (cond (Af f a) (Az 1 ((b.drop ((f.toNat)*3)).drop 1) fun i g=>cond ((decide ((g:Int)>4))==false) (cond (Af f a) (Az 1 ((b.drop ((f.toNat)*3)).drop 2) fun j h=>cond (cond false true (decide ((h:Int)>4))) (r0 false) (k0 (wrap .i64 (f+1)))) none) (r0 false)) none) (r0 true))
def Tk (r0:Bool→O R) (b:LA) (a:Nat) (c d:Bool):Nat→Int→O R
 | 0,_=>none
 | n+1,f=>(K' N r0 b a c d (Tk r0 b a c d n) f)
def aC (N:Nat) (r0:Bool→O R) (q0:Int→O R) (b:LA) (a:Nat) (c d:Bool):O R :=
 (cond (decide ((a:Int)>30)) (r0 false) (q0 0))
def c_:=(Ai fun N b a c d r0=>aC (R:=R) N r0 (Tk N r0 b a c d N) b a c d).1
theorem dA (b a c d e):(@c_ R N b a c d e)=(aC N e (Tk N e b a c d N) b a c d):=by rw[c_,(Ai _).2]
def iY:Hints:={ H:=(hK 2 (hS (hK 1 (hS (hP [0,3] hL) hL)) hL)) }
def s6 (F:KF R):=Jd Tryz.f24 iY [] [] N F
def s7 (b:LA) (a:Nat) (c d:Bool) (K:St→O R):=fun f=>K ⟨[(0,(.imm b a 3 c d)),(3,(iv f))],[]⟩
theorem kG (F:KF R) (b a c d):∀ n,s7 b a c d (Am (s6 N F (pz 1348) []) n)=(Tk N (Bi F) b a c d n):=Fc fun n e=>(By (K' N (Bi F) b a c d) e:_)
def uI:=Dq N 24 [] iY (fun
 | [(.imm b a 3 c d)],[]=>some fun _ k=>(c_ N b a c d (Bi k))
 | _,_=>none) fun _ _=>by split;intro R F;exact(By (aC N (Bi F) · _ _ _ _) ((lW ..).trans (kG ..)):_).trans (dA ..).symm;trivial
def L6 (k2:Int→O R) (r0:Bool→O R) (b:Bool) (a:LA) (k3:Int→Int→O R) (c d:Int):O R :=
 (Az 5 (a.drop 2) fun i j=>cond (Af c j) (Az 4 ((i.drop ((c.toNat)*5)).drop 4) fun ac l=>cond (decide (d<(l:Int))) (Az 5 (a.drop 2) fun m o=>cond (Af c o) (Az 4 ((m.drop ((c.toNat)*5)).drop 4) fun h p=>cond (Af d p) (cond (ble 3 (((h.drop ((d.toNat)*4)).drop 1).length)) (cond ((beq ((((h.drop ((d.toNat)*4)).drop 1).take 3).length) 3)&&(ble 3 3)) (c_ N ((setCells [(.bool false),.nsl,.nsl] 0 (((h.drop ((d.toNat)*4)).drop 1).take 3)).take 3) 1 false true fun q=>cond (!q) (r0 false) (k3 c (wrap .i64 (d+1)))) none) none) none) none) (k2 (wrap .i64 (c+1)))) none)
def Ce (k2:Int→O R) (r0:Bool→O R) (b:Bool) (a:LA):Nat→Int→Int→O R
 | 0,_,_=>none
 | n+1,c,d=>(L6 N k2 r0 b a (Ce k2 r0 b a n) c d)
def L7 (N:Nat) (r0:Bool→O R) (b:Bool) (a:LA) (k2:Int→O R) (q3:Int→Int→O R) (f:Int):O R :=
 (Az 5 (a.drop 2) fun ad r=>cond (decide (f<(r:Int))) (Az 5 (a.drop 2) fun s t=>cond (Af f t) (Az 4 ((s.drop ((f.toNat)*5)).drop 4) fun ae u=>cond (decide ((u:Int)>12)) (r0 false) (q3 f 0)) none) (r0 true))
def Dh (r0:Bool→O R) (b:Bool) (a:LA):Nat→Int→O R
 | 0,_=>none
 | n+1,f=>(L7 N r0 b a (Dh r0 b a n) (Ce N (Dh r0 b a n) r0 b a N) f)
def L8 (N:Nat) (r0:Bool→O R) (b:Bool) (a:LA) (k1:Int→O R) (q2:Int→O R) (g:Int):O R :=
 (Az 6 (a.drop 1) fun af v=>cond (decide (g<(v:Int))) (Az 6 (a.drop 1) fun w x=>cond (Af g x) (Az 1 ((w.drop ((g.toNat)*6)).drop 2) fun ag y=>cond (decide ((y:Int)>12)) (r0 false) (k1 (wrap .i64 (g+1)))) none) (q2 0))
def Ee (r0:Bool→O R) (b:Bool) (a:LA):Nat→Int→O R
 | 0,_=>none
 | n+1,g=>(L8 N r0 b a (Ee r0 b a n) (Dh N r0 b a N) g)
def Rm (N:Nat) (r0:Bool→O R) (b:Bool) (a:LA) (q1:Int→O R):O R :=
 (q1 0)
def Nn (r0:Bool→O R) (b:Bool) (a:LA):O R:=(Rm N r0 b a (Ee N r0 b a N))
def Hw (N:Nat) (r0:Bool→O R) (q0:O R) (a:LA) (b:Bool):O R :=
 (Az 2 a fun ah z=>cond ((decide ((z:Int)>20))==false) (Az 6 (a.drop 1) fun ai aa=>cond ((cond false true (decide ((aa:Int)>12)))==false) (Az 5 (a.drop 2) fun aj ab=>cond (cond false true (decide ((ab:Int)>40))) (r0 false) q0) (r0 false)) (r0 false))
def Qt:=(Ai fun N a b r0=>Hw (R:=R) N r0 (Nn N r0 b a) a b).1
theorem It (a b d):(@Qt R N a b d)=(Hw N d (Nn N d b a) a b):=by rw[Qt,(Ai _).2]
def EF:Hints:={ H:=(hK 1 (hJ [1] hL (hS (hK 1 (hS (hP [1,3] hL) hL)) (hS (hK 1 (hS (hP [1,4] (hK 1 (hS (hS (hK 2 (hS (hP [1,4,5] hL) hL)) hL) hL))) hL)) hL)))) }
def JB:Qr:=[uI N]
def No (F:KF R):=Jd Tryz.f8 EF (JB N) [] N F
def dB (b:Bool) (a:LA) (K:St→O R):=fun c d=>K ⟨[(1,(op 0)),(4,(iv c)),(5,(iv d))],(hq [(bP b 0 a)])⟩
def Ua (b:Bool) (a:LA) (K:St→O R):=fun f=>K ⟨[(1,(op 0)),(4,(iv f))],(hq [(bP b 0 a)])⟩
def dC (b:Bool) (a:LA) (K:St→O R):=fun g=>K ⟨[(1,(op 0)),(3,(iv g))],(hq [(bP b 0 a)])⟩
def dD (b:Bool) (a:LA) (K:St→O R):=K ⟨[(1,(op 0))],(hq [(bP b 0 a)])⟩
theorem NU (Q2) (F:KF R) (b a):∀ n,dB b a (Am (No N F (pz 89195540) [Q2]) n)=(Ce N (Ua b a Q2) (Bi F) b a n):=Fc fun n e=>(By (L6 N (Ua b a Q2) (Bi F) b a) e:_)
theorem NV (F:KF R) (b a):∀ n,Ua b a (Am (No N F (pz 5444) []) n)=(Dh N (Bi F) b a n):=Fc fun n e=>(MW (L7 N (Bi F) b a) e ((lW ..).trans ((NU ..).trans (oY (Ce _ · _ _ _ _) e))):_)
theorem NW (F:KF R) (b a):∀ n,dC b a (Am (No N F (pz 1348) []) n)=(Ee N (Bi F) b a n):=Fc fun n e=>(MW (L8 N (Bi F) b a) e ((lW ..).trans (NV ..)):_)
theorem NX (F:KF R) (b a):dD b a (Bv (No N F (pz 21) []))=(Nn N (Bi F) b a):=(By (Rm N (Bi F) b a) ((lW ..).trans (NW ..)):_)
def gJ:=Dq N 8 (JB N) EF (fun
 | [(.pagg a b)],[]=>some fun _ k=>(Qt N a b (Bi k))
 | _,_=>none) fun _ _=>by split;intro R F;exact(By (Hw N (Bi F) · _ _) ((jW ..).trans (NX ..)):_).trans (It ..).symm;trivial
def ph (N:Nat) (c d:Int) (b:Bool) (a:LA) (r0:Bool→LA→O R):O R :=
 (An .i64 (a.drop 11) fun e=>cond (e==0) (cond ((beq 3 3)&&((ble 11 (a.length))&&(!false))) (r0 (b||false) (Cy a 8 [(.int .i64 c),(.int .i64 d),(.int .i64 0)])) none) (r0 b a))
def EG:=(Ai (@ph R)).1
theorem iZ:@EG R=@ph R:=(Ai _).2
def Vm:=Dq N 136 [] G2 (fun
 | [(.optr 100000 0),(.int .i64 c),(.int .i64 d)],[(100000,⟨false,false,true,b,0,a,false,none⟩)]=>some fun _ k=>(EG N c d b a (Ca k))
 | _,_=>none) fun _ _=>by split;intro R F;dsimp only;rw[iZ];kernel_rfl;trivial
def dE (N:Nat) (d:Bool) (c e:Int) (b:Bool) (a:LA) (r0:Bool→LA→O R):O R :=
 (An .i64 (a.drop 11) fun f=>cond ((f==0)==true) (cond (cond true (!d) false) (cond ((beq 1 1)&&((ble 11 (a.length))&&(!false))) (cond ((beq 1 1)&&((ble 12 ((a.set 10 (.int .i64 c)).length))&&(!false))) (r0 ((b||false)||false) ((a.set 10 (.int .i64 c)).set 11 (.int .i64 e))) none) none) (r0 b a)) (r0 b a))
def Aq:=(Ai (@dE R)).1
theorem V':@Aq R=@dE R:=(Ai _).2
def Cp:=Dq N 139 [] G2 (fun
 | [(.optr 100000 0),(.bool d),(.int .i64 c),(.int .i64 e)],[(100000,⟨false,false,true,b,0,a,false,none⟩)]=>some fun _ k=>(Aq N d c e b a (Ca k))
 | _,_=>none) fun _ _=>by split;intro R F;dsimp only;rw[V'];kernel_rfl;trivial
def LB (a b e f:Int) (c:Bool) (d:LA) (r0:Bool→LA→O R):O R :=
 (cond ((decide (b≥e))==true) (Aq N (cond true (decide (b≤f)) false) a 3 c d fun g h=>r0 g h) (Aq N false a 3 c d fun i j=>r0 i j))
def A0:=(Ai (@LB R)).1
theorem JC:@A0 R=@LB R:=(Ai _).2
def Gb:=Dq N 137 [Cp N] G2 (fun
 | [(.optr 100000 0),(.int .i64 a),(.int .i64 b),(.int .i64 e),(.int .i64 f)],[(100000,⟨false,false,true,c,0,d,false,none⟩)]=>some fun _ k=>(A0 N a b e f c d (Ca k))
 | _,_=>none) fun _ _=>by split;intro R F;dsimp only;rw[JC];kernel_rfl;trivial
def Py (r0:Bool→LA→O R) (b c d:Int) (f:LA) (a:Nat) (g h:Bool) (k0:Int→Int→Bool→LA→O R) (p j:Int) (o:Bool) (l:LA):O R :=
 (cond (decide (j<p)) (cond (Af j a) (An .i64 (f.drop ((j.toNat)*1)) fun q=>An .i64 (l.drop 11) fun r=>cond (r != 0) (r0 o l) (A0 N b q c d o l fun s t=>k0 p (wrap .i64 (j+1)) s t)) none) (r0 o l))
def Hx (r0:Bool→LA→O R) (b c d:Int) (f:LA) (a:Nat) (g h:Bool):Nat→Int→Int→Bool→LA→O R
 | 0,_,_,_,_=>none
 | n+1,p,j,o,l=>(Py N r0 b c d f a g h (Hx r0 b c d f a g h n) p j o l)
def Zs (r0:Bool→LA→O R) (q0:Int→Int→Bool→LA→O R) (b:Int) (f:LA) (a:Nat) (g h:Bool) (c d:Int) (m:Bool) (i:LA):O R :=
 (An .i64 i fun u=>Aq N ((a:Int)==u) b 4 m i fun v w=>q0 (a:Int) 0 v w)
def Kr:=(Ai fun N b f a g h c d m i r0=>Zs (R:=R) N r0 (Hx N r0 b c d f a g h N) b f a g h c d m i).1
theorem JD (b f a g h c d m i e):(@Kr R N b f a g h c d m i e)=(Zs N e (Hx N e b c d f a g h N) b f a g h c d m i):=by rw[Kr,(Ai _).2]
def NY:Hints:={ H:=(hK 2 (hS (hP [0,1,3,4,23,24,25] hL) hL)) }
def WA:Qr:=[Cp N,Gb N]
def kH (F:KF R):=Jd Tryz.f138 NY (WA N) [100000] N F
def kI (b c d:Int) (f:LA) (a:Nat) (g h:Bool) (K:St→O R):=fun p j o l=>K ⟨[(0,(.optr 100000 0)),(1,(iv b)),(3,(iv c)),(4,(iv d)),(23,(.imm f a 1 g h)),(24,(iv p)),(25,(iv j))],[(100000,(bP o 0 l))]⟩
theorem YF (F:KF R) (b c d f a g h):∀ n,kI b c d f a g h (Am (kH N F (pz 84) []) n)=(Hx N (Ca F) b c d f a g h n):=Fc fun n e=>(By (Py N (Ca F) b c d f a g h) e:_)
def EH:=Dq N 138 (WA N) NY (fun
 | [(.optr 100000 0),(.int .i64 b),(.imm f a 1 g h),(.int .i64 c),(.int .i64 d)],[(100000,⟨false,false,true,m,0,i,false,none⟩)]=>some fun _ k=>(Kr N b f a g h c d m i (Ca k))
 | _,_=>none) fun _ _=>by split;intro R F;exact(By (Zs N (Ca F) · _ _ _ _ _ _ _ _ _) ((lW ..).trans (YF ..)):_).trans (JD ..).symm;trivial
def Vn (r0:Bool→LA→O R) (e:Bool) (c:LA):O R :=
 (Az 12 (c.drop 3) fun aj o=>Aq N (decide ((o:Int)≤64)) 3 8 e c fun p f=>Az 22 (f.drop 4) fun ak q=>Aq N (decide ((q:Int)≤16)) 4 8 p f fun r g=>Az 9 (g.drop 5) fun al s=>Aq N (decide ((s:Int)≤8)) 5 8 r g fun t h=>Az 5 (h.drop 6) fun am u=>Aq N (decide ((u:Int)≤8)) 6 8 t h fun v i=>Az 4 (i.drop 7) fun an w=>Aq N (decide ((w:Int)≤64)) 7 8 v i fun x y=>r0 x y)
def GR (r0:Bool→LA→O R) (q0:Bool→LA→O R) (a:Bool) (b:LA):O R :=
 (EG N 0 0 a b fun z j=>An .i64 j fun aa=>A0 N 0 aa 1 24 z j fun l m=>Az 1 (m.drop 1) fun ab ac=>Kr N 1 ab ac false l 0 1048576 l m fun n d=>Az 3 (d.drop 2) fun ao ad=>cond ((decide ((ad:Int)≥1))==true) (Az 3 (d.drop 2) fun ap ae=>Aq N (cond true (decide ((ae:Int)≤32)) false) 2 8 n d fun af ag=>q0 af ag) (Aq N false 2 8 n d fun ah ai=>q0 ah ai))
def X1:=(Ai fun N a b r0=>GR (R:=R) N r0 (Vn N r0) a b).1
theorem NZ (a b d):(@X1 R N a b d)=(GR N d (Vn N d) a b):=by rw[X1,(Ai _).2]
def WB:Hints:={ H:=(hK 3 (hJ [0] hL hL)) }
def dF:Qr:=[Vm N,Gb N,EH N,Cp N]
def mz (F:KF R):=Jd Tryz.f90 WB (dF N) [100000] N F
def nA (K:St→O R):=fun e c=>K ⟨[(0,(.optr 100000 0))],[(100000,(bP e 0 c))]⟩
theorem dG (F:KF R):nA (Bv (mz N F (pz 341) []))=(Vn N (Ca F)):=by kernel_rfl
def pi:=Dq N 90 (dF N) WB (fun
 | [(.optr 100000 0)],[(100000,⟨false,false,true,a,0,b,false,none⟩)]=>some fun _ k=>(X1 N a b (Ca k))
 | _,_=>none) fun _ _=>by split;intro R F;exact(By (GR N (Ca F) · _ _) ((jW ..).trans (dG ..)):_).trans (NZ ..).symm;trivial
def Vo (N:Nat) (r0:Bool→O R) (a:Lu) (k1:Int→Int→O R) (c b:Int):O R :=
 (cond (decide (b<c)) (cond (Af b (a.length)) (cond ((decide (((UInt8.toNat (List.getD a (b.toNat) 0):Nat):Int)<97))==false) (cond ((cond false true (decide (((UInt8.toNat (List.getD a (b.toNat) 0):Nat):Int)>122)))==true) (cond ((decide (((UInt8.toNat (List.getD a (b.toNat) 0):Nat):Int)<48))==false) (cond ((cond true (cond false true (decide (((UInt8.toNat (List.getD a (b.toNat) 0):Nat):Int)>57))) false)==true) (cond (cond true (((UInt8.toNat (List.getD a (b.toNat) 0):Nat):Int) != 95) false) (r0 false) (k1 c (wrap .i64 (b+1)))) (k1 c (wrap .i64 (b+1)))) (cond (cond true (((UInt8.toNat (List.getD a (b.toNat) 0):Nat):Int) != 95) false) (r0 false) (k1 c (wrap .i64 (b+1))))) (k1 c (wrap .i64 (b+1)))) (cond ((decide (((UInt8.toNat (List.getD a (b.toNat) 0):Nat):Int)<48))==false) (cond ((cond true (cond false true (decide (((UInt8.toNat (List.getD a (b.toNat) 0):Nat):Int)>57))) false)==true) (cond (cond true (((UInt8.toNat (List.getD a (b.toNat) 0):Nat):Int) != 95) false) (r0 false) (k1 c (wrap .i64 (b+1)))) (k1 c (wrap .i64 (b+1)))) (cond (cond true (((UInt8.toNat (List.getD a (b.toNat) 0):Nat):Int) != 95) false) (r0 false) (k1 c (wrap .i64 (b+1)))))) none) (r0 true))
def O5 (r0:Bool→O R) (a:Lu):Nat→Int→Int→O R
 | 0,_,_=>none
 | n+1,c,b=>(Vo N r0 a (O5 r0 a n) c b)
def EI (N:Nat) (r0:Bool→O R) (a:Lu) (q1:Int→Int→O R):O R :=
 (q1 (((a.length):Nat):Int) 0)
def Zt (r0:Bool→O R) (a:Lu):O R:=(EI N r0 a (O5 N r0 a N))
def N_ (N:Nat) (r0:Bool→O R) (q0:O R) (a:Lu):O R :=
 (cond ((decide ((((a.length):Nat):Int)<1))==false) (cond ((cond false true (decide ((((a.length):Nat):Int)>16)))==false) (cond ((cond false true (a==([99,111,114,114,101,99,116,105,118,101]:Lu)))==false) (cond (Af 0 (a.length)) (cond ((cond false true (decide (((UInt8.toNat (List.getD a 0 0):Nat):Int)<97)))==false) (cond (Af 0 (a.length)) (cond (cond false true (decide (((UInt8.toNat (List.getD a 0 0):Nat):Int)>122))) (r0 false) q0) none) (r0 false)) none) (r0 false)) (r0 false)) (r0 false))
def Pz:=(Ai fun N a r0=>N_ (R:=R) N r0 (Zt N r0 a) a).1
theorem WC (a b):(@Pz R N a b)=(N_ N b (Zt N b a) a):=by rw[Pz,(Ai _).2]
def dH:Hints:={ H:=(hK 1 (hJ [0] hL (hS (hK 1 (hS (hP [0,28,29] hL) hL)) hL))) }
def dI (F:KF R):=Jd Tryz.f180 dH [] [] N F
def pj (a:Lu) (K:St→O R):=fun c b=>K ⟨[(0,(.str a)),(28,(iv c)),(29,(iv b))],[]⟩
def pk (a:Lu) (K:St→O R):=K ⟨[(0,(.str a))],[]⟩
theorem gK (F:KF R) (a):∀ n,pj a (Am (dI N F (pz 1348) []) n)=(O5 N (Bi F) a n):=Fc fun n e=>(By (Vo N (Bi F) a) e:_)
theorem gL (F:KF R) (a):pk a (Bv (dI N F (pz 21) []))=(Zt N (Bi F) a):=(By (EI N (Bi F) a) ((lW ..).trans (gK ..)):_)
def Tl:=Dq N 180 [] dH (fun
 | [(.str a)],[]=>some fun _ k=>(Pz N a (Bi k))
 | _,_=>none) fun _ _=>by split;intro R F;exact(By (N_ N (Bi F) · _) ((jW ..).trans (gL ..)):_).trans (WC ..).symm;trivial
def Ws (N:Nat) (a:Int) (c:Bool) (b:LA) (r0:Lu→O R):O R :=
 (Az 3 (b.drop 2) fun d e=>cond (Af a e) (IP (d.drop ((a.toNat)*3)) fun f=>r0 f) none)
def Sk:=(Ai (@Ws R)).1
theorem X2:@Sk R=@Ws R:=(Ai _).2
def dJ:=Dq N 141 [] G2 (fun
 | [(.int .i64 a),(.optr 100000 0)],[(100000,⟨false,false,false,false,0,[(.optr 100001 0)],false,none⟩),(100001,⟨false,false,true,c,0,b,false,none⟩)]=>some fun _ k=>(Sk N a c b (sJ c b k))
 | _,_=>none) fun _ _=>by split;intro R F;dsimp only;rw[X2];kernel_rfl;trivial
def Ju (r0:Bool→LA→O R) (a:Lu) (b:Int) (k0:Int→Bool→LA→O R) (h:Int) (d:Bool) (c:LA):O R :=
 (cond (decide (h<b)) (An .i64 (c.drop 11) fun j=>cond (j != 0) (r0 d c) (Sk N h d c fun l=>Aq N (!(l==a)) 0 10 d c fun m o=>k0 (wrap .i64 (h+1)) m o)) (r0 d c))
def E2 (r0:Bool→LA→O R) (a:Lu) (b:Int):Nat→Int→Bool→LA→O R
 | 0,_,_,_=>none
 | n+1,h,d,c=>(Ju N r0 a b (E2 r0 a b n) h d c)
def Vp (r0:Bool→LA→O R) (q0:Int→Int→Bool→LA→O R) (a:Lu) (f:Bool) (g:LA):O R :=
 (Pz N a fun p=>Aq N p 0 9 f g fun q i=>An .i64 (i.drop 9) fun b=>q0 b 0 q i)
def Ub:=(Ai fun N a f g r0=>Vp (R:=R) N r0 (fun b=>E2 N r0 a b N) a f g).1
theorem EJ (a f g d):(@Ub R N a f g d)=(Vp N d (fun b=>E2 N d a b N) a f g):=by rw[Ub,(Ai _).2]
def N':Qr:=[Tl N,Cp N,dJ N]
def gM (F:KF R):=Jd Tryz.f140 BP (N' N) [100000,100001] N F
def gN (a:Lu) (b:Int) (K:St→O R):=fun h d c=>K ⟨[(0,(.optr 100000 0)),(1,(.str a)),(2,(.fn 141 [(.optr 100001 0)])),(15,(iv b)),(16,(iv h))],[(100000,(bP d 0 c)),(100001,(bN 0 [(.optr 100000 0)]))]⟩
theorem SW (F:KF R) (a b):∀ n,gN a b (Am (gM N F (pz 84) []) n)=(E2 N (Se F) a b n):=Fc fun n e=>(By (Ju N (Se F) a b) e:_)
def kJ:=Dq N 140 (N' N) BP (fun
 | [(.optr 100000 0),(.str a),(.fn 141 [(.optr 100001 0)])],[(100000,⟨false,false,true,f,0,g,false,none⟩),(100001,⟨false,false,false,false,0,[(.optr 100000 0)],false,none⟩)]=>some fun _ k=>(Ub N a f g (Se k))
 | _,_=>none) fun _ _=>by split;intro R F;exact(By (Vp N (Se F) · _ _ _) (fi fun b=>(lW ..).trans (SW ..)):_).trans (EJ ..).symm;trivial
def Sm (r0:Bool→LA→O R) (a:LA) (c:Nat) (b:Bool) (k0:Int→Int→Bool→LA→O R) (g d:Int) (h:Bool) (i:LA):O R :=
 (cond (decide (d<g)) (cond (Af d c) (cond (ble 3 ((a.drop ((d.toNat)*3)).length)) (cond ((beq 0 0)&&((beq (((a.drop ((d.toNat)*3)).take 3).length) 3)&&(beq 3 3))) (EG N 1 d h i fun j l=>IP ((a.drop ((d.toNat)*3)).take 3) fun m=>Ub N m j l fun o p=>Az 1 (((a.drop ((d.toNat)*3)).take 3).drop 1) fun q r=>Kr N 1 q r false b 0 1048576 o p fun s t=>An .i64 (((a.drop ((d.toNat)*3)).take 3).drop 2) fun u=>A0 N 2 u 0 1048576 s t fun v w=>k0 g (wrap .i64 (d+1)) v w) none) none) none) (r0 h i))
def Jv (r0:Bool→LA→O R) (a:LA) (c:Nat) (b:Bool):Nat→Int→Int→Bool→LA→O R
 | 0,_,_,_,_=>none
 | n+1,g,d,h,i=>(Sm N r0 a c b (Jv r0 a c b n) g d h i)
def GS (N:Nat) (r0:Bool→LA→O R) (q0:LA→Nat→Int→Int→Bool→LA→O R) (b:Bool) (f:LA):O R :=
 (Az 3 (f.drop 2) fun a c=>q0 a c (c:Int) 0 b f)
def X3:=(Ai fun N b f r0=>GS (R:=R) N r0 (fun a c=>Jv N r0 a c b N) b f).1
theorem OA (b f d):(@X3 R N b f d)=(GS N d (fun a c=>Jv N d a c b N) b f):=by rw[X3,(Ai _).2]
def WD:Hints:={ H:=(hK 2 (hS (hP [1,8,9,10] hL) hL)) }
def dK:Qr:=[Vm N,kJ N,EH N,Gb N]
def nB (F:KF R):=Jd Tryz.f91 WD (dK N) [100000] N F
def nC (a:LA) (c:Nat) (b:Bool) (K:St→O R):=fun g d h i=>K ⟨[(1,(op 0)),(8,(.imm a c 3 false b)),(9,(iv g)),(10,(iv d))],[(100000,(bP h 0 i)),(300000,(bN 0 [(.optr 100000 0)]))]⟩
theorem dL (F:KF R) (a c b):∀ n,nC a c b (Am (nB N F (pz 84) []) n)=(Jv N (Ca F) a c b n):=Fc fun n e=>(By (Sm N (Ca F) a c b) e:_)
def pm:=Dq N 91 (dK N) WD (fun
 | [(.optr 100000 0)],[(100000,⟨false,false,true,b,0,f,false,none⟩)]=>some fun _ k=>(X3 N b f (Ca k))
 | _,_=>none) fun _ _=>by split;intro R F;exact(By (GS N (Ca F) · _ _) (fj fun a c=>(lW ..).trans (dL ..)):_).trans (OA ..).symm;trivial
def Wt (N:Nat) (a:Int) (c:Bool) (b:LA) (r0:Lu→O R):O R :=
 (Az 12 (b.drop 3) fun d e=>cond (Af a e) (IP (d.drop ((a.toNat)*12)) fun f=>r0 f) none)
def Sn:=(Ai (@Wt R)).1
theorem X4:@Sn R=@Wt R:=(Ai _).2
def dM:=Dq N 142 [] G2 (fun
 | [(.int .i64 a),(.optr 100000 0)],[(100000,⟨false,false,false,false,0,[(.optr 100001 0)],false,none⟩),(100001,⟨false,false,true,c,0,b,false,none⟩)]=>some fun _ k=>(Sn N a c b (sJ c b k))
 | _,_=>none) fun _ _=>by split;intro R F;dsimp only;rw[X4];kernel_rfl;trivial
def Jw (r0:Bool→LA→O R) (a:Lu) (b:Int) (k0:Int→Bool→LA→O R) (h:Int) (d:Bool) (c:LA):O R :=
 (cond (decide (h<b)) (An .i64 (c.drop 11) fun j=>cond (j != 0) (r0 d c) (Sn N h d c fun l=>Aq N (!(l==a)) 0 10 d c fun m o=>k0 (wrap .i64 (h+1)) m o)) (r0 d c))
def E3 (r0:Bool→LA→O R) (a:Lu) (b:Int):Nat→Int→Bool→LA→O R
 | 0,_,_,_=>none
 | n+1,h,d,c=>(Jw N r0 a b (E3 r0 a b n) h d c)
def Vq (r0:Bool→LA→O R) (q0:Int→Int→Bool→LA→O R) (a:Lu) (f:Bool) (g:LA):O R :=
 (Pz N a fun p=>Aq N p 0 9 f g fun q i=>An .i64 (i.drop 9) fun b=>q0 b 0 q i)
def Uc:=(Ai fun N a f g r0=>Vq (R:=R) N r0 (fun b=>E3 N r0 a b N) a f g).1
theorem EK (a f g d):(@Uc R N a f g d)=(Vq N d (fun b=>E3 N d a b N) a f g):=by rw[Uc,(Ai _).2]
def OB:Qr:=[Tl N,Cp N,dM N]
def gO (F:KF R):=Jd Tryz.f140 BP (OB N) [100000,100001] N F
def gP (a:Lu) (b:Int) (K:St→O R):=fun h d c=>K ⟨[(0,(.optr 100000 0)),(1,(.str a)),(2,(.fn 142 [(.optr 100001 0)])),(15,(iv b)),(16,(iv h))],[(100000,(bP d 0 c)),(100001,(bN 0 [(.optr 100000 0)]))]⟩
theorem SX (F:KF R) (a b):∀ n,gP a b (Am (gO N F (pz 84) []) n)=(E3 N (Se F) a b n):=Fc fun n e=>(By (Jw N (Se F) a b) e:_)
def kK:=Dq N 140 (OB N) BP (fun
 | [(.optr 100000 0),(.str a),(.fn 142 [(.optr 100001 0)])],[(100000,⟨false,false,true,f,0,g,false,none⟩),(100001,⟨false,false,false,false,0,[(.optr 100000 0)],false,none⟩)]=>some fun _ k=>(Uc N a f g (Se k))
 | _,_=>none) fun _ _=>by split;intro R F;exact(By (Vq N (Se F) · _ _ _) (fi fun b=>(lW ..).trans (SX ..)):_).trans (EK ..).symm;trivial
def kL (b c:Int) (d:Bool) (a:LA) (r0:Bool→LA→O R):O R :=
 (cond ((decide (c≥0))==true) (Az 3 (a.drop 2) fun j e=>Aq N (cond true (decide (c<(e:Int))) false) b 12 d a fun f g=>r0 f g) (Aq N false b 12 d a fun h i=>r0 h i))
def EL:=(Ai (@kL R)).1
theorem dN:@EL R=@kL R:=(Ai _).2
def OC:=Dq N 143 [Cp N] G2 (fun
 | [(.optr 100000 0),(.int .i64 b),(.int .i64 c)],[(100000,⟨false,false,true,d,0,a,false,none⟩)]=>some fun _ k=>(EL N b c d a (Ca k))
 | _,_=>none) fun _ _=>by split;intro R F;dsimp only;rw[dN];kernel_rfl;trivial
def SY (N:Nat) (a:LA) (b:Bool) (r0:Bool→O R):O R :=
 (An .i64 (a.drop 1) fun c=>cond ((decide (c≥1))==true) (An .i64 (a.drop 1) fun d=>cond ((cond true (decide (d≤1048576)) false)==true) (An .i64 a fun e=>cond ((cond true (decide (e≥(-1048576))) false)==true) (An .i64 a fun f=>r0 (cond true (decide (f≤1048576)) false)) (r0 false)) (r0 false)) (r0 false))
def Ud:=(Ai (@SY R)).1
theorem OD:@Ud R=@SY R:=(Ai _).2
def dO:=Dq N 144 [] G2 (fun
 | [(.pagg a b)],[]=>some fun _ k=>(Ud N a b (Bi k))
 | _,_=>none) fun _ _=>by split;intro R F;dsimp only;rw[OD];kernel_rfl;trivial
def Ha (N:Nat) (r0:Bool→O R) (b:LA) (a:Nat) (c d:Bool) (k0:Int→O R) (f:Int):O R :=
 (cond (decide (f<(a:Int))) (cond (Af f a) (An .i64 (b.drop ((f.toNat)*1)) fun g=>cond (Af (wrap .i64 (f - 1)) a) (An .i64 (b.drop (((wrap .i64 (f - 1)).toNat)*1)) fun h=>cond (decide (g≤h)) (r0 false) (k0 (wrap .i64 (f+1)))) none) none) (r0 true))
def Ds (r0:Bool→O R) (b:LA) (a:Nat) (c d:Bool):Nat→Int→O R
 | 0,_=>none
 | n+1,f=>(Ha N r0 b a c d (Ds r0 b a c d n) f)
def P0 (N:Nat) (r0:Bool→O R) (q0:Int→O R) (b:LA) (a:Nat) (c d:Bool):O R :=
 (q0 1)
def Hy:=(Ai fun N b a c d r0=>P0 (R:=R) N r0 (Ds N r0 b a c d N) b a c d).1
theorem X5 (b a c d e):(@Hy R N b a c d e)=(P0 N e (Ds N e b a c d N) b a c d):=by rw[Hy,(Ai _).2]
def YG (F:KF R):=Jd Tryz.f151 VO [] [] N F
def YH (b:LA) (a:Nat) (c d:Bool) (K:St→O R):=fun f=>K ⟨[(0,(.imm b a 1 c d)),(3,(iv f))],[]⟩
theorem LC (F:KF R) (b a c d):∀ n,YH b a c d (Am (YG N F (pz 324) []) n)=(Ds N (Bi F) b a c d n):=Fc fun n e=>(By (Ha N (Bi F) b a c d) e:_)
def Ue:=Dq N 151 [] VO (fun
 | [(.imm b a 1 c d)],[]=>some fun _ k=>(Hy N b a c d (Bi k))
 | _,_=>none) fun _ _=>by split;intro R F;exact(By (P0 N (Bi F) · _ _ _ _) ((lW ..).trans (LC ..)):_).trans (X5 ..).symm;trivial
def Vr (r0:Bool→LA→O R) (c:Int) (b:LA) (a:Nat) (f d g:Bool) (h:LA) (k0:Int→Int→Bool→LA→O R) (m j:Int) (l:Bool) (i:LA):O R :=
 (cond (decide (j<m)) (cond (Af j a) (An .i64 (b.drop ((j.toNat)*1)) fun o=>An .i64 (i.drop 11) fun p=>cond (p != 0) (r0 l i) (An .i64 i fun q=>A0 N c o 0 (wrap .i64 (q - 1)) l i fun r s=>k0 m (wrap .i64 (j+1)) r s)) none) (Hy N b a false d fun t=>Aq N t c 11 l i fun u v=>r0 u v))
def Mn (r0:Bool→LA→O R) (c:Int) (b:LA) (a:Nat) (f d g:Bool) (h:LA):Nat→Int→Int→Bool→LA→O R
 | 0,_,_,_,_=>none
 | n+1,m,j,l,i=>(Vr N r0 c b a f d g h (Mn r0 c b a f d g h n) m j l i)
def OE (N:Nat) (r0:Bool→LA→O R) (q0:Int→Int→Bool→LA→O R) (c:Int) (b:LA) (a:Nat) (f d g:Bool) (h:LA):O R :=
 (q0 (a:Int) 0 g h)
def GT:=(Ai fun N c b a f d g h r0=>OE (R:=R) N r0 (Mn N r0 c b a f d g h N) c b a f d g h).1
theorem WE (c b a f d g h e):(@GT R N c b a f d g h e)=(OE N e (Mn N e c b a f d g h N) c b a f d g h):=by rw[GT,(Ai _).2]
def dP:Hints:={ H:=(hS (hK 1 (hS (hP [0,1,2,8,9,10] hL) hL)) hL) }
def i8:Qr:=[Gb N,Ue N,Cp N]
def pn (F:KF R):=Jd Tryz.f145 dP (i8 N) [100000] N F
def po (c:Int) (b:LA) (a:Nat) (f d g:Bool) (h:LA) (K:St→O R):=fun m j l i=>K ⟨[(0,(.optr 100000 0)),(1,(iv c)),(2,(.imm b a 1 f d)),(8,(.imm b a 1 f d)),(9,(iv m)),(10,(iv j))],[(100000,(bP l 0 i))]⟩
theorem gQ (F:KF R) (c b a f d g h):∀ n,po c b a f d g h (Am (pn N F (pz 68) []) n)=(Mn N (Ca F) c b a f d g h n):=Fc fun n e=>(By (Vr N (Ca F) c b a f d g h) e:_)
def i_:=Dq N 145 (i8 N) dP (fun
 | [(.optr 100000 0),(.int .i64 c),(.imm b a 1 f d)],[(100000,⟨false,false,true,g,0,h,false,none⟩)]=>some fun _ k=>(GT N c b a f d g h (Ca k))
 | _,_=>none) fun _ _=>by split;intro R F;exact(By (OE N (Ca F) · _ _ _ _ _ _ _) ((lW ..).trans (gQ ..)):_).trans (WE ..).symm;trivial
end
end Gx
