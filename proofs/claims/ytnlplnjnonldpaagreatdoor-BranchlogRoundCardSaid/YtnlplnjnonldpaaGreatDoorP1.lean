/- A part of the proof; each theorem says what it holds. -/
import Derived.ProofKit
import Derived.OpenShut
import Derived.ChangeOld
import Derived.Below
import Derived.Lib.LaidTab
import Derived.Test.YtnlplnjnonldpaaGreatDoorProg
import Derived.JoinedOf
import Derived.Test.YtnlplnjnonldpaaGreatDoorCards
import Derived.Test.YtnlplnjnonldpaaGreatDoorTie
import Derived.Deep.DeepHandedRow
import Derived.Deep.DeepWitnessRowRef
import Derived.LaidMore
import Derived.Shelf.Vars
import Derived.SevenTiedAt
import Derived.Lay
import Derived.IntWalk
import Derived.Test.YtnlplnjnonldpaaGreatDoorP0
set_option linter.unusedVariables false
set_option linter.defProp false
set_option linter.unusedSimpArgs false
open Nat (ble beq)
open List (take drop replicate)
open Go.IntKind (wrap)
namespace Gx
open Go
theorem Lf:∀ {l:List Nat} {b:Nat},Ip l b=true↔b ∈ l
  | [],b=>by simp[Ip]
  | i::r,b=>by
    rw[Ip]
    cases hi:beq i b with
    | true=>have:=A0j hi;subst this;simp
    | false => have := Y9 hi; simp only [cond_false, Az7]; rw [Lf]; constructor
               · exact fun h=>.inr h
               · rintro(h | h)
                 · exact absurd h.symm this
                 · exact h
theorem U7:∀ {l:List Nat},RL l=true→l.Nodup
 | [],_=>A5y
 | i::r,h=>by
  rw[RL] at h;simp at h
  refine A1s.2 ⟨fun e=>?_,U7 h.2⟩
  rw[Lf.2 e] at h;simp at h
theorem jN {g:A7} {ids:List Nat}:∀ {l:List Nat},qS g ids l=true→∀ b ∈ l,∀ x,Fy g b=some x→b ∈ ids
 | [],_,b,j,_,_=>by simp at j
 | i::r,h,b,j,x,n=>by
  rw[qS] at h;simp at h
  rcases Az7.1 j with e | j
  ·subst e
   rcases h.1 with k | k
   ·exact Lf.1 k
   ·rw[n] at k;simp at k
  ·exact jN h.2 b j x n
theorem Adz:∀ {l:List Nat},Alz l=true→∀ b ∈ l,Hb≤b→Le b<100000
 | [],_,b,j,_=>by simp at j
 | i::r,h,b,j,hn=>by
  rw[Alz] at h;simp at h
  rcases Az7.1 j with e | j
  ·subst e
   have:ble Hb b=true:=by simpa using hn
   rw[this] at h;simpa using h.1
  ·exact Adz h.2 b j hn
theorem BY (g:A7):∀ c:LA,(J8 g c).length=c.length
 | []=>rfl
 | x::r=>by rw[J8,Az5,Az5,BY g r]
section
variable {R:Type} {r:R} {Z:Start} {nt:Nat} {J J':Bool→Nat→Prop} {β β':Cd} {st:St} {h h':Az} {a:Act} {w w':World} {ids:List Nat}
def Mt (g:A7) (x:Blk):Blk:={ x with cells:=cond x.pure x.cells (J8 g x.cells) }
theorem bK {g:A7}:∀ {ids:List Nat},(ids.map Le).Nodup→∀ c y,An (BU g ids) c=some y→∃ b x,b ∈ ids∧Le b=c∧Fy g b=some x∧y=Mt g x
 | [],_,c,y,j=>by simp[BU,An] at j
 | b::r,hn,c,y,j=>by
  rw[A0n,A1s] at hn
  rw[BU] at j
  split at j
  ·rename_i x u
   rw[Aj] at j
   by_cases e:c=Le b
   ·rw[if_pos e] at j;simp at j
    exact⟨b,x,by simp,e.symm,u,j.symm⟩
   ·rw[if_neg e] at j
    obtain⟨k,x',n,q,s,t⟩:=bK hn.2 c y j
    exact⟨k,x',by simp[n],q,s,t⟩
  ·obtain⟨k,x',n,q,s,t⟩:=bK hn.2 c y j
   exact⟨k,x',by simp[n],q,s,t⟩
theorem BZ {g:A7}:∀ {ids:List Nat},(ids.map Le).Nodup→∀ b x,b ∈ ids→Fy g b=some x→An (BU g ids) (Le b)=some (Mt g x)
 | [],_,b,x,j,_=>by simp at j
 | q::r,hn,b,x,j,k=>by
  rw[A0n,A1s] at hn
  rw[BU]
  by_cases e:b=q
  ·subst e
   rw[k]
   simp only
   rw[Aj,if_pos rfl];rfl
  ·have n:b ∈ r:=by simpa[e] using j
   have ne:Le b≠Le q:=fun h=>hn.1 (by rw[←h];exact A04.2 ⟨b,n,rfl⟩)
   split
   ·rw[Aj,if_neg ne];exact BZ hn.2 b x n k
   ·exact BZ hn.2 b x n k
def qi (ids:List Nat) (c:Nat):Option Nat:=ids.find? fun b=>beq (Le b) c
theorem Lv (hn:(ids.map Le).Nodup) {b:Nat} (j:b ∈ ids):qi ids (Le b)=some b:=by
 induction ids with
 | nil=>simp at j
 | cons i r k =>
  rw[A0n,A1s] at hn
  unfold qi at k ⊢
  rw[List.find?_cons]
  by_cases e:b=i
  ·subst e;simp
  ·have n:b ∈ r:=by simpa[e] using j
   have ne:Le i≠Le b:=fun h=>hn.1 (by rw[h];exact A04.2 ⟨b,n,rfl⟩)
   rw[Q_ ne];exact k hn.2 n
def Avm (g:A7) (ids:List Nat) (l:List Nat):Prop:=∀ b ∈ l,∀ x,Fy g b=some x→b ∈ ids
theorem Anx {b:Nat}:Fy (An h) b=(An h b).bind fun x=>cond x.dead none (some x):=rfl
theorem bM {b:Nat} {x y:Blk} (k:An h b=some x) (e:Fy (An h) b=some y):y=x∧x.dead=false:=by
 rw[Anx,k] at e
 cases j:x.dead with
 | true=>simp[j] at e
 | false=>simp[j] at e;exact⟨e.symm,rfl⟩
mutual
theorem Rep.clean (hn:(ids.map Le).Nodup):∀ {x:AV} {v:Value},Avm (An h) ids (Gq x)→Rep J β h w x v →
  Rep J (fun c=>(qi ids c).bind β) (BU (An h) ids) w (BT (An h) x) v
 | .own b off n,v,hm,hr=>by
  rw[Rep] at hr
  obtain⟨x,A,cap,⟨hx,hmp⟩,h1,h2,h3⟩:=hr
  rw[BT]
  cases hv:Fy (An h) b with
  | none=>simp only;rw[Rep];trivial
  | some y =>
   obtain⟨rfl,hd⟩:=bM hx hv
   have hb:=hm b (by simp[Gq]) _ hv
   simp only
   rw[Rep]
   refine⟨Mt (An h) y,A,cap,⟨BZ hn b y hb hv,hmp⟩,h1,h2,?_⟩
   rcases h3 with h3 | ⟨k,o,h4,h5⟩
   ·exact .inl h3
   ·refine .inr ⟨k,o,h4,?_⟩
    rcases h5 with h5 | ⟨h5,h6,h7⟩
    ·simp[hd] at h5
    ·refine .inr ⟨by rw[Lv hn hb];exact h5,h6,?_⟩
     have:(Mt (An h) y).cells.length=y.cells.length:=by
      unfold Mt;cases y.pure
      ·simp;exact BY _ _
      ·rfl
     rw[this];exact h7
 | .optr b off,v,hm,hr=>by
  rw[Rep] at hr
  obtain⟨x,k,o,⟨hx,hmp⟩,h1,h2⟩:=hr
  rw[BT]
  cases hv:Fy (An h) b with
  | none=>simp only;rw[Rep];trivial
  | some y =>
   obtain⟨rfl,hd⟩:=bM hx hv
   have hb:=hm b (by simp[Gq]) _ hv
   simp only
   rw[Rep]
   refine⟨Mt (An h) y,k,o,⟨BZ hn b y hb hv,hmp⟩,h1,?_⟩
   rcases h2 with h2 | h2
   ·simp[hd] at h2
   ·exact .inr (by rw[Lv hn hb];exact h2)
 | .omap b,v,hm,hr=>by
  rw[Rep] at hr
  obtain⟨x,k,⟨hx,hmp⟩,h2⟩:=hr
  rw[BT]
  cases hv:Fy (An h) b with
  | none=>simp only;rw[Rep];trivial
  | some y =>
   obtain⟨rfl,hd⟩:=bM hx hv
   have hb:=hm b (by simp[Gq]) _ hv
   simp only
   rw[Rep]
   refine⟨Mt (An h) y,k,⟨BZ hn b y hb hv,hmp⟩,?_⟩
   rcases h2 with h2 | h2
   ·simp[hd] at h2
   ·exact .inr (by rw[Lv hn hb];exact h2)
 | .agg c,v,hm,hr=>by
  rw[Rep] at hr
  obtain⟨cs,h1,h2⟩:=hr
  rw[BT,Rep]
  exact⟨cs,h1,Reps.clean hn (by simpa[Gq] using hm) h2⟩
 | .tup c,v,hm,hr=>by
  rw[Rep] at hr
  obtain⟨cs,h1,h2⟩:=hr
  rw[BT,Rep]
  exact⟨cs,h1,Reps.clean hn (by simpa[Gq] using hm) h2⟩
 | .fn f c,v,hm,hr=>by
  rw[Rep] at hr
  obtain⟨cs,h1,h2⟩:=hr
  rw[BT,Rep]
  exact⟨cs,h1,Reps.clean hn (by simpa[Gq] using hm) h2⟩
 | .pagg c o,v,hm,hr=>by show Rep J _ _ w (.pagg c o) v;rw[Rep] at hr ⊢;exact hr
 | .undef,v,hm,hr=>by show Rep J _ _ w (.undef) v;rw[Rep] at hr ⊢;exact hr
 | .imm c n sz t o,v,hm,hr=>by show Rep J _ _ w (.imm c n sz t o) v;rw[Rep] at hr ⊢;exact hr
 | .iptr c o,v,hm,hr=>by show Rep J _ _ w (.iptr c o) v;rw[Rep] at hr ⊢;exact hr
 | .int k n,v,hm,hr=>by show Rep J _ _ w (.int k n) v;rw[Rep] at hr ⊢;exact hr
 | .bool b,v,hm,hr=>by show Rep J _ _ w (.bool b) v;rw[Rep] at hr ⊢;exact hr
 | .str s,v,hm,hr=>by show Rep J _ _ w (.str s) v;rw[Rep] at hr ⊢;exact hr
 | .nsl,v,hm,hr=>by show Rep J _ _ w (.nsl) v;rw[Rep] at hr ⊢;exact hr
 | .nilptr,v,hm,hr=>by show Rep J _ _ w (.nilptr) v;rw[Rep] at hr ⊢;exact hr
 | .nilfn,v,hm,hr=>by show Rep J _ _ w (.nilfn) v;rw[Rep] at hr ⊢;exact hr
theorem Reps.clean (hn:(ids.map Le).Nodup):∀ {c:List AV} {cs:List Value},Avm (An h) ids (Io c)→Reps J β h w c cs →
  Reps J (fun c=>(qi ids c).bind β) (BU (An h) ids) w (J8 (An h) c) cs
 | [],cs,hm,hr=>by rw[Reps] at hr;rw[J8,Reps];exact hr
 | x::r,cs,hm,hr=>by
  rw[Reps] at hr
  obtain⟨u,us,h1,h2,h3⟩:=hr
  rw[J8,Reps]
  exact⟨u,us,h1,Rep.clean hn (fun b hb=>hm b (by simp[Io,hb])) h2,Reps.clean hn (fun b hb=>hm b (by simp[Io,hb])) h3⟩
end
theorem EK {g:A7} {K:List Nat}:∀ {s:Gp} {i:Nat},F4 (jF g K s) i=if Ip K i=true then BT g (F4 s i) else .undef
 | [],i=>by
  simp only[jF,F4]
  show AV.undef=if Ip K i=true then AV.undef else AV.undef
  split<;>rfl
 | (t,v)::r,i=>by
  rw[jF,F4]
  cases e:Ip K t with
  | true =>
   simp only[cond_true,F4]
   cases hi:beq t i with
   | true =>
    have:=A0j hi;subst this
    simp[e]
   | false=>simp only[cond_false];exact EK
  | false =>
   simp only[cond_false]
   rw[EK]
   cases hi:beq t i with
   | true =>
    have:=A0j hi;subst this
    simp[e]
   | false=>rfl
theorem qk {K:List Nat}:∀ {s:Gp} {i:Nat},Ip K i=true→∀ b ∈ Gq (F4 s i),b ∈ qR K s
 | [],i,_,b,e=>by simp[F4,Gq] at e
 | (t,v)::r,i,j,b,e=>by
  rw[F4] at e
  rw[qR]
  cases hi:beq t i with
  | true =>
   have:=A0j hi;subst this
   rw[hi] at e
   rw[j];simp at e ⊢;exact .inl e
  | false =>
   rw[hi] at e
   have:=qk j b e
   cases Ip K t
   ·exact this
   ·simp;exact .inr this
theorem jO {g:A7}:∀ {ids:List Nat} {b:Nat} {x:Blk},b ∈ ids→g b=some x→x.pure=false→∀ c ∈ Io x.cells,c ∈ Ld g ids
 | [],b,x,j,_,_,_,_=>by simp at j
 | i::r,b,x,j,k,n,c,q=>by
  rw[Ld]
  by_cases e:b=i
  ·subst e;rw[k];simp only[n,cond_false];exact A0f.2 (.inl q)
  ·exact A0f.2 (.inr (jO (by simpa[e] using j) k n c q))
theorem jP:∀ {c:LA} {j:Nat} {x:AV},c[j]?=some x→∀ b ∈ Gq x,b ∈ Io c
 | [],j,x,e,_,_=>by simp at e
 | y::r,j,x,e,b,k=>by
  rw[Io]
  cases j with
  | zero=>simp at e;subst e;exact A0f.2 (.inl k)
  | succ j=>exact A0f.2 (.inr (jP (by simpa using e) b k))
theorem lT {g:A7}:∀ {c:LA} {j:Nat} {y:AV},(J8 g c)[j]?=some y→∃ x,c[j]?=some x∧y=BT g x
 | [],j,y,e=>by simp[J8] at e
 | x::r,j,y,e=>by
  rw[J8] at e
  cases j with
  | zero=>simp at e;exact⟨x,by simp,e.symm⟩
  | succ j=>obtain⟨x',k,n⟩:=lT (c:=r) (j:=j) (by simpa using e);exact⟨x',by simpa using k,n⟩
theorem Anz {b:Nat} (e:b<Hb):Le b=b:=by
 unfold Le
 have:ble Hb b=false:=by
  cases h:ble Hb b with
  | false=>rfl
  | true=>have:=Nat.le_of_ble_eq_true h;omega
 rw[this];rfl
theorem Ad0 {K roots:List Nat} {st':St} (I:Inv Z nt J β st a w) (hh:clean K roots st=some st'):∃ β',Inv Z nt J β' st' a w:=by
 unfold clean at hh
 obtain⟨hc,h1⟩:_∧_:=uc hh
 simp only[A0a] at hc
 obtain⟨c1,c2,c3,c4⟩:=hc
 generalize hids:EH (An st.h) (BS (An st.h) (qR K st.s++roots))=ids at *
 simp at h1
 have hn:=U7 c1
 have blk:∀ c y,An (BU (An st.h) ids) c=some y→∃ b x,b ∈ ids∧Le b=c∧An st.h b=some x∧x.dead=false∧y=Mt (An st.h) x:=by
  intro c y A
  obtain⟨b,x,C,D,L,S⟩:=bK hn c y A
  have n:An st.h b=some x∧x.dead=false:=Dg (fun _ _ h=>h) L
  exact⟨b,x,C,D,n.1,n.2,S⟩
 have B:∀ x:Blk,(Mt (An st.h) x).cells.length=x.cells.length:=fun x=>by
  unfold Mt;cases x.pure
  ·simp;exact BY _ _
  ·rfl
 refine⟨fun c=>(qi ids c).bind β,?_⟩
 subst h1
 refine⟨⟨I.sim.jlt,I.sim.jft,I.sim.gl,fun c y A hd hm=>?_,fun c y A hd hm=>by
   obtain⟨b,x,t,rfl,n,e,rfl⟩:=blk c y A
   obtain⟨C,D,k,ob,L,S,g5,g6⟩:=I.sim.mblk b x n e hm
   have:(Mt (An st.h) x).cells=x.cells:=by unfold Mt;rw[C];rfl
   exact⟨C,D,k,ob,by simp only[Lv hn t,A1q];exact L,S,by rw[ObjIs,show(Mt (An st.h) x).sz=x.sz from rfl,this];exact g5,g6⟩,?_⟩,⟨fun i v hv=>?_,fun i hi=>?_⟩,I.tmps,I.defers,I.os,I.tape,I.output,I.size,I.frame,?_,I.jsub,I.jup,I.sizes,I.zlt,I.zge,?_⟩
 ·obtain⟨b,x,t,rfl,n,e,rfl⟩:=blk c y A
  rcases I.sim.blk b x n e hm with⟨C,D⟩ | ⟨k,o,cs,ty,fr,C,D,L,S,g5,g6,g7⟩
  ·refine .inl ⟨by simp only[Lv hn t,A1q];exact C,?_⟩
   have:=B x;rw[D] at this;simpa using this
  ·refine .inr ⟨k,o,cs,ty,fr,by simp only[Lv hn t,A1q];exact C,D,L,by rw[B];exact S,⟨fun hp=>?_,fun hp j q hj=>?_⟩,g6,g7⟩
   ·have z:x.pure=true:=hp
    have:(Mt (An st.h) x).cells=x.cells:=by unfold Mt;rw[z];rfl
    rw[this];exact g5.1 z
   ·have z:x.pure=false:=hp
    have:(Mt (An st.h) x).cells=J8 (An st.h) x.cells:=by unfold Mt;rw[z];rfl
    rw[this] at hj
    obtain⟨q',hq,rfl⟩:=lT hj
    obtain⟨u,hu,hr,ho⟩:=g5.2 z j q' hq
    exact⟨u,hu,Rep.clean hn (fun T F x' G=>jN c3 T (jO t n z T (jP hq T F)) x' G) hr,ho⟩
 ·intro c c' y y' k o o' A hy' hd hd' hs U V
  obtain⟨b,x,t,rfl,n,e,rfl⟩:=blk c y A
  obtain⟨T,x',F,rfl,G,X,rfl⟩:=blk c' y' hy'
  simp only[Lv hn t,A1q] at U
  simp only[Lv hn F,A1q] at V
  rw[I.sim.sep b T x x' k o o' n G e X hs U V]
 ·rw[EK]
  split
  ·rename_i hk
   exact Rep.clean hn (fun b t x n=>jN c2 b (qk hk b t) x n) (I.ss.slot i v hv)
  ·rw[Rep];trivial
 ·rw[EK,I.ss.out i hi]
  split
  ·rfl
  ·rfl
 ·rintro k ⟨c,y,o,A,hd,hs,U⟩ hk
  obtain⟨b,x,t,rfl,n,e,rfl⟩:=blk c y A
  simp only[Lv hn t,A1q] at U
  exact I.wr k ⟨b,x,o,n,e,hs,U⟩ hk
 ·intro c x0 y h0 A hd
  obtain⟨b,x,t,rfl,n,e,rfl⟩:=blk c y A
  have hlt:=I.zlt _ _ h0
  have hge:=I.zge _ _ h0
  have Y:Le b=b:=by
   by_cases hnb:Hb≤b
   ·have:=Adz c4 b t hnb;omega
   ·exact Anz (by omega)
  rw[Y] at h0
  obtain⟨⟨e1,em⟩,e2,e3,e4⟩:=I.outs b x0 x h0 n e
  refine⟨⟨?_,em⟩,e2,by rw[B];exact e3,e4⟩
  simp only[Lv hn t,A1q];rw[Y];exact e1
end
end Gx
namespace Gx
open Go
section
variable {R:Type}
theorem Aq {α β:Type} (b:Bool) (x y:Option α) (f:α→Option β):(cond b x y).bind f=cond b (x.bind f) (y.bind f):=by cases b<;>rfl
theorem Zv {R':Type} (P:Program) (t:TypeId) (c:LA) (o:Bool) (k:Bool→Option R') (f:R'→O R):(Zq P t c o k).bind f=Zq P t c o fun o=>(k o).bind f:=by
 unfold Zq;simp only[Aq,A4g]
theorem U8 (P:Program) (t:TypeId) (c:LA) (org:Bool) (k:AV→O R):RG P t c org k=(RG P t c org some).bind k:=by
 unfold RG
 split<;>simp[Az4,Aq,Zv]<;>rfl
theorem Ail (P:Program) (t:TypeId) (c:LA) (k:AV→O R):lG P t c k=(lG P t c some).bind k:=by
 unfold lG
 split<;>simp[Az4,Aq]
theorem lU (n:Nat) (k:AV→O R):∀ (c:LA) (i:Nat),LI n k c i=(LI n some c i).bind k
 | [],_=>rfl
 | v::r,i=>by rw[LI,LI,Aq,lU n k r (i+1)];rfl
theorem lV (P:Program) (t:TypeId) (c:LA) (off:Nat) (k:AV→O R):RH P t c off k=(RH P t c off some).bind k:=by
 unfold RH
 split
 ·simp[Az4,Aq]
 ·simp[Az4,Aq]
 ·exact lU ..
 ·rfl
theorem LX (P:Program) (g:A7) (t:TypeId) (p:AV) (k:AV→O R):qL P g t p k=(qL P g t p some).bind k:=by
 unfold qL
 split
 ·exact U8 ..
 ·rw[Az4]
  congr 1;funext x
  rw[Aq,←U8,←lV]
 ·rfl
theorem PI (P:Program) (t:TypeId) (x i:AV) (k:AV→O R):Uw P t x i k=(Uw P t x i some).bind k:=by
 unfold Uw
 split<;>simp[Az4,Aq]
theorem PJ (P:Program) (t:TypeId) (x:AV) (f:Nat) (k:AV→O R):Ux P t x f k=(Ux P t x f some).bind k:=by
 unfold Ux
 simp only[Az4,Aq]
 congr 1;funext p;congr 1;funext n;congr 1
 split<;>rfl
theorem lX (P:Program) (t:TypeId) (x:AV) (f:Nat) (k:AV→O R):ik P t x f k=(ik P t x f some).bind k:=by
 unfold ik
 rw[Az4]
 congr 1;funext p
 split
 ·exact U8 ..
 ·exact Ail ..
 ·rfl
theorem lY (P:Program) (t:TypeId) (x i:AV) (k:AV→O R):ip P t x i k=(ip P t x i some).bind k:=by
 unfold ip
 split
 ·simp[Aq]
 ·simp only[Az4,Aq,←U8];rfl
 ·simp only[Az4,Aq,←lV];rfl
 ·rfl
theorem Zw {α:Type} (lo hi mx:Option AV) (n:Nat) (f:Nat→Nat→α) (k:α→O R):(Zr lo hi mx n fun l h=>k (f l h))=(Zr lo hi mx n fun l h=>some (f l h)).bind k:=by
 unfold Zr
 simp[Az4,Aq]
theorem lZ (P:Program) (g:A7) (t:TypeId) (x:AV) (lo hi mx:Option AV) (k:AV→O R):iq P g t x lo hi mx k=(iq P g t x lo hi mx some).bind k:=by
 unfold iq
 split
 ·rw[Aq,←Zw];rfl
 ·rw[Az4];congr 1;funext _;exact Zw lo hi mx 0 (fun _ _=>AV.nsl) k
 ·rw[Az4];congr 1;funext _;rw[Aq,←Zw];rfl
 ·rw[Az4];congr 1;funext _;rw[Az4];congr 1;funext _;rw[Aq,←Zw];rfl
 ·simp only[Az4,Aq];rfl
 ·rfl
theorem An0 (P:Program) (t:TypeId) (op:BinOp) (x y:AV) (k:AV→O R):Anm P t op x y k=(Anm P t op x y some).bind k:=by
 unfold Anm
 split
 ·split<;>simp[Aq]
 ·split<;>simp[Aq]
 ·split<;>simp[Aq]
 ·rfl
def pr (v:AV) (u:Eo):Option (AV×Eo):=some (v,u)
theorem Ad1 (P:Program) (g:A7) (t:TypeId) (p v:AV) (k:AV→Eo→O R):iw P g t p v k=(iw P g t p v pr).bind fun q=>k q.1 q.2:=by
 unfold iw
 split
 ·simp only[Az4,Aq]
  congr 1;funext x;congr 1;funext n;congr 1;congr 1
  split<;>simp[Aq,pr]
 ·rfl
theorem bO (P:Program) (c:LA) (org:Bool):∀ (L:List (Nat×TypeId)) (e:LA) (k:LA→O R),d9 P c org L e k=(d9 P c org L e some).bind k
 | [],e,k=>rfl
 | (off,t)::L,e,k=>by
  rw[d9,d9,Aq]
  congr 1
  rw[U8,U8 (k:=fun v=>d9 P c org L (e++[v]) some),Az4]
  congr 1;funext v
  exact bO P c org L _ k
theorem l7 (P:Program) (co:Bool) (t:TypeId) (v:AV) (k:AV→O R):iy P co t v k=(iy P co t v some).bind k:=by
 unfold iy
 split
 ·rename_i c org
  rw[bO,bO (k:=fun l=>cond (beq c.length l.length) (some (AV.agg l)) none),Az4]
  congr 1;funext l
  rw[Aq];rfl
 ·rfl
theorem xg (P:Program) (g:A7) (d:Nat) (t:TypeId) (v:AV) (k:AV→Eo→O R):Adc P g d t v k=(Adc P g d t v pr).bind fun q=>k q.1 q.2:=by
 unfold Adc
 split<;>simp[Az4,Aq,pr]
theorem jQ (P:Program) (g:A7) (d:Nat) (t:TypeId) (len:Nat) (ps:List (Nat×AV)) (k:AV→Eo→O R):Ri P g d t len ps k=(Ri P g d t len ps pr).bind fun q=>k q.1 q.2:=by
 unfold Ri
 split<;>simp[Az4,Aq,pr,IA]
theorem nz (P:Program) (g:A7) (d:Nat) (t:TypeId) (len:Nat) (ps:List (Nat×AV)) (k:AV→Eo→O R):Uy P g d t len ps k=(Uy P g d t len ps pr).bind fun q=>k q.1 q.2:=by
 unfold Uy
 split<;>simp[Az4,Aq,pr]
theorem An1 (P:Program) (t:TypeId) (co:Bool) (d:Nat) (v:AV) (k:AV→Eo→O R):Ano P t co d v k=(Ano P t co d v pr).bind fun q=>k q.1 q.2:=by
 unfold Ano
 split<;>simp[Aq,pr]
theorem Aim (P:Program) (d:Nat) (t:TypeId) (l c:AV) (k:AV→Eo→O R):xT P d t l c k=(xT P d t l c pr).bind fun q=>k q.1 q.2:=by
 unfold xT
 split<;>simp[Az4,Aq,pr]
theorem zi (P:Program) (g:A7) (d:Nat) (t tx:TypeId) (s x:AV) (k:AV→Eo→O R):VX P g d t tx s x k=(VX P g d t tx s x pr).bind fun q=>k q.1 q.2:=by
 unfold VX a_
 split<;>simp[Az4,Aq,pr,Zv]
theorem l8 {α:Type} (e:IntKind):∀ (n:Nat) (c:LA) (f:LA→Option α) (k:α→O R),bB e n c (fun l=>(f l).bind k)=(bB e n c f).bind k
 | 0,_,_,_=>rfl
 | n+1,c,f,k=>by
  simp only[bB,Az4]
  congr 1;funext x;congr 1;funext v
  exact l8 e n _ (fun l=>f (.int e v::l)) k
theorem Ad2 (P:Program) (e sz b off n:Nat) (y:Blk) (new:LA×Nat×Bool) (k:AV→Eo→O R):iz P e sz b off n y new k=(iz P e sz b off n y new pr).bind fun q=>k q.1 q.2:=by
 unfold iz
 split
 ·rw[Aq,←l8];rfl
 ·rfl
theorem Ain (P:Program) (g:A7) (t:TypeId) (s x:AV) (k:AV→Eo→O R):xU P g t s x k=(xU P g t s x pr).bind fun q=>k q.1 q.2:=by
 unfold xU a_
 split
 ·simp only[Az4,Aq,Zv,←Ad2];rfl
 ·simp[Az4,Aq,pr,Zv]
 ·rfl
theorem zj (P:Program) (g:A7) (d:Nat) (t:TypeId) (k:AV→Eo→O R):VW P g d t k=(VW P g d t pr).bind fun q=>k q.1 q.2:=by
 unfold VW
 split<;>simp[Aq,pr]
theorem Ad3 (P:Program) (g:A7) (t:TypeId) (s:AV) (k:AV→Eo→O R):jA P g t s k=(jA P g t s pr).bind fun q=>k q.1 q.2:=by
 unfold jA
 split<;>simp[Az4,Aq,pr]
theorem Aio (P:Program) (g:A7) (d:Nat) (src dst:TypeId) (x:AV) (k:AV→Eo→O R):xV P g d src dst x k=(xV P g d src dst x pr).bind fun q=>k q.1 q.2:=by
 unfold xV
 split
 ·split<;>simp[Aq,pr]
 ·split
  ·split<;>simp[pr]
  ·split
   ·split<;>simp[Az4,pr]
   ·rfl
  ·rfl
 ·split
  ·rw[Aq,Az4];simp only[Aq];rfl
  ·rfl
  ·rfl
 ·rfl
theorem Ad4 (P:Program) (g:A7) (d:Nat) (src dst:TypeId) (x:AV) (k:AV→Eo→O R):jB P g d src dst x k=(jB P g d src dst x pr).bind fun q=>k q.1 q.2:=by
 unfold jB
 split
 ·split
  ·simp only[Az4,Aq];rfl
  ·rfl
 ·split
  ·simp only[Az4,Aq];rfl
  ·rfl
 ·exact Aio ..
theorem oA (g:A7) (x:AV) (k:AV→Eo→O R):Uz g x k=(Uz g x pr).bind fun q=>k q.1 q.2:=by
 unfold Uz
 split
 ·rfl
 ·simp only[Az4,Aq];rfl
 ·rfl
theorem oB (P:Program) (g:A7) (t:TypeId) (x n:AV) (k:AV→Eo→O R):U0 P g t x n k=(U0 P g t x n pr).bind fun q=>k q.1 q.2:=by
 unfold U0
 split
 ·rw[Aq];rfl
 ·simp only[Az4]
  congr 1;funext y;congr 1;funext q
  split
  ·simp only[Az4,Aq];rfl
  ·rfl
 ·rfl
theorem bR {R':Type} {f:R'→O R} {s1:TypeId→LA→LA→(Bool→Option R')→Option R'} {s2:TypeId→LA→LA→(Bool→O R)→O R} (hs:∀ t x y k,(s1 t x y k).bind f=s2 t x y fun b=>(k b).bind f) {x y:LA} :
  ∀ (l:List (Nat×TypeId)) (k:Bool→Option R'),(HT s1 x y l k).bind f=HT s2 x y l fun b=>(k b).bind f
 | [],k=>rfl
 | (o,t)::r,k=>by
  rw[HT,HT,hs]
  congr 1;funext b
  exact bR hs r _
theorem WD {R':Type} {f:R'→O R} (P:Program):∀ (d:Nat) (t:TypeId) (x y:LA) (k:Bool→Option R'),(nv P d t x y k).bind f=nv P d t x y fun b=>(k b).bind f
 | 0,t,x,y,k=>rfl
 | d+1,t,x,y,k=>by
  rw[nv,nv]
  split<;>simp only[Az4,Aq,A4g]
  ·congr 1;funext sz;rw[bR (WD P d)]
  ·congr 1;funext s;congr 1;funext sz;rw[bR (WD P d)]
theorem Aip (P:Program) (t:TypeId) (op:BinOp) (x y:AV) (k:AV→O R):xQ P t op x y k=(xQ P t op x y some).bind k:=by
 unfold xQ
 split
 ·rw[Az4]
  congr 1;funext s
  rw[Aq]
  congr 1
  split
  ·rw[WD];rfl
  ·rw[WD];rfl
  ·rfl
 ·exact An0 ..
theorem ql (P:Program) (g:A7) (t:TypeId) (op:BinOp) (x y:AV) (k:AV→O R):xY P g t op x y k=(xY P g t op x y some).bind k:=by
 unfold xY
 split
 ·rw[Aq];congr 1;split<;>rfl
 ·exact Aip ..
theorem qn (c x y:AV) (k:AV→O R):x9 c x y k=(x9 c x y some).bind k:=by
 unfold x9
 split<;>first | rfl | (rw[Aq];rfl)
theorem Ad5 (P:Program) (g:A7) (co:Bool) (d:Nat) (t:TypeId) (k:AV→Eo→O R):ix P g co d t k=(ix P g co d t pr).bind fun q=>k q.1 q.2:=by
 unfold ix
 split
 ·rw[Az4];rfl
 ·exact xg ..
 ·rfl
theorem qo:∀ (T:List (Nat×Tw)) (f:Nat) (e:LA) (h:Az) (k:AV→Az→O R),d_ T f e h k=(d_ T f e h fun v h'=>some (v,h')).bind fun p=>k p.1 p.2
 | [],f,e,h,k=>rfl
 | (g,t)::r,f,e,h,k=>by
  rw[d_,d_]
  cases beq g f
  ·exact qo r f e h k
  ·exact t.eq e h k
theorem Aiq (E:Env) (g:A7) (d f:Nat) (e:LA) (k:AV→Eo→O R):xZ E g d f e k=(xZ E g d f e pr).bind fun q=>k q.1 q.2:=by
 unfold xZ
 rw[Az4]
 congr 1;funext q
 simp only[Aq,A4g]
 congr 1
 rw[qo,qo (R:=AV×Eo),Az4]
 congr 1;funext p
 simp only[Aq,A4g,pr,A1q]
theorem vX (d:Nat) (o:Option AV) (k:AV→Eo→O R):BR d o k=(BR d o pr).bind fun q=>k q.1 q.2:=by
 unfold BR
 split<;>rfl
theorem Ad6 (P:Program) (g:A7) (t:TypeId) (m x y:AV) (k:AV→Eo→O R):jC P g t m x y k=(jC P g t m x y pr).bind fun q=>k q.1 q.2:=by
 unfold jC
 split<;>simp[Aq,Az4,pr]
theorem Ad7 (P:Program) (d:Nat) (t:TypeId) (x:AV) (k:AV→Eo→O R):jD P d t x k=(jD P d t x pr).bind fun q=>k q.1 q.2:=by
 unfold jD
 split<;>rfl
theorem Air (g:A7) (it:AV) (b:Bool) (k:AV→Eo→O R):xX g it b k=(xX g it b pr).bind fun q=>k q.1 q.2:=by
 unfold xX
 split
 ·rw[Az4];congr 1;funext x
  rw[Aq];congr 1
  split
  ·rename_i s p _
   cases decide (p<(s.length:Int))<;>rfl
  ·rfl
 ·rfl
theorem qp (P:Program) (g:A7) (t:TypeId) (m x:AV) (c:Bool) (k:AV→O R):xW P g t m x c k=(xW P g t m x c some).bind k:=by
 unfold xW
 split<;>simp[Aq,Az4]
theorem An2 (E:Env) (g:A7) (d:Nat) (v:Operand→AV) (o:Op) (k:AV→Eo→O R):vS E g d v o k=(vS E g d v o pr).bind fun q=>k q.1 q.2:=by
 unfold vS
 split
 ·rfl
 ·rfl
 ·rw[qn,qn (k:=fun r=>pr r []),Az4];rfl
 ·rw[Aq,←zj,←Ad5]
 ·rw[l7,l7 (k:=fun u=>Adc E.P g d _ u pr),Az4];congr 1;funext u;exact xg ..
 ·rw[bG,bG,Az4];congr 1;funext x;exact An1 ..
 ·rw[Aq,←nz,←jQ]
 ·rw[LX,LX (k:=fun r=>pr r []),Az4];rfl
 ·exact Ad1 ..
 ·split<;>rfl
 ·rw[ql,ql (k:=fun r=>pr r []),Az4];rfl
 ·rw[Az4];rfl
 ·exact Ad4 ..
 ·rw[Aq];rfl
 ·exact Aim ..
 ·rw[lZ,lZ (k:=fun r=>pr r []),Az4];rfl
 ·rw[PJ,PJ (k:=fun r=>pr r []),Az4];rfl
 ·rw[lX,lX (k:=fun r=>pr r []),Az4];rfl
 ·rw[PI,PI (k:=fun r=>pr r []),Az4];rfl
 ·rw[lY,lY (k:=fun r=>pr r []),Az4];rfl
 ·exact vX ..
 ·exact Ad6 ..
 ·rw[qp,qp (k:=fun r=>pr r []),Az4];rfl
 ·exact Ad7 ..
 ·exact Air ..
 ·split
  ·rw[Az4];rfl
  ·rfl
 ·split
  ·split
   ·rw[Az4];rfl
   ·rfl
  ·split
   ·exact zi ..
   ·rfl
  ·split
   ·exact Ain ..
   ·rfl
  ·split
   ·exact Ad3 ..
   ·rfl
  ·split
   ·rw[Az4];rfl
   ·simp only[Az4];rfl
   ·rfl
  ·split
   ·rw[Az4];rfl
   ·simp only[Az4];rfl
   ·rfl
  ·split
   ·exact oA ..
   ·rfl
  ·split
   ·exact oB ..
   ·rfl
  ·split
   ·rw[Aq,←Aiq,Aq];congr 1;congr 1
    split<;>rfl
   ·rfl
  ·rfl
 ·rfl
end
end Gx
namespace Gx
open Go
theorem IC:∀ {l j:List Nat} {b:Nat},b ∈ lJ l j↔b ∈ l∨b ∈ j
 | [],j,b=>by simp[lJ]
 | i::r,j,b=>by
  rw[lJ]
  cases k:Ip j i with
  | true =>
   simp only[cond_true]
   rw[IC]
   have:=Lf.1 k
   constructor
   ·rintro(h | h)
    ·exact .inl (by simp[h])
    ·exact .inr h
   ·rintro(h | h)
    ·rcases Az7.1 h with e | h
     ·subst e;exact .inr this
     ·exact .inl h
    ·exact .inr h
  | false =>
   simp only[cond_false]
   rw[IC]
   simp only[Az7]
   constructor
   ·rintro(h | h | h)
    ·exact .inl (.inr h)
    ·exact .inl (.inl h)
    ·exact .inr h
   ·rintro((h | h) | h)
    ·exact .inr (.inl h)
    ·exact .inl h
    ·exact .inr (.inr h)
theorem EL {g g':A7}:∀ {l:List Nat},(∀ b ∈ l,g' b=g b)→Ld g' l=Ld g l
 | [],_=>rfl
 | i::r,h=>by
  rw[Ld,Ld,h i (by simp),EL (fun b e=>h b (by simp[e]))]
theorem eC {g:A7}:∀ {a b:List Nat},Ld g (a++b)=Ld g a++Ld g b
 | [],b=>rfl
 | i::r,b=>by rw[A0u,Ld,Ld,eC,A10]
theorem Ad8 {g g':A7} {ids:List Nat} (h:∀ b ∈ BS g ids,g' b=g b):BS g' ids=BS g ids:=by
 have j:∀ b ∈ ids,g' b=g b:=fun b e=>h b (IC.2 (.inl (A0f.2 (.inl e))))
 have e1:Ld g' ids=Ld g ids:=EL j
 have k:∀ b ∈ Ld g ids,g' b=g b:=fun b e=>h b (IC.2 (.inl (A0f.2 (.inr (by rw[eC];exact A0f.2 (.inl e))))))
 unfold BS
 rw[e1,EL (l:=ids++Ld g ids) (fun b e=>by
  rcases A0f.1 e with e | e
  ·exact j b e
  ·exact k b e)]
section
variable {R:Type} {E:Env} {ops:Array Oper} {o p:Oper} {st xe st2:St}
theorem l_ {v v':Operand→AV} {parts:Array (Nat×Operand)} (h:∀ q ∈ parts.toList,v' q.2=v q.2):(parts.toList.map fun q=>(q.1,v' q.2))=(parts.toList.map fun q=>(q.1,v q.2)) :=
 A32 (fun q hq=>by rw[h q hq])
theorem Ais {g:A7} {d:Nat} {v v':Operand→AV} {op:Op} {k:AV→Eo→O R} (h:∀ x ∈ op.operands.toList,v' x=v x):vS E g d v' op k=vS E g d v op k:=by
  unfold vS
  cases op
  case build t parts =>
    simp only
    rw[l_ (v:=v) (v':=v') (fun q hq=>h q.2 (by simp[Op.operands];exact⟨q.1,by simpa using hq⟩))]
  case buildSlice t n parts =>
    simp only
    rw[l_ (v:=v) (v':=v') (fun q hq=>h q.2 (by simp[Op.operands];exact⟨q.1,by simpa using hq⟩))]
  case slice t x lo hi mx =>
    simp only
    have e:v' x=v x:=h x (by simp[Op.operands])
    have u:lo.map v'=lo.map v:=by
      cases lo with
      | none=>rfl
      | some y=>simp;exact h y (by simp[Op.operands])
    have z:hi.map v'=hi.map v:=by
      cases hi with
      | none=>rfl
      | some y=>simp;exact h y (by simp[Op.operands])
    have A:mx.map v'=mx.map v:=by
      cases mx with
      | none=>rfl
      | some y=>simp;exact h y (by simp[Op.operands])
    rw[e,u,z,A]
  case makeMap t rr =>
    simp only
    have e:rr.map v'=rr.map v:=by
      cases rr with
      | none=>rfl
      | some y=>simp;exact h y (by simp[Op.operands])
    rw[e]
  case makeFunc f first caps =>
    cases f<;>try rfl
    simp only
    have:(first.toList++caps.toList).map v'=(first.toList++caps.toList).map v:=A32 (fun x s=>h x (by simp[Op.operands];simpa using s))
    rw[this]
  case call c =>
    have j:∀ x ∈ c.args.toList,v' x=v x:=fun x s=>h x (by
      simp only[Op.operands,Call.operands,Array.toList_append]
      exact A0f.2 (.inr s))
    have B:c.args.toList.map v'=c.args.toList.map v:=A32 j
    simp only
    cases C:c.callee with
    | value f =>
      have D:v' f=v f:=h f (by simp[Op.operands,Call.operands,C])
      simp only[D,B]
    | invoke a b=>rfl
    | builtin b =>
      cases b<;>try rfl
      all_goals
        simp only
        split
        · first
            | (rename_i e u
               simp only[e,Az7,A08,or_false,forall_eq_or_imp,forall_eq] at j
               simp only[j])
            | (rename_i e
               simp only[e,Az7,A08,or_false,forall_eq_or_imp,forall_eq] at j
               simp only[j])
        all_goals first
          | rfl
          | (rename_i e
             simp only[e,Az7,A08,or_false,forall_eq_or_imp,forall_eq] at j
             simp only[j])
  all_goals first
    | rfl
    | (simp[Op.operands] at h;simp[h])
end
end Gx
namespace Gx
open Go
section
variable {R:Type} {E:Env} {ops:Array Oper} {o p:Oper} {st xe st2 st3:St}
def Al5 (ops:Array Oper) (o:Oper):List Nat:=match VY ops o with | some p=>[p.1] | none=>[]
def GP (o:Oper) (s:Gp):LA:=o.op.operands.toList.map (ev s)
def zk (h:Az) (F:List Nat):A7:=fun b=>cond (Ip F b) (An h b) none
def Azb (o:Oper):Nat:=o.dst.getD 50000
def Ug (E:Env) (ops:Array Oper) (o:Oper) (st:St):Option (AV×Eo×Foot) :=
  (LL ops st.s o).bind fun wanted=>cond wanted
    ((vS E (zk st.h (Yn st.h o.op (GP o st.s))) (Azb o) (ev st.s) o.op pr).bind fun q =>
      cond (YN (Azb o) (Yn st.h o.op (GP o st.s)) st.h q.2) (some (q.1,q.2,{ r:=Al5 ops o++bE o.op.operands.toList,w:=o.dst,f:=Yn st.h o.op (GP o st.s),u:=q.2.map (·.1) })) none)
    (some (.tup [],[],{ r:=Al5 ops o,w:=o.dst,f:=[],u:=[] }))
def after (E:Env) (o:Oper) (st:St) (q:AV×Eo×Foot):St:={ s:=Ah8 E.nt st.s o.dst q.1,h:=Am q.2.1 st.h }
theorem WE (k:St→Foot→O R):Adf E ops o st k=(Ug E ops o st).bind fun q=>k (after E o st q) q.2.2:=by
 unfold Adf Ug
 rw[Az4]
 congr 1;funext t
 rw[Aq]
 congr 1
 rw[An2,Az4]
 congr 1;funext q
 rw[Aq]
 rfl
theorem qq:∀ {l:List Operand} {t:Nat},Operand.tmp t ∈ l→t ∈ bE l
 | [],t,h=>by simp at h
 | x::r,t,h=>by
  rcases Az7.1 h with e | h'
  ·subst e;simp[bE]
  ·have j:=qq h'
   cases x<;>simp[bE]<;>first | exact .inr j | exact j
theorem lc {d:Nat} {F:List Nat} {h e:Az}:∀ {ups:Eo},(∀ b ∈ ups.map (·.1),An e b=An h b)→YN d F e ups=YN d F h ups
 | [],_=>rfl
 | (b,_)::r,hh=>by rw[YN,YN,hh b (by simp),lc (fun c j=>hh c (by simp at j ⊢;exact .inr j))]
theorem YU {s s2:Gp} (h:∀ t ∈ Al5 ops o,F4 s2 t=F4 s t):LL ops s2 o=LL ops s o:=by
 unfold LL
 cases e:o.guard with
 | none=>rfl
 | some q =>
  obtain⟨j,want⟩:=q
  simp only
  cases k:(ops[j]?).bind (·.dst) with
  | none=>rfl
  | some t =>
   have:F4 s2 t=F4 s t:=h t (by simp[Al5,VY,e,k])
   simp only[this]
theorem RW {q:AV×Eo×Foot} (z:Ug E ops o st=some q) (hr:∀ t ∈ q.2.2.r,F4 st2.s t=F4 st.s t) (e:∀ b,b ∈ q.2.2.f∨b ∈ q.2.2.u→An st2.h b=An st.h b):Ug E ops o st2=some q:=by
 have F:=z
 unfold Ug at z
 obtain⟨t,n,v⟩:=ub z
 cases t with
 | false =>
  simp at v;subst v
  unfold Ug
  rw[YU (s:=st.s) hr,n];rfl
 | true =>
  rw[cond_true] at v
  obtain⟨x,G,I⟩:=ub v
  obtain⟨L,C⟩:=uc I
  simp at C;subst C
  simp only at hr e
  have D:∀ y ∈ o.op.operands.toList,ev st2.s y=ev st.s y:=fun y S=>by
   cases y with
   | tmp t=>exact hr t (A0f.2 (.inr (qq S)))
   | const _=>rfl
   | global _=>rfl
   | func _=>rfl
  have j:GP o st2.s=GP o st.s:=A32 D
  have hF:Yn st2.h o.op (GP o st.s)=Yn st.h o.op (GP o st.s):=by
   unfold Yn at e ⊢
   cases A:Alx o.op with
   | true =>
    rw[A] at e
    cases B:Aly o.op with
    | true=>rfl
    | false=>rw[B] at e;exact Ad8 (fun b k=>e b (.inl k))
   | false=>rfl
  have T:zk st2.h (Yn st.h o.op (GP o st.s))=zk st.h (Yn st.h o.op (GP o st.s)):=by
   funext b
   unfold zk
   cases k:Ip (Yn st.h o.op (GP o st.s)) b with
   | false=>rfl
   | true=>simp only[cond_true];exact e b (.inl (Lf.1 k))
  unfold Ug
  rw[YU (s:=st.s) (fun t n=>hr t (A0f.2 (.inl n))),n]
  simp only[A1q,cond_true]
  rw[j,hF,T,Ais D,G]
  simp only[A1q]
  rw[lc (h:=st.h) (fun b k=>e b (.inr k)),L]
  rfl
theorem WF:∀ {ups:Eo} {b:Nat},A4 ups b=true↔b ∈ ups.map (·.1)
 | [],b=>by simp[A4]
 | (i,_)::r,b=>by
  rw[A4]
  cases hi:beq i b with
  | true=>have:=A0j hi;subst this;simp
  | false =>
   have ne:=Y9 hi
   simp only[cond_false]
   rw[WF]
   simp only[A0n,Az7]
   constructor
   ·exact fun h=>.inr h
   ·rintro(h | h)
    ·exact absurd h.symm ne
    ·exact h
theorem Al6 {q:AV×Eo×Foot} (j:Ug E ops o st=some q):q.2.2.w=o.dst∧q.2.2.u=q.2.1.map (·.1):=by
 unfold Ug at j
 obtain⟨t,s,e⟩:=ub j
 cases t with
 | false=>simp at e;subst e;simp
 | true =>
  rw[cond_true] at e
  obtain⟨x,v,n⟩:=ub e
  obtain⟨z,k⟩:=uc n
  simp at k;subst k;simp
theorem Gr:∀ (ups:Eo) {h e:Az},(∀ b,An e b=An h b)→∀ b,An (Am ups e) b=An (Am ups h) b
 | [],_,_,hh,b=>hh b
 | (i,some x)::r,h,e,hh,b=>Gr r (fun c=>by rw[Aj,Aj,hh c]) b
 | (i,none)::r,h,e,hh,b=>by
  rw[Am,Am]
  refine Gr r (fun c=>?_) b
  rw[hh i]
  split
  ·rw[Aj,Aj,hh c]
  ·exact hh c
theorem Ad9 {q:AV×Eo×Foot} (h:Eqv st st2):Eqv (after E o st q) (after E o st2 q):=by
 refine⟨fun t=>?_,fun b=>?_⟩
 ·unfold after;simp only;rw[N5,N5,h.1 t]
 ·exact(Gr q.2.1 (fun b=>(h.2 b).symm) b).symm
theorem Sf {i:Nat} {y:Blk}:∀ (ups:Eo) {h:Az},A4 ups i=false→∀ b,An (Am ups (Ff h i y)) b=if b=i then some y else An (Am ups h) b
 | [],h,_,b=>Aj h i y b
 | (j,some x)::r,h,hi,b=>by
  rw[A4] at hi
  cases e:beq j i with
  | true=>rw[e] at hi;simp at hi
  | false =>
   rw[e] at hi
   have ne:=Y9 e
   rw[Am,Am,Gr r (h:=Ff (Ff h j x) i y) (fun c=>by
    rw[Aj,Aj,Aj,Aj]
    by_cases e1:c=j
    ·subst e1;simp[ne]
    ·simp[e1]) b]
   exact Sf r hi b
 | (j,none)::r,h,hi,b=>by
  rw[A4] at hi
  cases e:beq j i with
  | true=>rw[e] at hi;simp at hi
  | false =>
   rw[e] at hi
   have ne:=Y9 e
   rw[Am,Am,Aj,if_neg ne]
   split
   ·rename_i x k
    rw[Gr r (h:=Ff (Ff h j { x with dead:=true,pure:=true,cells:=[] }) i y) (fun c=>by
     rw[Aj,Aj,Aj,Aj]
     by_cases e1:c=j
     ·subst e1;simp[ne]
     ·simp[e1]) b]
    exact Sf r hi b
   ·exact Sf r hi b
theorem Wi:∀ (u1 u2:Eo) (h:Az),(∀ b,A4 u1 b=true→A4 u2 b=false)→∀ b,An (Am u2 (Am u1 h)) b=An (Am u1 (Am u2 h)) b
 | [],u2,h,_,b=>rfl
 | (i,some x)::r,u2,h,e,b=>by
  rw[Am,Am]
  have hi:A4 u2 i=false:=e i (by simp[A4])
  rw[Wi r u2 (Ff h i x) (fun c j=>e c (by rw[A4,j];cases beq i c<;>rfl)) b]
  refine Gr r (fun c=>?_) b
  rw[Sf u2 hi,Aj]
 | (i,none)::r,u2,h,e,b=>by
  rw[Am,Am]
  have hi:A4 u2 i=false:=e i (by simp[A4])
  rw[Ck u2 h i hi]
  split
  ·rename_i x k
   rw[Wi r u2 _ (fun c j=>e c (by rw[A4,j];cases beq i c<;>rfl)) b]
   refine Gr r (fun c=>?_) b
   rw[Sf u2 hi,Aj]
  ·exact Wi r u2 h (fun c j=>e c (by rw[A4,j];cases beq i c<;>rfl)) b
theorem qr:∀ {a l:List Nat},Ade a l=true→∀ b ∈ a,b ∉ l
 | [],l,_,b,j=>by simp at j
 | i::r,l,h,b,j=>by
  rw[Ade] at h;simp at h
  rcases Az7.1 j with e | j
  ·subst e;intro k;rw[Lf.2 k] at h;simp at h
  ·exact qr h.2 b j
theorem qs {q:AV×Eo×Foot} {t:Nat} (h:o.dst≠some t):F4 (after E o st q).s t=F4 st.s t:=by
 unfold after;simp only;rw[N5,if_neg (fun hh=>h hh.1)]
theorem qt {q:AV×Eo×Foot} {b:Nat} (h:b ∉ q.2.1.map (·.1)):An (after E o st q).h b=An st.h b:=by
 unfold after;simp only
 rw[Ck]
 cases hi:A4 q.2.1 b with
 | false=>rfl
 | true=>exact absurd (WF.1 hi) h
theorem xh {w:Option Nat} {l:List Nat} (h:Ayf w l=false):∀ t ∈ l,w≠some t:=by
 intro t j e
 subst e
 rw[Ayf,Lf.2 j] at h;cases h
theorem Ayo {k e:AV×Eo×Foot} (z:Ug E ops p st=some k) (A:Ug E ops o (after E p st k)=some e) (hi:lK k.2.2 e.2.2=true) :
  Ug E ops o st=some e∧Ug E ops p (after E o st e)=some k∧Eqv (after E p (after E o st e) k) (after E o (after E p st k) e):=by
 unfold lK at hi
 simp only[A0a,A3a] at hi
 obtain⟨⟨⟨⟨i1,i2⟩,i3⟩,i4⟩,i5⟩:=hi
 obtain⟨B,u1⟩:=Al6 z
 obtain⟨C,u2⟩:=Al6 A
 have s:=qr i4
 have D:=qr i5
 have a1:Ug E ops o st=some e:=RW A (fun t v=>(qs (by rw[←B];exact xh i1 t v)).symm) (fun b j=>(qt (fun q=>by
  rw[←u1] at q
  exact s b q (by rcases j with j | j<;>simp[j]))).symm)
 have a2:Ug E ops p (after E o st e)=some k:=RW z (fun t v=>qs (by rw[←C];exact xh i2 t v)) (fun b j=>qt (fun q=>by
  rw[←u2] at q
  rcases j with j | j
  ·exact D b q j
  ·exact s b j (by simp[q])))
 refine⟨a1,a2,fun t=>?_,fun b=>?_⟩
 ·unfold after;simp only
  rw[N5,N5,N5,N5]
  by_cases e1:p.dst=some t∧t<E.nt
  ·by_cases n:o.dst=some t∧t<E.nt
   ·exfalso
    rw[B,C,e1.1,n.1] at i3
    simp at i3
   ·rw[if_pos e1,if_neg n,if_pos e1]
  ·by_cases n:o.dst=some t∧t<E.nt
   ·rw[if_neg e1,if_pos n,if_pos n]
   ·rw[if_neg e1,if_neg n,if_neg n,if_neg e1]
 ·unfold after;simp only
  refine(Wi k.2.1 e.2.1 st.h (fun c F=>?_) b).symm
  cases G:A4 e.2.1 c with
  | false=>rfl
  | true =>
   have m1:c ∈ k.2.2.u:=by rw[u1];exact WF.1 F
   have m2:c ∈ e.2.2.u:=by rw[u2];exact WF.1 G
   exact absurd (by simp[m2]) (s c m1)
def RunF (E:Env) (ops:Array Oper) (fp:Nat→Foot):List (Nat×Oper)→St→St→Prop
 | [],st,e=>Eqv st e
 | (i,o)::r,st,e=>∃ q,Ug E ops o st=some q∧q.2.2=fp i∧RunF E ops fp r (after E o st q) e
theorem RunF.congr {fp:Nat→Foot}:∀ {l:List (Nat×Oper)} {st st2 e:St},RunF E ops fp l st e→Eqv st st2→RunF E ops fp l st2 e
 | [],st,st2,e,h,j=>j.symm.trans h
 | (i,o)::r,st,st2,e,h,j=>by
  rw[RunF] at h ⊢
  obtain⟨q,k,n,s⟩:=h
  exact⟨q,RW k (fun t _=>(j.1 t).symm) (fun b _=>(j.2 b).symm),n,RunF.congr s (Ad9 j)⟩
theorem RunF.pull {fp:Nat→Foot} {i:Nat} {o:Oper} {B:List (Nat×Oper)}:∀ {A:List (Nat×Oper)} {st e:St},RunF E ops fp (A++(i,o)::B) st e→(∀ jp ∈ A,lK (fp jp.1) (fp i)=true) →
  ∃ q,Ug E ops o st=some q∧q.2.2=fp i∧RunF E ops fp (A++B) (after E o st q) e
 | [],st,e,h,_=>h
 | (j,p)::A,st,e,h,hA=>by
  rw[A0u,RunF] at h
  obtain⟨k,u,n,v⟩:=h
  obtain⟨s,z,t,C⟩:=RunF.pull v (fun jp D=>hA jp (by simp[D]))
  have hi:lK k.2.2 s.2.2=true:=by rw[n,t];exact hA (j,p) (by simp)
  obtain⟨a1,a2,a3⟩:=Ayo u z hi
  refine⟨s,a1,t,?_⟩
  rw[A0u,RunF]
  exact⟨k,a2,n,RunF.congr C a3.symm⟩
end
end Gx
namespace Gx
open Go
def Al7:Nat→List Oper→List (Nat×Oper)
 | _,[]=>[]
 | n,o::r=>(n,o)::Al7 (n+1) r
theorem pj:∀ {l:List Oper} {n:Nat} {p:Nat×Oper},p ∈ Al7 n l↔n≤p.1∧l[p.1 - n]?=some p.2
 | [],n,p=>by simp[Al7]
 | o::r,n,p=>by
  rw[Al7,Az7,pj]
  constructor
  ·rintro(rfl | ⟨k,j⟩)
   ·simp
   ·refine⟨by omega,?_⟩
    rw[show p.1 - n=(p.1 - (n+1))+1 by omega];simpa using j
  ·rintro⟨k,j⟩
   by_cases e:p.1=n
   ·left
    rw[e] at j;simp at j
    obtain⟨a,b⟩:=p
    simp at e j;subst e j;rfl
   ·right
    refine⟨by omega,?_⟩
    rw[show p.1 - n=(p.1 - (n+1))+1 by omega] at j;simpa using j
theorem qu:∀ (l:List Oper) (n:Nat),(Al7 n l).Pairwise (fun a b=>a.1<b.1)
 | [],n=>List.Pairwise.nil
 | o::r,n=>by
  rw[Al7]
  refine A4x.2 ⟨fun p e=>?_,qu r (n+1)⟩
  have:=(pj.1 e).1
  show n<p.1;omega
section
variable {R:Type} {r:R} {Z:Start} {E:Env} {ops:Array Oper}
def RunL (E:Env) (ops:Array Oper):List Oper→List Foot→St→St→Prop
 | [],[],st,e=>st=e
 | o::l,f::fs,st,e=>∃ st' q,Eqv st st'∧Ug E ops o st'=some q∧q.2.2=f∧RunL E ops l fs (after E o st' q) e
 | _,_,_,_=>False
theorem Aea:∀ {l:List Oper} {st:St} {tr:List Foot} {k:St→List Foot→O R},qQ E ops l st tr k=some r→∃ fs e,k e (fs.reverse++tr)=some r∧RunL E ops l fs st e
 | [],st,tr,k,h=>⟨[],st,by simpa[qQ] using h,rfl⟩
 | o::l,st,tr,k,h=>by
  rw[qQ] at h
  obtain⟨st',j,h⟩:=qg h
  rw[WE] at h
  obtain⟨q,n,s⟩:=ub h
  obtain⟨fs,e,t,u⟩:=Aea s
  exact⟨q.2.2::fs,e,by simpa using t,st',q,j,n,rfl,u⟩
theorem RunL.length:∀ {l:List Oper} {fs:List Foot} {st e:St},RunL E ops l fs st e→fs.length=l.length
 | [],[],_,_,_=>rfl
 | [],_::_,_,_,h=>h.elim
 | _::_,[],_,_,h=>h.elim
 | o::l,f::fs,st,e,⟨_,q,_,_,_,h⟩=>by simp[RunL.length h]
theorem RunL.runF {fp:Nat→Foot}:∀ {l:List Oper} {fs:List Foot} {n:Nat} {st e:St},RunL E ops l fs st e→(∀ (j:Nat) (f:Foot),fs[j]?=some f→fp (n+j)=f)→RunF E ops fp (Al7 n l) st e
 | [],[],n,st,e,h,_=>by subst h;exact Eqv.refl _
 | [],_::_,_,_,_,h,_=>h.elim
 | _::_,[],_,_,_,h,_=>h.elim
 | o::l,f::fs,n,st,e,⟨st',q,s,t,u,v⟩,k=>by
  rw[Al7]
  refine RunF.congr ?_ s.symm
  rw[RunF]
  refine⟨q,t,by rw[u];exact(k 0 f (by simp)).symm,RunL.runF v (fun j g z=>?_)⟩
  have:=k (j+1) g (by simpa using z)
  rwa [show n+(j+1)=n+1+j by omega] at this
theorem ld {f:Foot} {anc:List Nat}:∀ {seen:List Foot} {i:Nat},dn f anc i seen=true→∀ (j:Nat) (g:Foot),seen[j]?=some g→(i+j) ∈ anc∨lK g f=true
 | [],i,_,j,g,e=>by simp at e
 | x::r,i,h,j,g,e=>by
  rw[dn] at h;simp only[A0a,A4m] at h
  cases j with
  | zero =>
   simp at e;subst e
   rcases h.1 with k | k
   ·exact .inl (Lf.1 k)
   ·exact .inr k
  | succ j =>
   have:=ld h.2 j g (by simpa using e)
   rwa [show i+1+j=i+(j+1) by omega] at this
theorem qv:∀ {fs:List Foot} {az9:List (List Nat)} {seen:List Foot},VZ fs az9 seen=true→∀ (i:Nat) (f:Foot),fs[i]?=some f →
  ∃ a,az9[i]?=some a∧∀ (j:Nat) (g:Foot),(seen++fs)[j]?=some g→j<seen.length+i→j ∈ a∨lK g f=true
 | [],az9,seen,_,i,f,e=>by simp at e
 | x::r,[],seen,h,i,f,e=>by simp[VZ] at h
 | x::r,a::az9,seen,h,i,f,e=>by
  rw[VZ] at h;simp only[A0a] at h
  cases i with
  | zero =>
   simp at e;subst e
   refine⟨a,by simp,fun j g k n=>?_⟩
   rw[A1k,if_pos (by omega)] at k
   simpa using ld h.1 j g k
  | succ i =>
   obtain⟨q,s,t⟩:=qv h.2 i f (by simpa using e)
   refine⟨q,by simpa using s,fun j g k n=>t j g ?_ (by simp;omega)⟩
   simpa using k
theorem GQ:∀ {l:List Oper} {e:List (List Nat)} {i:Nat},i<e.length→(Gg l e)[i]?=e[i]?
 | [],e,i,_=>rfl
 | o::r,e,i,hi=>by
  rw[Gg,HZ,GQ (by simp;omega),A1k,if_pos hi]
theorem LY:∀ {l:List Oper} {n:List (List Nat)} {i:Nat} {a:List Nat},(Gg l n)[i]?=some a→n.length≤i→∃ o,l[i - n.length]?=some o ∧
  ∀ k ∈ a,k ∈ LM o∨∃ j t,j ∈ LM o∧j<i∧(Gg l n)[j]?=some t∧k ∈ t
 | [],n,i,a,h,hi=>by
  rw[Gg,A1f hi] at h;cases h
 | o::r,n,i,a,h,hi=>by
  by_cases e:i=n.length
  ·subst e
   rw[Gg,HZ,GQ (by simp)] at h
   simp only[List.getElem?_concat_length,A2z] at h
   refine⟨o,by simp,fun k q=>?_⟩
   rw[←h,IC] at q
   replace q:=q.resolve_right (by simp)
   rcases A0f.1 q with q | q
   ·exact .inl q
   ·right
    obtain⟨j,z,q⟩:=A4i.1 q
    cases u:n[j]? with
    | none=>rw[u] at q;simp at q
    | some t =>
     rw[u] at q;simp at q
     have s:j<n.length:=(A0p.1 u).1
     exact⟨j,t,z,s,by rw[GQ s];exact u,q⟩
  ·rw[Gg,HZ] at h
   obtain⟨o',v,A⟩:=LY h (by simp;omega)
   refine⟨o',?_,fun k q=>?_⟩
   ·simp at v
    rw[show i - n.length=(i - (n.length+1))+1 by omega];simpa using v
   ·rw[Gg,HZ];exact A k q
theorem eD:∀ {l:List Oper} {n i:Nat} {o:Oper},AZ n l=true→l[i]?=some o→∀ e ∈ o.after,RN e=true→e.on<n+i
 | [],n,i,o,_,hi,_,_,_=>by simp at hi
 | x::r,n,i,o,h,hi,e,j,k=>by
  rw[AZ] at h;simp only[A0a] at h
  cases i with
  | zero =>
   simp at hi;subst hi
   have:=A05.1 h.1 e (by simpa using j)
   rw[k] at this;simpa using this
  | succ i =>
   have:=eD h.2 (by simpa using hi) e j k
   omega
theorem xi (e:Edge):Region.binds .any e=RN e:=by
 unfold Region.binds RN
 cases e.ground<;>rfl
theorem Ait {listed:Array Bool} (hclosed:∀ (j:Nat) (o:Oper),ops[j]?=some o→listed.getD j true=true→∀ k ∈ LM o,listed.getD k false=true) :
  ∀ (i:Nat) (a:List Nat) (o:Oper),(Gg ops.toList [])[i]?=some a→ops[i]?=some o→(∀ k ∈ LM o,listed.getD k false=true)→∀ k ∈ a,listed.getD k false=true:=by
 intro i
 induction i using Nat.strongRecOn with
 | _ i A =>
  intro a o B C u k D
  obtain⟨o',q,F⟩:=LY B (by simp)
  simp at q
  rw[C] at q;simp at q;subst q
  rcases F k D with s | ⟨j,G,s,I,v,L⟩
  ·exact u k s
  ·have e:=u j s
   obtain⟨oj,n,_⟩:=LY v (by simp)
   simp at n
   have t:listed.getD j true=true:=by
    rw[A2p] at e ⊢
    cases z:listed[j]? with
    | none=>rw[z] at e;simp at e
    | some b=>rw[z] at e;simpa using e
   exact A j I G oj v n (hclosed j oj n t) k L
def GR (ops:Array Oper) (listed:Array Bool):List (Nat×Oper):=(Al7 0 ops.toList).filter fun p=>!listed.getD p.1 true
theorem RX (listed:Array Bool):(GR ops listed).Pairwise (fun a b=>a.1<b.1):=(qu _ _).filter _
theorem ID {listed:Array Bool} {p:Nat×Oper}:p ∈ GR ops listed↔ops[p.1]?=some p.2∧listed.getD p.1 true=false:=by
 unfold GR
 rw[A23,pj]
 simp
theorem Aeb {listed:Array Bool} {i:Nat} {o:Oper} {A B:List (Nat×Oper)} (h:GR ops listed=A++(i,o)::B):GR ops (listed.setIfInBounds i true)=A++B:=by
 have hi:(i,o) ∈ GR ops listed:=by rw[h];simp
 have j:=(ID.1 hi).2
 have n:i<listed.size:=by
  rw[A2p] at j
  rcases A3q i listed.size with q | q
  ·exact q
  ·rw[A11 q] at j;simp at j
 have t:GR ops (listed.setIfInBounds i true)=(GR ops listed).filter fun p=>!beq p.1 i:=by
  unfold GR
  rw[List.filter_filter]
  congr 1;funext p
  by_cases e:p.1=i
  ·rw[e];simp[n]
  ·rw[getD_set_ne true (fun u=>e u.symm),Q_ e];simp
 rw[t,h,List.filter_append,A3l]
 have hs:=RX (ops:=ops) listed
 rw[h] at hs
 have k:=A5w.1 hs
 have hB:=A4x.1 k.2.1
 have e1:A.filter (fun p=>!beq p.1 i)=A:=A4r.2 (fun p s=>by
  have:p.1<i:=k.2.2 p s (i,o) (by simp)
  rw[Q_ (by omega)];rfl)
 have v:B.filter (fun p=>!beq p.1 i)=B:=A4r.2 (fun p s=>by
  have:i<p.1:=hB.1 p s
  rw[Q_ (by omega)];rfl)
 rw[e1,v];simp
theorem An3 (hC:bI E) {Q:Exit→Act→World→Prop} {fp:Nat→Foot} {e:St} (hfw:AZ 0 ops.toList=true)
  (T:∀ (i j:Nat) (o:Oper),ops[i]?=some o→j<i→∃ a,(Gg ops.toList [])[i]?=some a∧(j ∈ a∨lK (fp j) (fp i)=true))
  (hQ:∀ a' w' J' β',Inv Z E.nt J' β' e a' w'→Q .normal a' w') :
  ∀ (fuel:Nat) (listed:Array Bool) {st:St} {a:Act} {w:World} {J:Bool→Nat→Prop} {β:Cd},listed.size=ops.size→(GR ops listed).length=fuel →
   (∀ (j:Nat) (o:Oper),ops[j]?=some o→listed.getD j true=true→∀ k ∈ LM o,listed.getD k false=true) →
   RunF E ops fp (GR ops listed) st e→Inv Z E.nt J β st a w→wpAny E.P .any ops Q fuel listed a w:=by
 intro fuel
 have fin:∀ (listed:Array Bool) {st:St} {a:Act} {w:World} {J:Bool→Nat→Prop} {β:Cd},GR ops listed=[]→RunF E ops fp (GR ops listed) st e→Inv Z E.nt J β st a w→Region.ready .any ops listed=[]∧Q .normal a w:=by
  intro listed st a w J β hr n I
  refine⟨List.eq_nil_iff_forall_not_mem.2 (fun i hi=>?_),?_⟩
  ·obtain⟨U,o,z,_⟩:=mem_ready.1 hi
   have:(i,o) ∈ GR ops listed:=ID.2 ⟨z,U⟩
   rw[hr] at this;simp at this
  ·rw[hr,RunF] at n
   exact hQ _ _ J β (I.eqv n)
 induction fuel with
 | zero =>
  intro listed st a w J β _ t _ n I
  exact fin listed (A3m.1 t) n I
 | succ fuel ih =>
  intro listed st a w J β V t hclosed n I
  refine⟨fun X=>?_,fun i hi=>?_⟩
  ·
   cases u:GR ops listed with
   | nil=>rw[u] at t;simp at t
   | cons p r =>
    exfalso
    have hp:p ∈ GR ops listed:=by rw[u];simp
    obtain⟨v,hl⟩:=ID.1 hp
    have hs:=RX (ops:=ops) listed
    rw[u] at hs
    have Y:=(A4x.1 hs).1
    have:p.1 ∈ Region.ready .any ops listed:=mem_ready.2 ⟨hl,p.2,v,fun F L hb=>by
     rw[xi] at hb
     have C:=eD hfw (i:=p.1) (o:=p.2) (by simpa using v) F L hb
     simp at C
     have hops:F.on<ops.size:=by have:=(A17.1 v).1;omega
     cases S:listed.getD F.on true with
     | true =>
      rw[A2p] at S ⊢
      rw[Array.getElem?_eq_getElem (by omega)] at S ⊢
      simpa using S
     | false =>
      have hm:(F.on,ops[F.on]) ∈ GR ops listed:=ID.2 ⟨by simp[hops],S⟩
      rw[u] at hm
      rcases Az7.1 hm with e1 | e1
      ·have:F.on=p.1:=by rw[←e1]
       omega
      ·have:=Y _ e1
       simp at this;omega⟩
    rw[X] at this;simp at this
  ·obtain⟨hl,o,v,hall⟩:=mem_ready.1 hi
   have hmem:(i,o) ∈ GR ops listed:=ID.2 ⟨v,hl⟩
   obtain⟨A,B,hAB⟩:=List.append_of_mem hmem
   have G:∀ k ∈ LM o,listed.getD k false=true:=by
    intro k hk
    unfold LM at hk
    obtain⟨F,L,rfl⟩:=A04.1 hk
    obtain⟨U,z⟩:=A23.1 L
    exact hall F (by simpa using U) (by rw[xi];exact z)
   have hs:=RX (ops:=ops) listed
   rw[hAB] at hs
   have hs':=A5w.1 hs
   rw[hAB] at n
   obtain⟨q,g1,g2,g3⟩:=n.pull (fun jp hjp=>by
    have C:jp.1<i:=hs'.2.2 jp hjp (i,o) (by simp)
    obtain⟨an,U,z⟩:=T i jp.1 o v C
    rcases z with z | z
    ·exfalso
     have:=Ait hclosed i an o U v G jp.1 z
     have hjm:jp ∈ GR ops listed:=by rw[hAB];simp[hjp]
     have h3:=(ID.1 hjm).2
     rw[A2p] at this h3
     cases S:listed[jp.1]? with
     | none=>rw[S] at this;simp at this
     | some b=>rw[S] at this h3;simp at this h3;rw[this] at h3;cases h3
    ·exact z)
   have hone:Adf E ops o st (fun s f=>some (s,f))=some (after E o st q,q.2.2):=by rw[WE,g1];rfl
   obtain⟨st',f,h4,h5⟩:=qf (K:=wpAny E.P .any ops Q fuel (listed.setIfInBounds i true)) (Q:=Q) hC I hone
   simp only[A2z,A33] at h4
   obtain⟨rfl,rfl⟩:=h4
   have C:i<listed.size:=by rw[V];exact(A17.1 v).1
   have:=h5 (fun a' w' J' β' I'=>ih (listed.setIfInBounds i true) (by simp[V]) (by
     rw[Aeb hAB];rw[hAB] at t;simp at t ⊢;omega) (fun j oj D hj k hk=>?_) (by rw[Aeb hAB];exact g3) I')
   ·unfold wpOp
    rw[v]
    simp only
    split
    ·rename_i hw;rw[if_pos hw] at this;exact .inl this
    ·rename_i hw;rw[if_neg hw] at this;exact this
   ·by_cases e1:j=i
    ·subst e1
     rw[v] at D;simp at D;subst D
     exact getD_set_true (G k hk)
    ·rw[getD_set_ne true (fun e'=>e1 e'.symm)] at hj
     exact getD_set_true (hclosed j oj D hj k hk)
end
end Gx
namespace Gx
open Go
section
variable {R:Type} {r:R} {Z:Start} {E:Env}
theorem vY (hC:bI E) (X:E.P.follows .mixedOrders=true) {roots:List Nat} {id:Nat} {ops:Array Oper} {draw:Bool} {st:St} {k:St→O R} {a:Act} {w:World} {J:Bool→Nat→Prop} {β:Cd} {Q:Exit→Act→World→Prop}
  (I:Inv Z E.nt J β st a w) (hh:V_ E roots ops draw st k=some r) (hQ:∀ st' t w' J' β',Inv Z E.nt J' β' st' t w'→k st'=some r→Q .normal t w'):(Code.region id ops draw).wp E.P Q a w:=by
 unfold V_ at hh
 have done:∀ {st':St} {tr:List Foot} {t:Act} {w':World} {J':Bool→Nat→Prop} {β':Cd},Inv Z E.nt J' β' st' t w' →
   cond (!draw||(AZ 0 ops.toList&&VZ tr.reverse (Gg ops.toList []) [])) ((clean (st'.s.map (·.1)) roots st').bind k) none=some r→Q .normal t w':=by
  intro st' tr t w' J' β' I' h'
  obtain⟨_,F⟩:=uc h'
  obtain⟨st2,G,U⟩:=ub F
  obtain⟨β2,I2⟩:=Ad0 I' G
  exact hQ _ _ _ _ _ I2 U
 cases draw with
 | false=>exact wp_region_list (qh hC _ I hh (fun st' Y t w' J' β' I' h'=>done I' h'))
 | true =>
  obtain⟨fs,e,F,G⟩:=Aea hh
  obtain⟨V,U⟩:=uc F
  simp at V
  obtain⟨L,A⟩:=V
  have B:=G.length
  refine wp_region_any X ?_
  have I':Inv Z E.nt J β st a w.drew:=I.step (Step.drew I.sim) (fun b x hx hn=>by rw[hx] at hn;cases hn)
  have q:GR ops (Array.replicate ops.size false)=Al7 0 ops.toList:=by
   unfold GR
   refine A4r.2 (fun p hp=>?_)
   have:=(pj.1 hp).2
   have v:p.1<ops.size:=by
    simp at this
    exact(A17.1 this).1
   simp[v]
  have C:(Al7 0 ops.toList).length=ops.size:=by
   have:∀ (l:List Oper) (n:Nat),(Al7 n l).length=l.length:=by
    intro l
    induction l with
    | nil=>intro n;rfl
    | cons o r ih=>intro n;simp[Al7,ih]
   rw[this];simp
  have D:RunF E ops (fun i=>fs.getD i { r:=[],w:=none,f:=[],u:=[] }) (Al7 0 ops.toList) st e:=G.runF (fun j f z=>by simp[z])
  refine An3 hC (fp:=fun i=>fs.getD i { r:=[],w:=none,f:=[],u:=[] }) (e:=e) L (fun i j o S T=>?_) (fun t w' J' β' Ie=>done (tr:=fs.reverse++[]) Ie F) ops.size _ (by simp) (by rw[q,C]) (fun j o S z=>?_) (by rw[q];exact D) I'
  ·have hi:i<fs.length:=by rw[B];simpa using(A17.1 S).1
   obtain⟨an,g1,g2⟩:=qv A i fs[i] (Az6 hi)
   refine⟨an,g1,?_⟩
   have z:j<fs.length:=by omega
   have:=g2 j fs[j] (by simp[z]) (by simpa using T)
   simpa[hi,z] using this
  ·exfalso
   have v:j<ops.size:=(A17.1 S).1
   simp[v] at z
end
end Gx
namespace Gx
open Go
theorem eE (ρ:Nat→Nat):∀ c:LA,(Y8 ρ c).length=c.length
 | []=>rfl
 | x::r=>by rw[Y8,Az5,Az5,eE ρ r]
theorem Mu (ρ:Nat→Nat) (x:Blk):(EE ρ x).cells.length=x.cells.length:=by
 unfold EE;cases x.pure
 ·simp;exact eE _ _
 ·rfl
theorem xj {ρ:Nat→Nat}:∀ {c:LA} {j:Nat} {y:AV},(Y8 ρ c)[j]?=some y→∃ x,c[j]?=some x∧y=XM ρ x
 | [],j,y,e=>by simp[Y8] at e
 | x::r,j,y,e=>by
  rw[Y8] at e
  cases j with
  | zero=>simp at e;exact⟨x,by simp,e.symm⟩
  | succ j=>obtain⟨x',k,n⟩:=xj (c:=r) (j:=j) (by simpa using e);exact⟨x',by simpa using k,n⟩
section
variable {R:Type} {r:R} {J J':Bool→Nat→Prop} {β β':Cd} {h h':Az} {w w':World} {ids:List Nat} {ρ:Nat→Nat}
theorem N6 {g:A7}:∀ {ids:List Nat},(ids.map ρ).Nodup→∀ c y,An (sub g ρ ids) c=some y→∃ b x,b ∈ ids∧ρ b=c∧g b=some x∧y=EE ρ x
 | [],_,c,y,j=>by simp[sub,An] at j
 | b::r,hn,c,y,j=>by
  rw[A0n,A1s] at hn
  rw[sub] at j
  split at j
  ·rename_i x u
   rw[Aj] at j
   by_cases e:c=ρ b
   ·rw[if_pos e] at j;simp at j
    exact⟨b,x,by simp,e.symm,u,j.symm⟩
   ·rw[if_neg e] at j
    obtain⟨k,x',n,q,s,t⟩:=N6 hn.2 c y j
    exact⟨k,x',by simp[n],q,s,t⟩
  ·obtain⟨k,x',n,q,s,t⟩:=N6 hn.2 c y j
   exact⟨k,x',by simp[n],q,s,t⟩
theorem EM {g:A7}:∀ {ids:List Nat},(ids.map ρ).Nodup→∀ b x,b ∈ ids→g b=some x→An (sub g ρ ids) (ρ b)=some (EE ρ x)
 | [],_,b,x,j,_=>by simp at j
 | q::r,hn,b,x,j,k=>by
  rw[A0n,A1s] at hn
  rw[sub]
  by_cases e:b=q
  ·subst e
   rw[k]
   simp only
   rw[Aj,if_pos rfl]
  ·have n:b ∈ r:=by simpa[e] using j
   have ne:ρ b≠ρ q:=fun h=>hn.1 (by rw[←h];exact A04.2 ⟨b,n,rfl⟩)
   split
   ·rw[Aj,if_neg ne];exact EM hn.2 b x n k
   ·exact EM hn.2 b x n k
def Arj (ρ:Nat→Nat) (ids:List Nat) (c:Nat):Option Nat:=ids.find? fun b=>beq (ρ b) c
theorem Ark (hn:(ids.map ρ).Nodup) {b:Nat} (j:b ∈ ids):Arj ρ ids (ρ b)=some b:=by
 induction ids with
 | nil=>simp at j
 | cons i r k =>
  rw[A0n,A1s] at hn
  unfold Arj at k ⊢
  rw[List.find?_cons]
  by_cases e:b=i
  ·subst e;simp
  ·have n:b ∈ r:=by simpa[e] using j
   have ne:ρ i≠ρ b:=fun h=>hn.1 (by rw[h];exact A04.2 ⟨b,n,rfl⟩)
   rw[Q_ ne];exact k hn.2 n
def PK (ρ:Nat→Nat) (ids:List Nat) (β:Cd):Cd:=fun c=>(Arj ρ ids c).bind β
theorem Gs (hn:(ids.map ρ).Nodup) {b:Nat} (e:b ∈ ids):PK ρ ids β (ρ b)=β b:=by
 unfold PK;rw[Ark hn e];rfl
mutual
theorem Rep.ren (hn:(ids.map ρ).Nodup):∀ {x:AV} {v:Value},(∀ b ∈ Gq x,b ∈ ids)→Rep J β h w x v→Rep J (PK ρ ids β) (sub (An h) ρ ids) w (XM ρ x) v
 | .own b off n,v,hm,hr=>by
  rw[Rep] at hr
  obtain⟨x,A,cap,⟨hx,hmp⟩,h1,h2,h3⟩:=hr
  have hb:=hm b (by simp[Gq])
  rw[XM,Rep]
  refine⟨EE ρ x,A,cap,⟨EM hn b x hb hx,hmp⟩,h1,h2,?_⟩
  rw[Mu,Gs hn hb]
  exact h3
 | .optr b off,v,hm,hr=>by
  rw[Rep] at hr
  obtain⟨x,k,o,⟨hx,hmp⟩,h1,h2⟩:=hr
  have hb:=hm b (by simp[Gq])
  rw[XM,Rep]
  refine⟨EE ρ x,k,o,⟨EM hn b x hb hx,hmp⟩,h1,?_⟩
  rw[Gs hn hb]
  exact h2
 | .omap b,v,hm,hr=>by
  rw[Rep] at hr
  obtain⟨x,k,⟨hx,hmp⟩,h2⟩:=hr
  have hb:=hm b (by simp[Gq])
  rw[XM,Rep]
  refine⟨EE ρ x,k,⟨EM hn b x hb hx,hmp⟩,?_⟩
  rw[Gs hn hb]
  exact h2
 | .agg c,v,hm,hr=>by
  rw[Rep] at hr
  obtain⟨cs,h1,h2⟩:=hr
  rw[XM,Rep]
  exact⟨cs,h1,Reps.ren hn (by simpa[Gq] using hm) h2⟩
 | .tup c,v,hm,hr=>by
  rw[Rep] at hr
  obtain⟨cs,h1,h2⟩:=hr
  rw[XM,Rep]
  exact⟨cs,h1,Reps.ren hn (by simpa[Gq] using hm) h2⟩
 | .fn f c,v,hm,hr=>by
  rw[Rep] at hr
  obtain⟨cs,h1,h2⟩:=hr
  rw[XM,Rep]
  exact⟨cs,h1,Reps.ren hn (by simpa[Gq] using hm) h2⟩
 | .pagg c o,v,hm,hr=>by show Rep J _ _ w (.pagg c o) v;rw[Rep] at hr ⊢;exact hr
 | .undef,v,hm,hr=>by show Rep J _ _ w (.undef) v;rw[Rep] at hr ⊢;exact hr
 | .imm c n sz t o,v,hm,hr=>by show Rep J _ _ w (.imm c n sz t o) v;rw[Rep] at hr ⊢;exact hr
 | .iptr c o,v,hm,hr=>by show Rep J _ _ w (.iptr c o) v;rw[Rep] at hr ⊢;exact hr
 | .int k n,v,hm,hr=>by show Rep J _ _ w (.int k n) v;rw[Rep] at hr ⊢;exact hr
 | .bool b,v,hm,hr=>by show Rep J _ _ w (.bool b) v;rw[Rep] at hr ⊢;exact hr
 | .str s,v,hm,hr=>by show Rep J _ _ w (.str s) v;rw[Rep] at hr ⊢;exact hr
 | .nsl,v,hm,hr=>by show Rep J _ _ w (.nsl) v;rw[Rep] at hr ⊢;exact hr
 | .nilptr,v,hm,hr=>by show Rep J _ _ w (.nilptr) v;rw[Rep] at hr ⊢;exact hr
 | .nilfn,v,hm,hr=>by show Rep J _ _ w (.nilfn) v;rw[Rep] at hr ⊢;exact hr
theorem Reps.ren (hn:(ids.map ρ).Nodup):∀ {c:List AV} {cs:List Value},(∀ b ∈ Io c,b ∈ ids)→Reps J β h w c cs→Reps J (PK ρ ids β) (sub (An h) ρ ids) w (Y8 ρ c) cs
 | [],cs,hm,hr=>by rw[Reps] at hr;rw[Y8,Reps];exact hr
 | x::r,cs,hm,hr=>by
  rw[Reps] at hr
  obtain⟨u,us,h1,h2,h3⟩:=hr
  rw[Y8,Reps]
  exact⟨u,us,h1,Rep.ren hn (fun b hb=>hm b (by simp[Io,hb])) h2,Reps.ren hn (fun b hb=>hm b (by simp[Io,hb])) h3⟩
end
theorem SimH.ren (S:SimH J β h w) (hn:(ids.map ρ).Nodup) (G:∀ b ∈ Ld (An h) ids,b ∈ ids):SimH J (PK ρ ids β) (sub (An h) ρ ids) w:=by
 refine⟨S.jlt,S.jft,S.gl,fun c y z A I=>?_,fun c y z A I=>by
   obtain⟨b,x,n,rfl,t,rfl⟩:=N6 hn c y z
   obtain⟨v,B,k,ob,L,T,F,U⟩:=S.mblk b x t A I
   have:(EE ρ x).cells=x.cells:=by unfold EE;rw[v];rfl
   exact⟨v,B,k,ob,by rw[Gs hn n];exact L,T,by rw[ObjIs,show(EE ρ x).sz=x.sz from rfl,this];exact F,U⟩,?_⟩
 ·obtain⟨b,x,n,rfl,t,rfl⟩:=N6 hn c y z
  rcases S.blk b x t A I with⟨v,B⟩ | ⟨k,o,cs,ty,fr,v,B,L,T,F,U,g7⟩
  ·refine .inl ⟨by rw[Gs hn n];exact v,?_⟩
   have:=Mu ρ x;rw[B] at this;simpa using this
  ·refine .inr ⟨k,o,cs,ty,fr,by rw[Gs hn n];exact v,B,L,by rw[Mu];exact T,⟨fun V=>?_,fun V j q hj=>?_⟩,U,g7⟩
   ·have e:x.pure=true:=V
    have:(EE ρ x).cells=x.cells:=by unfold EE;rw[e];rfl
    rw[this];exact F.1 e
   ·have e:x.pure=false:=V
    have:(EE ρ x).cells=Y8 ρ x.cells:=by unfold EE;rw[e];rfl
    rw[this] at hj
    obtain⟨q',hq,rfl⟩:=xj hj
    obtain⟨u,hu,hr,ho⟩:=F.2 e j q' hq
    exact⟨u,hu,Rep.ren hn (fun C s=>G C (jO n t e C (jP hq C s))) hr,ho⟩
 ·intro c c' y y' k o o' z X A Y hs hβ D
  obtain⟨b,x,n,rfl,t,rfl⟩:=N6 hn c y z
  obtain⟨C,x',s,rfl,hx',rfl⟩:=N6 hn c' y' X
  rw[Gs hn n] at hβ
  rw[Gs hn s] at D
  rw[S.sep b C x x' k o o' t hx' A Y hs hβ D]
theorem zl (hn:(ids.map ρ).Nodup) {k:Nat} (j:Adi (PK ρ ids β) (sub (An h) ρ ids) k):Adi β h k:=by
 obtain⟨c,y,o,n,q,hs,e⟩:=j
 obtain⟨b,x,s,rfl,t,rfl⟩:=N6 hn c y n
 rw[Gs hn s] at e
 exact⟨b,x,o,t,q,hs,e⟩
end
end Gx
namespace Gx
open Go
theorem Ph {ids:List Nat}:∀ {l:List Nat},PD ids l=true→∀ b ∈ l,b ∈ ids
 | [],_,b,e=>by simp at e
 | i::r,h,b,e=>by
  rw[PD] at h
  simp at h
  rcases Az7.1 e with rfl | e
  ·exact Lf.1 h.1
  ·exact Ph h.2 b e
theorem B_ {d:Nat}:∀ {l:List Nat} {base b:Nat},b ∈ l→base≤I9 d (Ax base l) b∧I9 d (Ax base l) b<base+l.length
 | [],base,b,e=>by simp at e
 | i::r,base,b,e=>by
  rw[Ax,I9]
  cases hi:beq i b with
  | true=>simp
  | false =>
   have j:=Y9 hi
   have k:b ∈ r:=by
    rcases Az7.1 e with h | h
    ·exact absurd h.symm j
    ·exact h
   have:=B_ (d:=d) (base:=base+1) k
   simp only[cond_false,Az5]
   omega
theorem Aec {free ids:List Nat} {b:Nat} (h:H_ free b=true):BV free ids b=b:=by unfold BV;rw[h];rfl
theorem zm {free ids:List Nat} {b:Nat} (h:H_ free b=false) (e:b ∈ ids):300000≤BV free ids b:=by
 unfold BV Aq9;rw[h]
 exact(B_ (A23.2 ⟨e,by simp[h]⟩)).1
theorem qw {b:Nat}:qT b=true↔100000≤b∧b<200000:=by unfold qT;simp
theorem lf {free ids:List Nat} {b c:Nat} (j:b ∈ ids) (k:100000≤c∧c<200000) (e:BV free ids b=c):b=c:=by
 cases hr:H_ free b with
 | true=>rw[Aec hr] at e;exact e
 | false=>have:=zm hr j;omega
theorem IE {ρ:Nat→Nat} {K:List Nat}:∀ {s:Gp} {i:Nat},F4 (Ara ρ K s) i=if Ip K i=true then XM ρ (F4 s i) else .undef
 | [],i=>by
  show AV.undef=if Ip K i=true then XM ρ .undef else AV.undef
  simp[XM]
 | (t,v)::r,i=>by
  rw[Ara]
  by_cases e:t=i
  ·subst e
   cases j:Ip K t with
   | true=>simp[F4]
   | false=>simp only[cond_false];rw[IE];simp[j]
  ·have k:beq t i=false:=Q_ e
   cases j:Ip K t with
   | true=>simp only[cond_true,F4,k,cond_false];exact IE
   | false=>simp only[cond_false,F4,k];exact IE
theorem Aed {g:A7} {l:List Nat} {b:Nat} (h:b ∈ EH g l):∃ x,g b=some x∧x.dead=false:=by
 unfold EH at h
 obtain⟨_,e⟩:=A23.1 h
 unfold Fy at e
 cases j:g b with
 | none=>simp[j] at e
 | some x =>
  cases k:x.dead with
  | false=>exact⟨x,rfl,k⟩
  | true=>simp[j,k] at e
section
variable {Z:Start} {nt:Nat} {J:Bool→Nat→Prop} {β:Cd} {st st':St} {a:Act} {w:World}
def AV.isz:AV→Nat
 | .imm _ _ s _ _=>s
 | _=>0
theorem N7 {live:List Nat}:∀ (nils:List (Nat×Nat)) {st:St} {J:Bool→Nat→Prop} {β:Cd},Inv Z nt J β st a w→LN live nils st=some st'→∃ J' β',Inv Z nt J' β' st' a w
 | [],st,J,β,I,hh=>by simp[LN] at hh;subst hh;exact⟨J,β,I⟩
 | (t,sz)::r,st,J,β,I,hh=>by
  rw[LN] at hh
  cases z:ble 1000000 sz with
  | true =>
   rw[z,cond_true] at hh
   split at hh
   ·rename_i T hs
    refine N7 r (J:=J) (β:=β) (st:={ s:=a8 st.s t (.imm [] 0 (sz - 1000000) false false),h:=st.h }) ?_ hh
    refine { I with ss:=⟨fun i v k=>?_,fun i hi=>?_⟩ }
    ·rw[N3]
     by_cases e:i=t
     ·subst e
      have:=I.ss.slot i v k
      rw[hs,Rep] at this
      subst this
      rw[if_pos rfl,Rep,RepC]
      exact⟨by simp,none,0,rfl,Az3 _,fun _=>rfl,.inl rfl⟩
     ·rw[if_neg e];exact I.ss.slot i v k
    ·rw[N3]
     by_cases e:i=t
     ·subst e
      have:=I.ss.out i hi
      rw[hs] at this;cases this
     ·rw[if_neg e];exact I.ss.out i hi
   ·rename_i b off n T hs
    obtain⟨⟨v',ups,org⟩,B,U⟩:=ub hh
    by_cases C:∃ v,a.tmps[t]?=some v
    ·obtain⟨v0,D⟩:=C
     have hr:=I.ss.slot t v0 D
     rw[hs] at hr
     obtain⟨J1,A,q,_⟩:=RR I.sim (fun b x V=>⟨x,V,rfl⟩) B hr
     have I1:=I.step A (fun c x u hn=>by
      exfalso
      unfold YM at B
      obtain⟨y,G,j⟩:=ub B
      obtain⟨_,j⟩:=uc j
      simp at j
      obtain⟨_,j,_⟩:=j
      subst j
      simp only[Am,Aj] at u
      unfold Fy at G
      obtain⟨y0,F,_⟩:=ub G
      by_cases e:c=b
      ·subst e;rw[hn] at F;cases F
      ·rw[if_neg e,hn] at u;cases u)
     refine N7 r (J:=J1) (β:=β) (st:={ s:=a8 st.s t v',h:=Am ups st.h }) ?_ U
     have L:∃ c,v'=.imm c n (v'.isz) false org:=by
      unfold YM at B
      obtain⟨y,G,j⟩:=ub B
      obtain⟨_,j⟩:=uc j
      simp at j
      obtain⟨j,_,X⟩:=j
      subst j X
      exact⟨_,rfl⟩
     refine { I1 with ss:=⟨fun i v k=>?_,fun i hi=>?_⟩ }
     ·rw[N3]
      by_cases e:i=t
      ·subst e
       rw[if_pos rfl]
       rw[D] at k;simp at k;subst k
       obtain⟨c,Y⟩:=L
       rw[Y] at q ⊢
       rw[Rep];exact q
      ·rw[if_neg e];exact I1.ss.slot i v k
     ·rw[N3]
      by_cases e:i=t
      ·subst e
       have:=I.ss.out i hi
       rw[hs] at this;cases this
      ·rw[if_neg e];exact I1.ss.out i hi
    ·exfalso
     have:=I.ss.out t (by
      cases h:a.tmps[t]? with
      | none=>simp at h;omega
      | some v=>exact absurd ⟨v,h⟩ C)
     rw[hs] at this;cases this
   ·exact N7 r I hh
  | false =>
   rw[z,cond_false] at hh
   split at hh
   ·rename_i T hs
    cases S:An st.h (nid t+15) with
    | some x=>simp[S] at hh
    | none =>
     simp[S] at hh
     have A:=Step.newNone I.sim (d:=nid t+15) (x:=F5 sz) S rfl
     have I1:=I.step A (fun b x u hn=>by
      rw[Aj] at u
      by_cases e:b=nid t+15
      ·subst e;unfold nid Hb;omega
      ·rw[if_neg e,hn] at u;cases u)
     refine N7 r (J:=J) (β:=fun b=>if b=nid t+15 then none else β b) (st:={ s:=a8 st.s t (.own (nid t+15) 0 0),h:=Ff st.h (nid t+15) (F5 sz) }) ?_ hh
     refine { I1 with ss:=⟨fun i v k=>?_,fun i hi=>?_⟩ }
     ·rw[N3]
      by_cases e:i=t
      ·subst e
       rw[if_pos rfl,Rep]
       have:=I.ss.slot i v k
       rw[hs,Rep] at this
       subst this
       exact⟨F5 sz,none,0,⟨by rw[Aj,if_pos rfl],rfl⟩,rfl,Az3 _,.inl rfl⟩
      ·rw[if_neg e];exact I1.ss.slot i v k
     ·rw[N3]
      by_cases e:i=t
      ·subst e
       have:=I.ss.out i hi
       rw[hs] at this;cases this
      ·rw[if_neg e];exact I1.ss.out i hi
   ·exact N7 r I hh
theorem RY {E:Env} {live roots:List Nat} (I:Inv Z nt J β st a w) (hh:dp E live roots st=some st'):∃ J' β',Inv Z nt J' β' st' a w:=by
 unfold dp at hh
 obtain⟨s1,z,A⟩:=ub hh
 obtain⟨J1,β1,I1⟩:=N7 _ I z
 obtain⟨q,t⟩:=uc A
 simp at q t
 subst t
 obtain⟨hn,hs,hi,_⟩:=q
 have hn:=U7 hn
 have j:∀ b ∈ Ld (An s1.h) (EH (An s1.h) (BS (An s1.h) (qR live s1.s++roots))),b ∈ EH (An s1.h) (BS (An s1.h) (qR live s1.s++roots)):=Ph hi
 refine⟨J1,PK _ _ β1,{ I1 with sim:=I1.sim.ren hn j,ss:=⟨fun i v B=>?_,fun i hi=>?_⟩,wr:=fun k C=>I1.wr k (zl hn C),outs:=fun b x0 x n D F=>?_ }⟩
 ·rw[IE]
  cases G:Ip live i with
  | false=>simp[Rep]
  | true =>
   simp only[if_true]
   exact Rep.ren hn (fun b L=>Ph hs b (qk G b L)) (I1.ss.slot i v B)
 ·rw[IE,I1.ss.out i hi];simp[XM]
 ·obtain⟨S,x',e,u,T,rfl⟩:=N6 hn b x D
  have:=lf e ⟨I1.zge b x0 n,I1.zlt b x0 n⟩ u
  subst this
  obtain⟨⟨e1,em⟩,U,e3,e4⟩:=I1.outs S x0 x' n T F
  refine⟨⟨?_,em⟩,U,by rw[Mu];exact e3,e4⟩
  have:=Gs (β:=β1) hn e
  rw[u] at this
  rw[this];exact e1
end
end Gx
namespace Gx
open Go
section
variable {R:Type} {r:R} {Z:Start} {E:Env}
theorem Aee (hC:bI E) (F:E.P.follows .mixedOrders=true) {roots:List Nat} {N:Nat}:∀ (c:Code) {H:Hint} {kn:St→O R} {kx:Nat→St→O R} {kr:St→O R} {st:St} {a:Act} {w:World} {J:Bool→Nat→Prop} {β:Cd} {Q:Exit→Act→World→Prop},
  Inv Z E.nt J β st a w→F6 E roots N c H kn kx kr st=some r →
  (∀ st' e w' J' β',Inv Z E.nt J' β' st' e w'→kn st'=some r→Q .normal e w') →
  (∀ id st' e w' J' β',Inv Z E.nt J' β' st' e w'→kx id st'=some r→Q (.exit id) e w') →
  (∀ st' e w' J' β',Inv Z E.nt J' β' st' e w'→kr st'=some r→Q .ret e w')→c.wp E.P Q a w:=by
 intro c
 induction c with
 | skip=>intro H kn kx kr st a w J β Q I hh hn q hr;exact wp_skip (hn _ _ _ _ _ I hh)
 | region id ops draw=>intro H kn kx kr st a w J β Q I hh hn q hr;exact vY hC F I hh hn
 | seq x y u s =>
  intro H kn kx kr st a w J β Q I hh hn q hr
  rw[F6] at hh
  refine wp_seq (u I hh (fun st' e w' J' β' I' h'=>?_) (fun id st' e w' J' β' I' h'=>q id st' e w' J' β' I' h') (fun st' e w' J' β' I' h'=>hr st' e w' J' β' I' h'))
  unfold Anr at h'
  cases v:H.isJoin with
  | true =>
   rw[v,cond_true,EI] at h'
   obtain⟨s2,z,A⟩:=ub h'
   obtain⟨J2,β2,I2⟩:=RY I' z
   exact s I2 A hn q hr
  | false=>rw[v] at h';exact s I' h' hn q hr
 | cond c x y u s =>
  intro H kn kx kr st a w J β Q I hh hn q hr
  rw[F6] at hh
  split at hh
  ·rename_i t G
   have D:=A5 I.ss c
   rw[G,Rep] at D
   refine wp_cond D ?_
   cases t with
   | true=>exact u I hh hn q hr
   | false=>exact s I hh hn q hr
  ·simp at hh
 | block id c B =>
  intro H kn kx kr st a w J β Q I hh hn q hr
  rw[F6] at hh
  refine wp_block (B I hh (fun st' e w' J' β' I' h'=>hn _ _ _ _ _ I' h') (fun j st' e w' J' β' I' h'=>?_) (fun st' e w' J' β' I' h'=>hr _ _ _ _ _ I' h'))
  cases v:beq j id with
  | true =>
   rw[v] at h'
   have:=A0j v
   subst this
   simp only[Exit.inBlock,if_true]
   exact hn _ _ _ _ _ I' h'
  | false =>
   rw[v] at h'
   simp only[Exit.inBlock]
   rw[if_neg (Y9 v)]
   exact q _ _ _ _ _ _ I' h'
 | loop c B =>
  intro H kn kx kr st a w J β Q I hh hn q hr
  rw[F6,EI] at hh
  refine wp_loop_rounds N ?_
  have key:∀ (n:Nat) {st:St} {a:Act} {w:World} {J:Bool→Nat→Prop} {β:Cd},Inv Z E.nt J β st a w→RO (dp E H.live roots) (fun k st=>F6 E roots N c H.a k kx kr st) n st=some r→Code.rounds E.P c Q n a w:=by
   intro n
   induction n with
   | zero=>intro st a w J β I h';simp[RO] at h'
   | succ n C =>
    intro st a w J β I h'
    rw[RO] at h'
    rw[rounds_succ]
    refine B I h' (fun st' e w' J' β' I' h''=>?_) (fun id st' e w' J' β' I' h''=>q _ _ _ _ _ _ I' h'') (fun st' e w' J' β' I' h''=>hr _ _ _ _ _ I' h'')
    obtain⟨s2,z,A⟩:=ub h''
    obtain⟨J2,β2,I2⟩:=RY I' z
    exact C I2 A
  obtain⟨s2,z,A⟩:=ub hh
  obtain⟨J2,β2,I2⟩:=RY I z
  exact key N I2 A
 | exit id=>intro H kn kx kr st a w J β Q I hh hn q hr;exact wp_exit (q _ _ _ _ _ _ I hh)
 | ret=>intro H kn kx kr st a w J β Q I hh hn q hr;exact wp_ret (hr _ _ _ _ _ I hh)
 | rangeFunc=>intro H kn kx kr st a w J β Q I hh;simp[F6] at hh
 | scope=>intro H kn kx kr st a w J β Q I hh;simp[F6] at hh
 | label=>intro H kn kx kr st a w J β Q I hh;simp[F6] at hh
 | goto=>intro H kn kx kr st a w J β Q I hh;simp[F6] at hh
 | refuse=>intro H kn kx kr st a w J β Q I hh;simp[F6] at hh
end
end Gx
namespace Gx
open Go
structure FDone (Z:Start) (J:Bool→Nat→Prop) (β:Cd) (h:Az) (w:World):Prop where
 sim:SimH J β h w
 os:w.os=Z.w.os
 tape:w.tape=Z.w.tape
 output:w.output=Z.w.output
 size:Z.w.heap.size≤w.heap.size
 frame:∀ k,k<Z.w.heap.size→¬ Adi Z.β Z.h k→w.heap[k]?=Z.w.heap[k]?
 wr:∀ k,Adi β h k→k<Z.w.heap.size→Adi Z.β Z.h k
 jsub:∀ o k,Z.J o k→J o k
 jup:∀ o k,J o k→Z.J o k∨Adi Z.β Z.h k∨Z.w.heap.size≤k
 sizes:∀ k,A3 Z.w k≤A3 w k
 outs:∀ b x0 x,An Z.h b=some x0→An h b=some x→x.dead=false→(β b=Z.β b∧x.mp=x0.mp)∧x.sz=x0.sz∧(x0.mp=false→x.cells.length=x0.cells.length)∧x0.dead=false
 live:∀ b x,An h b=some x→x.dead=false
def Axf (P:Program) (f:Nat) (args:LA) (h:Az) (res:AV) (h':Az):Prop :=
 ∀ (J:Bool→Nat→Prop) (β:Cd) (w:World) (vs:List Value),SimH J β h w→Reps J β h w args vs →
  Calls P f vs.toArray w fun e w'=>∃ vc J' β',e=.returned vc∧FDone ⟨J,β,h,w⟩ J' β' h' w'∧Rep J' β' h' w' res vc
def qx (P:Program) (f:Nat) (t:Tw):Prop:=∀ args h res h',(t.runK args h fun v h'=>some (v,h'))=some (res,h')→Axf P f args h res h'
def Aef (P:Program):List (Nat×Tw)→Prop
 | []=>True
 | p::r=>qx P p.1 p.2∧Aef P r
theorem Aeg {P:Program} {R:Type} {r:R}:∀ {T:List (Nat×Tw)},Aef P T→∀ {f:Nat} {e:LA} {h:Az} {k:AV→Az→O R},d_ T f e h k=some r →
  ∃ j h',Axf P f e h j h'∧k j h'=some r
 | [],_,f,e,h,k,hh=>by simp[d_] at hh
 | (g,t)::T,hT,f,e,h,k,hh=>by
  rw[d_] at hh
  cases n:beq g f with
  | false=>rw[n] at hh;exact Aeg hT.2 hh
  | true =>
   rw[n] at hh
   have:=A0j n
   subst this
   simp only[cond_true] at hh
   rw[t.eq] at hh
   obtain⟨⟨j,h'⟩,q,s⟩:=ub hh
   exact⟨j,h',hT.1 e h j h' q,s⟩
section
variable {R:Type} {r:R} {Z:Start} {nt:Nat} {J:Bool→Nat→Prop} {β:Cd} {st:St} {a:Act} {w:World}
def eF (tmps:Array Value):ResultVar→Sem Value
 | .tmp t=>pure (tmps.getD t undef)
 | .cell a t=>do loadVar t (←Go.asAddr (tmps.getD a undef))
theorem Arl {α β:Type} (f:α→Sem β) (xs:Array α):xs.mapM f=(List.toArray <$> xs.toList.mapM f):=by
 rw[←List.mapM_toArray]
theorem Aiu (fn:Func) (tmps:Array Value):results fn tmps=(do let vs ←fn.results.mapM (eF tmps);pure (if h:vs.size=1 then vs[0] else .tuple vs)):=by
 unfold results
 congr 1
def Aeh (l:List Value):Value:=match l with | [v]=>v | l=>.tuple l.toArray
theorem Aei {P:Program} (fn:Func) (tmps:Array Value) {vs:List Value} (h:(fn.results.toList.mapM (eF tmps)).run P w=.ok vs w):(results fn tmps).run P w=.ok (Aeh vs) w:=by
 rw[Aiu,Arl]
 simp only[map_eq_pure_bind,Sem.run_bind,h,Result.andThen_ok,Sem.run_pure]
 congr 1
 match vs with
 | []=>rfl
 | [v]=>rfl
 | v::u::r=>simp[Aeh]
theorem Aej {P:Program} {t:TypeId} {v vc:Value} (h:(Instr.loadAt t v).run P w=.ok vc w):(do loadVar t (←Go.asAddr v):Sem Value).run P w=.ok vc w:=by
 unfold Instr.loadAt at h
 cases v with
 | pointer a =>
  cases a with
  | some a=>exact h
  | none=>simp[Instr.sureAddr] at h
 | _=>simp[Instr.sureAddr] at h
theorem GS {E:Env} (S:SimH J β st.h w) (SS:SimS J β st.h w st.s a.tmps):∀ (l:List ResultVar) {e:LA} {k:LA→O R},N2 E st l e k=some r →
  ∃ vals vs,k (e.reverse++vals)=some r∧(l.mapM (eF a.tmps)).run E.P w=.ok vs w∧Reps J β st.h w vals vs
 | [],e,k,hh=>⟨[],[],by simpa[N2] using hh,by simp,by rw[Reps]⟩
 | .tmp t::l,e,k,hh=>by
  rw[N2] at hh
  obtain⟨vals,vs,j,n,q⟩:=GS S SS l hh
  refine⟨F4 st.s t::vals,a.tmps.getD t undef::vs,by simpa using j,?_,by rw[Reps];exact⟨_,_,rfl,A5 SS (.tmp t),q⟩⟩
  simp only[A50,eF,Sem.run_bind,Sem.run_pure,Result.andThen_ok,n]
 | .cell ad t::l,e,k,hh=>by
  rw[N2] at hh
  obtain⟨v,vc,u,j,n⟩:=lN S (fun _ _ h=>h) hh (A5 SS (.tmp ad))
  obtain⟨vals,vs,q,z,A⟩:=GS S SS l u
  refine⟨v::vals,vc::vs,by simpa using q,?_,by rw[Reps];exact⟨_,_,rfl,n,A⟩⟩
  have:(eF a.tmps (.cell ad t)).run E.P w=.ok vc w:=Aej j
  simp only[A50,Sem.run_bind,this,Sem.run_pure,Result.andThen_ok,z]
theorem Aiv {i:Nat} {m:Nat×Nat} {v v':AV} {ups:Eo} {vc:Value} {h:Az} (S:SimH J β h w) (hh:Av8 (An h) i m v=some (v',ups)) (j:Rep J β h w v vc) :
  ∃ J' β',Step J β h w J' β' (Am ups h) w∧Rep J' β' (Am ups h) w v' vc∧(∀ b x,An (Am ups h) b=some x→An h b=none→Hb≤b):=by
 have old:∀ {ups:Eo},(∀ b,A4 ups b=true→∃ x,An h b=some x)→∀ b x,An (Am ups h) b=some x→An h b=none→Hb≤b:=by
  intro ups D b x k hn
  cases hi:A4 ups b with
  | true=>obtain⟨y,F⟩:=D b hi;rw[F] at hn;cases hn
  | false=>rw[Ck _ _ _ hi,hn] at k;cases k
 unfold Av8 at hh
 cases z:beq m.1 0 with
 | true =>
  rw[z] at hh;simp at hh
  obtain⟨rfl,rfl⟩:=hh
  exact⟨J,β,Step.refl S,j,old (by simp[A4])⟩
 | false =>
  rw[z,cond_false] at hh
  cases B:beq m.1 1 with
  | true =>
   rw[B,cond_true] at hh
   split at hh
   ·simp at hh;obtain⟨rfl,rfl⟩:=hh
    rw[Rep] at j;subst j
    refine⟨J,β,Step.refl S,?_,old (by simp[A4])⟩
    rw[Rep,RepC]
    exact⟨by simp,none,0,rfl,Az3 _,by simp,.inl rfl⟩
   ·simp at hh;obtain⟨rfl,rfl⟩:=hh
    refine⟨J,β,Step.refl S,?_,old (by simp[A4])⟩
    rw[Rep,RepC] at j ⊢
    obtain⟨e1,A,cap,G,e3,e4,I⟩:=j
    exact⟨e1,A,cap,G,e3,by simp,I⟩
   ·obtain⟨⟨L,T,U⟩,hq,q⟩:=ub hh
    simp at q;obtain⟨rfl,rfl⟩:=q
    obtain⟨J',A,hA,_⟩:=RR S (Looks.s fun _ _ h=>h) hq j
    refine⟨J',β,A,?_,old (xc hq)⟩
    unfold YM at hq
    obtain⟨x,k,n⟩:=ub hq
    obtain⟨_,C⟩:=uc n
    simp at C
    obtain⟨rfl,rfl,rfl⟩:=C
    rw[Rep];exact hA
   ·simp at hh
  | false =>
   rw[B,cond_false] at hh
   cases q:beq m.1 2 with
   | true =>
    rw[q,cond_true] at hh
    split at hh
    ·obtain⟨hn,n⟩:=Aib hh
     simp at n;obtain⟨rfl,rfl⟩:=n
     have u:An h (nid 90000+i)=none:=by cases k:An h (nid 90000+i)<;>simp_all
     have A:=Step.newNone S (x:=F5 m.2) u rfl
     refine⟨J,fun b=>if b=nid 90000+i then none else β b,A,?_,fun b x k V=>?_⟩
     ·rw[Rep] at j;subst j;rw[Rep]
      exact⟨F5 m.2,none,0,⟨by simp only[Am];rw[Aj,if_pos rfl],rfl⟩,rfl,Az3 _,.inl rfl⟩
     ·simp only[Am] at k
      rw[Aj] at k
      by_cases e:b=nid 90000+i
      ·subst e;unfold nid Hb;omega
      ·rw[if_neg e,V] at k;cases k
    ·simp at hh;obtain⟨rfl,rfl⟩:=hh
     exact⟨J,β,Step.refl S,j,old (by simp[A4])⟩
   | false =>
    rw[q,cond_false] at hh
    split at hh
    ·rename_i c
     obtain⟨⟨L,T,U⟩,hq,n⟩:=ub hh
     simp at n;obtain⟨rfl,rfl⟩:=n
     rw[Rep] at j
     obtain⟨cs,rfl,X⟩:=j
     obtain⟨J',A,hA,t,_⟩:=Se S (Looks.s fun _ _ h=>h) hq X
     refine⟨J',β,A,?_,old (BX hq)⟩
     rw[Rep]
     exact⟨cs,rfl,t.symm,hA⟩
    ·simp at hh;obtain⟨rfl,rfl⟩:=hh
     exact⟨J,β,Step.refl S,j,old (by simp[A4])⟩
    ·simp at hh
theorem lh {s:Gp}:∀ (vals:LA) {i:Nat} {ms:List (Nat×Nat)} {h h':Az} {vals':LA} {vs:List Value} {J:Bool→Nat→Prop} {β:Cd},
  Inv Z nt J β { s:=s,h:=h } a w→Adg h i ms vals=some (vals',h')→Reps J β h w vals vs →
  ∃ J' β',Inv Z nt J' β' { s:=s,h:=h' } a w∧Reps J' β' h' w vals' vs∧∀ x v,Rep J β h w x v→Rep J' β' h' w x v
 | [],i,ms,h,h',vals',vs,J,β,I,hh,j=>by
  simp[Adg] at hh;obtain⟨rfl,rfl⟩:=hh
  exact⟨J,β,I,j,fun _ _ h=>h⟩
 | v::r,i,ms,h,h',vals',vs,J,β,I,hh,j=>by
  rw[Adg] at hh
  obtain⟨⟨v1,u1⟩,z,B⟩:=ub hh
  obtain⟨⟨D,hr⟩,C,q⟩:=ub B
  simp at q;obtain⟨rfl,rfl⟩:=q
  rw[Reps] at j
  obtain⟨u,us,rfl,k,n⟩:=j
  obtain⟨J1,β1,A,hA,e⟩:=Aiv I.sim z k
  have I1:=I.step A e
  obtain⟨J2,β2,I2,hB,t⟩:=lh r I1 C (Reps.ext A.ext n)
  refine⟨J2,β2,I2,?_,fun x v h=>t x v (Rep.ext A.ext h)⟩
  rw[Reps]
  exact⟨u,us,rfl,t _ _ hA,hB⟩
theorem vZ {E:Env} {fn:Func} {modes:List (Nat×Nat)} {outs:List Nat} {k:AV→Az→O R} (I:Inv Z nt J β st a w) (hh:Zs E fn modes outs k st=some r) :
  ∃ n h' vc J' β',k n h'=some r∧(results fn a.tmps).run E.P w=.ok vc w∧FDone Z J' β' h' w∧Rep J' β' h' w n vc:=by
 unfold Zs at hh
 obtain⟨vals,vs,D,S,T⟩:=GS I.sim I.ss _ hh
 simp only[List.reverse_nil,A1o] at D
 obtain⟨⟨vals',h'⟩,U,V⟩:=ub D
 obtain⟨J1,β1,I1,hR,_⟩:=lh (s:=st.s) vals I U T
 obtain⟨F,X⟩:=uc V
 simp at F
 obtain⟨hn,hs,hi,_⟩:=F
 have hn:=U7 hn
 have q:=Ph hi
 have hs:=Ph hs
 refine⟨_,_,Aeh vs,J1,PK _ _ β1,X,Aei fn a.tmps S,?_,Rep.ren hn hs ?_⟩
 ·exact⟨I1.sim.ren hn q,I1.os,I1.tape,I1.output,I1.size,I1.frame,fun k Y=>I1.wr k (zl hn Y),I1.jsub,I1.jup,I1.sizes,fun b x0 x t z hd=>by
   obtain⟨G,x',j,A,B,rfl⟩:=N6 hn b x z
   have:=lf j ⟨I1.zge b x0 t,I1.zlt b x0 t⟩ A
   subst this
   obtain⟨⟨e1,em⟩,e2,e3,e4⟩:=I1.outs G x0 x' t B hd
   refine⟨⟨?_,em⟩,e2,by rw[Mu];exact e3,e4⟩
   have:=Gs (β:=β1) hn j
   rw[A] at this
   rw[this];exact e1,fun b x z=>by
   obtain⟨G,x',j,A,B,rfl⟩:=N6 hn b x z
   obtain⟨x2,C,h8⟩:=Aed j
   rw[B] at C;simp at C;subst C;exact h8⟩
 ·match vals',vs,hR with
  | [],vs,hR=>rw[Reps] at hR;subst hR;simp only[Aeh,Av9];rw[Rep];exact⟨[],rfl,by rw[Reps]⟩
  | [v],vs,hR =>
   rw[Reps] at hR
   obtain⟨u,us,rfl,L,e⟩:=hR
   rw[Reps] at e;subst e
   exact L
  | v::v2::l,vs,hR =>
   have hR':=hR
   rw[Reps] at hR
   obtain⟨u,us,rfl,L,e⟩:=hR
   rw[Reps] at e
   obtain⟨u2,us2,rfl,_,_⟩:=e
   simp only[Aeh,Av9]
   rw[Rep]
   exact⟨_,rfl,hR'⟩
end
end Gx
namespace Gx
open Go
section
variable {J J':Bool→Nat→Prop} {β:Cd} {h:Az} {w:World}
mutual
theorem Rep.noOrg:∀ {x:AV} {v:Value},GN x=false→Rep J β h w x v→Rep (fun _=>J false) β h w x v
 | .own ..,v,_,hr=>by rw[Rep] at hr ⊢;exact hr
 | .optr ..,v,_,hr=>by rw[Rep] at hr ⊢;exact hr
 | .omap ..,v,_,hr=>by rw[Rep] at hr ⊢;exact hr
 | .pagg c o,v,ho,hr=>by
  rw[GN] at ho;subst ho
  rw[Rep] at hr ⊢;exact hr
 | .agg c,v,ho,hr=>by
  rw[GN] at ho
  rw[Rep] at hr ⊢
  obtain⟨cs,h1,h2⟩:=hr
  exact⟨cs,h1,Reps.noOrg ho h2⟩
 | .tup c,v,ho,hr=>by
  rw[GN] at ho
  rw[Rep] at hr ⊢
  obtain⟨cs,h1,h2⟩:=hr
  exact⟨cs,h1,Reps.noOrg ho h2⟩
 | .fn f c,v,ho,hr=>by
  rw[GN] at ho
  rw[Rep] at hr ⊢
  obtain⟨cs,h1,h2⟩:=hr
  exact⟨cs,h1,Reps.noOrg ho h2⟩
 | .undef,_,_,_=>by rw[Rep];trivial
 | .imm c n sz t o,v,ho,hr=>by
  rw[GN] at ho;subst ho
  rw[Rep] at hr ⊢;exact hr
 | .iptr c o,v,ho,hr=>by
  rw[GN] at ho;subst ho
  rw[Rep] at hr ⊢;exact hr
 | .int ..,v,_,hr=>by rw[Rep] at hr ⊢;exact hr
 | .bool _,v,_,hr=>by rw[Rep] at hr ⊢;exact hr
 | .str _,v,_,hr=>by rw[Rep] at hr ⊢;exact hr
 | .nsl,v,_,hr=>by rw[Rep] at hr ⊢;exact hr
 | .nilptr,v,_,hr=>by rw[Rep] at hr ⊢;exact hr
 | .nilfn,v,_,hr=>by rw[Rep] at hr ⊢;exact hr
theorem Reps.noOrg:∀ {c:List AV} {cs:List Value},Wd c=false→Reps J β h w c cs→Reps (fun _=>J false) β h w c cs
 | [],_,_,hr=>by rw[Reps] at hr ⊢;exact hr
 | x::r,cs,ho,hr=>by
  rw[Wd] at ho
  simp at ho
  rw[Reps] at hr ⊢
  obtain⟨u,us,h1,h2,h3⟩:=hr
  exact⟨u,us,h1,Rep.noOrg ho.1 h2,Reps.noOrg ho.2 h3⟩
end
theorem qy:∀ {c:LA} {j:Nat} {x:AV},Wd c=false→c[j]?=some x→GN x=false
 | [],j,x,_,e=>by simp at e
 | y::r,j,x,k,e=>by
  rw[Wd] at k
  simp at k
  cases j with
  | zero=>simp at e;subst e;exact k.1
  | succ j=>exact qy k.2 (by simpa using e)
theorem qz:∀ {h:Az} {b:Nat} {x:Blk},dm h=false→An h b=some x→x.taint=false∧(x.pure=false→Wd x.cells=false)
 | [],b,x,_,e=>by simp[An] at e
 | (i,y)::r,b,x,j,e=>by
  rw[dm] at j
  simp at j
  rw[An] at e
  cases hi:beq i b with
  | true =>
   rw[hi] at e;simp at e;subst e
   refine⟨j.1.1,fun k=>?_⟩
   have:=j.1.2
   rw[k] at this;simpa using this
  | false=>rw[hi] at e;exact qz j.2 (by simpa using e)
theorem SimH.noOrg (S:SimH J β h w) (F:dm h=false):SimH (fun _=>J false) β h w:=by
 refine⟨fun _ k e=>S.jlt _ k e,fun k e=>e,S.gl.to (fun _ h=>h) (fun _ _=>rfl),fun b x n s t=>?_,fun b x n s t=>by
   obtain⟨v,z,k,ob,A,G,I,L⟩:=S.mblk b x n s t
   exact⟨v,z,k,ob,A,G,I,fun _ T=>L false T⟩,S.sep⟩
 obtain⟨C,U⟩:=qz F n
 rcases S.blk b x n s t with B | ⟨k,o,cs,ty,fr,B,V,X,Y,D,h6,h7⟩
 ·exact .inl B
 ·refine .inr ⟨k,o,cs,ty,fr,B,V,X,Y,⟨fun q=>?_,fun q j c e=>?_⟩,fun hs _=>h6 hs _,fun hs=>?_⟩
  ·have:=D.1 q;rw[C] at this;exact this
  ·obtain⟨u,v,z,A⟩:=D.2 q j c e
   exact⟨u,v,Rep.noOrg (qy (U q) e) z,A⟩
  ·have:=h7 hs;rw[C] at this;exact this
theorem Ext.grow (hJ:∀ o k,J o k→J' o k):Ext J β h w J' β h w:=⟨hJ,fun _ _ _=>rfl,fun b x e=>⟨x,⟨e,rfl⟩,by cases j:x.dead<;>simp⟩,fun _ _ _ _=>Az3 _⟩
theorem SimH.grow (S:SimH J β h w) (hJ:∀ o k,J o k→J' o k) (s:∀ o k,J' o k→k<w.heap.size) (t:∀ k,J' false k→J' true k)
  (e:∀ b x k o,An h b=some x→x.dead=false→x.sealed=false→β b=some (k,o)→∀ g,¬ J' g k):SimH J' β h w:=by
 refine⟨s,t,S.gl.to (hJ false) (fun _ _=>rfl),fun b x j n u=>?_,fun b x j n u=>by
   obtain⟨A,v,k,ob,z,B,C,T⟩:=S.mblk b x j n u
   exact⟨A,v,k,ob,z,B,C,e b x k 0 j n v z⟩,S.sep⟩
 rcases S.blk b x j n u with q | ⟨k,o,cs,ty,fr,q,D,F,G,I,U,L⟩
 ·exact .inl q
 ·exact .inr ⟨k,o,cs,ty,fr,q,D,F,G,I.ext (Ext.grow hJ),fun hs=>e b x k o j n hs q,fun hs=>hJ _ _ (L hs)⟩
def Axk (β:Cd) (h:Az) (fz:List Nat) (k:Nat):Prop:=∃ b x o,b ∈ fz∧An h b=some x∧x.dead=false∧x.sealed=false∧β b=some (k,o)
def JS (J:Bool→Nat→Prop) (β:Cd) (h:Az) (fz:List Nat):Bool→Nat→Prop:=fun o k=>J o k∨(o=true∧Axk β h fz k)
theorem rA {g:A7} {b off n:Nat} {x:Blk} {vc:Value} {fz:List Nat} (S:SimH J β h w) (D:Looks g h) (j:Fy g b=some x) (F:x.pure=true) (G:x.sealed=false→b ∈ fz) (B:Rep J β h w (.own b off n) vc) :
  Rep (JS J β h fz) β h w (.imm ((x.cells.drop off).take (n*x.sz)) n x.sz false (!x.sealed||x.taint)) vc:=by
 unfold Fy at j
 obtain⟨x0,v,j⟩:=ub j
 obtain⟨z,j⟩:=Aib j
 simp at j;subst j
 have u:=D b _ v
 rw[Rep]
 have key:=(Al1 (J':=fun o k=>o≠x0.taint∨JS J β h fz (!x0.sealed||x0.taint) k) S u z F B (fun k o A=>.inr ?_) (fun o k s=>?_) false (!x0.sealed||x0.taint)).2 (by simp)
 ·exact RepC.keep (fun k t=>by rcases t with t | t;exact absurd rfl t;exact t) (fun _ _=>rfl) key
 ·cases hs:x0.sealed with
  | false =>
   simp only[A2c,A3d]
   exact .inr ⟨rfl,b,x0,o,G hs,u,z,hs,A⟩
  | true =>
   simp only[A3f,A3h]
   rcases S.blk b x0 u z (Arc u B) with⟨q,_⟩ | ⟨L,o',cs,ty,fr,q,T,U,V,X,Y,I⟩
   ·rw[A] at q;cases q
   ·rw[A] at q;simp at q;obtain⟨rfl,rfl⟩:=q
    exact .inl (I hs)
 ·by_cases e:o=x0.taint
  ·subst e
   right
   cases hs:x0.sealed with
   | false =>
    simp only[A2c,A3d]
    left
    cases C:x0.taint with
    | false=>rw[C] at s;exact S.jft k s
    | true=>rw[C] at s;exact s
   | true=>simp only[A3f,A3h];exact .inl s
  ·exact .inl e
theorem JS.mono (S:SimH J β h w) {fz:List Nat} {a b:Bool} (k:Nat) (e:JS J β h fz a k):JS J β h fz (a||b) k:=by
 cases a
 ·cases b
  ·exact e
  ·rcases e with e | ⟨j,_⟩
   ·exact .inl (S.jft k e)
   ·cases j
 ·exact e
theorem v7 {g:A7} {v v':AV} {o:Bool} {vc:Value} {fz:List Nat} (S:SimH J β h w) (B:Looks g h) (hh:LK g v=some (v',o)) (C:∀ b off n x,v=.own b off n→g b=some x→x.sealed=false→b ∈ fz) (j:Rep J β h w v vc) :
  RepC (JS J β h fz o) w v' vc:=by
 cases v
 case own b off n =>
  rw[LK] at hh
  obtain⟨x,e,D⟩:=ub hh
  obtain⟨F,z⟩:=uc D
  simp at z
  obtain⟨rfl,rfl⟩:=z
  have:=rA S B e F (fun hs=>by
   unfold Fy at e
   obtain⟨x0,q,e⟩:=ub e
   obtain⟨T,e⟩:=Aib e
   simp at e;subst e
   exact C b off n x0 rfl q hs) j
  rw[Rep] at this;exact this
 case imm c n sz t org =>
  simp[LK] at hh;obtain⟨rfl,rfl⟩:=hh
  rw[Rep,RepC] at j
  rw[RepC]
  obtain⟨e1,A,cap,G,e3,e4,s⟩:=j
  refine⟨e1,A,cap,G,e3,by simp,?_⟩
  rcases s with s | ⟨a,I,L,e8⟩
  ·exact .inl s
  ·exact .inr ⟨a,I,.inl L,RepCs.keep (fun k u=>.inl u) (fun _ _=>rfl) (fun _=>rfl) e8⟩
 case iptr c org =>
  simp[LK] at hh;obtain⟨rfl,rfl⟩:=hh
  rw[Rep] at j
  exact RepC.keep (fun k u=>.inl u) (fun _ _=>rfl) j
 all_goals first
  | (simp[LK] at hh;done)
  | (simp[LK] at hh;obtain⟨rfl,rfl⟩:=hh;rw[Rep] at j;rw[RepC];exact j)
theorem RZ {g:A7} {fz:List Nat} (S:SimH J β h w) (C:Looks g h):∀ {c c':LA} {o:Bool} {cs:List Value},RK g c=some (c',o)→(∀ b ∈ J7 g c,b ∈ fz)→Reps J β h w c cs →
  cs.length=c'.length∧∀ (j:Nat) (x:AV),c'[j]?=some x→∃ u,cs[j]?=some u∧RepC (JS J β h fz o) w x u
 | [],c',o,cs,hh,t,q=>by
  simp[RK] at hh;obtain⟨rfl,rfl⟩:=hh
  rw[Reps] at q;subst q
  exact⟨rfl,fun j x s=>by simp at s⟩
 | v::r,c',o,cs,hh,t,q=>by
  rw[RK] at hh
  obtain⟨⟨v1,o1⟩,D,hh⟩:=ub hh
  obtain⟨⟨X,o2⟩,F,hh⟩:=ub hh
  simp at hh;obtain⟨rfl,rfl⟩:=hh
  rw[Reps] at q
  obtain⟨u,us,rfl,G,I⟩:=q
  have z:∀ b ∈ J7 g r,b ∈ fz:=fun b A=>t b (by
   cases v<;>simp only[J7]<;>try exact A
   split
   ·rename_i x _;cases x.sealed<;>simp[A]
   ·exact A)
  have a1:=v7 (fz:=fz) S C D (fun b off n x e L hs=>t b (by subst e;simp[J7,L,hs])) G
  obtain⟨b1,T⟩:=RZ S C F z I
  refine⟨by simp[b1],fun j x s=>?_⟩
  cases j with
  | zero=>simp at s;subst s;exact⟨u,by simp,RepC.keep (fun k B=>JS.mono S k B) (fun _ _=>rfl) a1⟩
  | succ j =>
   obtain⟨U,e1,V⟩:=T j x (by simpa using s)
   exact⟨U,by simpa using e1,RepC.keep (fun k B=>by rw[A5j];exact JS.mono S k B) (fun _ _=>rfl) V⟩
theorem v8 {g:A7} {v v':AV} {q:Bool} {vc:Value} {fz:List Nat} (S:SimH J β h w) (I:Looks g h) (hh:zQ g v=some (v',q)) (L:∀ b ∈ HW g v,b ∈ fz) (t:Rep J β h w v vc) :
  Rep (JS J β h fz) β h w v' vc∧Gq v'=[]:=by
 unfold zQ at hh
 split at hh
 ·rename_i b off n
  obtain⟨x,e,s⟩:=ub hh
  obtain⟨T,B⟩:=uc s
  simp at B
  obtain⟨rfl,_⟩:=B
  exact⟨rA S I e T (fun hs=>by
   unfold Fy at e
   obtain⟨x0,C,e⟩:=ub e
   obtain⟨F,e⟩:=Aib e
   simp at e;subst e
   exact L b (by simp[HW,C,hs])) t,by simp[Gq]⟩
 ·simp at hh;obtain⟨rfl,_⟩:=hh
  refine⟨?_,by simp[Gq]⟩
  rw[Rep,RepC] at t ⊢
  obtain⟨e1,A,cap,U,e3,e4,V⟩:=t
  refine⟨e1,A,cap,U,e3,by simp,?_⟩
  rcases V with V | ⟨a,e6,e7,e8⟩
  ·exact .inl V
  ·exact .inr ⟨a,e6,.inl e7,RepCs.keep (fun k hk=>.inl hk) (fun _ _=>rfl) (fun _=>rfl) e8⟩
 ·rename_i b off
  obtain⟨x,e,s⟩:=ub hh
  obtain⟨T,B⟩:=uc s
  simp at B
  obtain⟨rfl,_⟩:=B
  unfold Fy at e
  obtain⟨x0,C,e⟩:=ub e
  obtain⟨F,e⟩:=Aib e
  simp at e;subst e
  have X:=I b _ C
  refine⟨?_,by simp[Gq]⟩
  rw[Rep] at t
  obtain⟨x1,k,o,⟨Y,gm⟩,g2,D⟩:=t
  rw[X] at Y;simp at Y;subst Y
  rcases D with D | D
  ·simp[F] at D
  ·rcases S.blk b x0 X F gm with⟨s,_⟩ | ⟨k',o',cs,ty,fr,s,B,h3,h4,h5,h6,h7⟩
   ·rw[D] at s;cases s
   ·rw[D] at s;simp at s;obtain⟨rfl,rfl⟩:=s
    have hin:∀ G,J x0.taint G→JS J β h fz (!x0.sealed||x0.taint) G:=by
     intro G z
     left
     cases hs:x0.sealed with
     | false =>
      simp only[A2c,A3d]
      cases ht:x0.taint with
      | false=>rw[ht] at z;exact S.jft G z
      | true=>rw[ht] at z;exact z
     | true=>simp only[A3f,A3h];exact z
    rw[Rep,RepC]
    refine⟨_,g2,?_,?_⟩
    ·cases hs:x0.sealed with
     | false =>
      simp only[A2c,A3d]
      exact .inr ⟨rfl,b,x0,o,L b (by simp[HW,C,hs]),X,F,hs,D⟩
     | true =>
      simp only[A3f,A3h]
      exact .inl (h7 hs)
    ·refine RepCs.keep hin (fun _ _=>rfl) (fun j=>?_) ((h5.1 T).drop off)
     rw[Addr.add_mid,Pf B,A1x]
 ·rename_i c
  obtain⟨⟨c1,o1⟩,s,B⟩:=ub hh
  simp at B;obtain⟨rfl,_⟩:=B
  rw[Rep] at t
  obtain⟨cs,rfl,t⟩:=t
  obtain⟨b1,b2⟩:=RZ (fz:=fz) S I s (by simpa[HW] using L) t
  refine⟨?_,by simp[Gq]⟩
  rw[Rep]
  refine⟨cs,rfl,b1,?_⟩
  rw[Bv]
  intro j x z
  obtain⟨u,e1,U⟩:=b2 j x z
  exact⟨u,by simpa using e1,U⟩
 ·simp at hh;obtain⟨rfl,_⟩:=hh
  exact⟨Rep.ext (Ext.grow fun _ _ z=>.inl z) t,by simp[Gq,Io]⟩
 ·simp at hh
 ·simp at hh
 ·simp at hh
 ·simp at hh
 ·simp at hh;obtain⟨rfl,_⟩:=hh
  refine⟨Rep.ext (Ext.grow fun _ _ z=>.inl z) t,?_⟩
  cases v<;>first | rfl | simp_all
theorem CA {g:A7} {fz:List Nat} (S:SimH J β h w) (A:Looks g h):∀ {k:LA} {ms:List Bool} {args':LA} {im j:List Nat} {vs:List Value},
  HX g ms k=some (args',im,j)→(∀ b ∈ j,b ∈ fz)→Reps J β h w k vs→Reps (JS J β h fz) β h w args' vs∧∀ b ∈ Io args',b ∈ im
 | [],ms,args',im,j,vs,hh,z,n=>by
  simp[HX] at hh;obtain⟨rfl,rfl,rfl⟩:=hh
  rw[Reps] at n;subst n
  exact⟨by rw[Reps],by simp[Io]⟩
 | v::r,ms,args',im,j,vs,hh,z,n=>by
  rw[HX] at hh
  rw[Reps] at n
  obtain⟨u,us,rfl,q,s⟩:=n
  cases F:ms.headD false with
  | true =>
   rw[F,cond_true] at hh
   obtain⟨⟨a2,i2,G⟩,B,t⟩:=ub hh
   simp at t;obtain⟨rfl,rfl,rfl⟩:=t
   obtain⟨C,D⟩:=CA S A B z s
   refine⟨by rw[Reps];exact⟨u,us,rfl,Rep.ext (Ext.grow fun _ _ I=>.inl I) q,C⟩,fun b e=>?_⟩
   rw[Io] at e
   rcases A0f.1 e with e | e
   ·exact A0f.2 (.inl e)
   ·exact A0f.2 (.inr (D b e))
  | false =>
   rw[F,cond_false] at hh
   obtain⟨⟨v1,b1⟩,L,hh⟩:=ub hh
   obtain⟨⟨a2,i2,G⟩,B,t⟩:=ub hh
   simp at t;obtain⟨rfl,rfl,rfl⟩:=t
   obtain⟨e1,T⟩:=v8 S A L (fun b e=>z b (A0f.2 (.inl e))) q
   obtain⟨C,D⟩:=CA S A B (fun b e=>z b (A0f.2 (.inr e))) s
   refine⟨by rw[Reps];exact⟨u,us,rfl,e1,C⟩,fun b e=>?_⟩
   rw[Io,T] at e
   exact D b (by simpa using e)
end
end Gx
namespace Gx
open Go
theorem xk {g g':A7} {ρ:Nat→Nat}:∀ {ids:List Nat},(∀ b ∈ ids,g b=g' b)→sub g ρ ids=sub g' ρ ids
 | [],_=>rfl
 | b::r,h=>by
  rw[sub,sub,h b (by simp),xk (fun c e=>h c (by simp[e]))]
theorem R_ {g:A7}:∀ {l:List Nat},RM g l=true→∀ b ∈ l,∃ x,g b=some x∧x.dead=false
 | [],_,b,e=>by simp at e
 | i::r,h,b,e=>by
  rw[RM] at h
  simp at h
  rcases Az7.1 e with rfl | e
  ·cases j:g b with
   | none=>rw[j] at h;simp at h
   | some x=>rw[j] at h;exact⟨x,rfl,by simpa using h.1⟩
  ·exact R_ h.2 b e
theorem Al8:∀ {l m:List Nat},Ade l m=true→∀ b ∈ l,b ∉ m
 | [],m,_,b,e=>by simp at e
 | i::r,m,h,b,e=>by
  rw[Ade] at h
  simp at h
  rcases Az7.1 e with rfl | e
  ·intro j;have:=Lf.2 j;rw[this] at h;simp at h
  ·exact Al8 h.2 b e
theorem IF {d:Nat}:∀ {l:List (Nat×Nat)} {b:Nat},b ∈ l.map (·.1)→I9 d l b ∈ l.map (·.2)
 | [],b,e=>by simp at e
 | (i,x)::r,b,e=>by
  rw[I9]
  cases hi:beq i b with
  | true=>simp
  | false =>
   have j:b ∈ r.map (·.1):=by
    rw[A0n] at e
    rcases Az7.1 e with h | h
    ·exact absurd h.symm (Y9 hi)
    ·exact h
   simp only[cond_false,A0n]
   exact A0r _ (IF j)
theorem Zx {d:Nat}:∀ {l m:List (Nat×Nat)} {b:Nat},I9 d (l++m) b=if b ∈ l.map (·.1) then I9 d l b else I9 d m b
 | [],m,b=>by simp
 | (i,x)::r,m,b=>by
  rw[A0u,I9,I9,Zx]
  cases hi:beq i b with
  | true=>have:=A0j hi;subst this;simp
  | false =>
   have:=Y9 hi
   simp only[cond_false,A0n,Az7]
   by_cases e:b ∈ r.map (·.1)
   ·rw[if_pos e,if_pos (.inr e)]
   ·rw[if_neg e,if_neg (by rintro(h | h);exact this h.symm;exact e h)]
theorem J9:∀ {base:Nat} {l:List Nat},(Ax base l).map (·.1)=l
 | _,[]=>rfl
 | base,i::r=>by rw[Ax,A0n,J9]
theorem rB {d d':Nat}:∀ {l:List Nat} {base b:Nat},b ∈ l→I9 d' ((Ax base l).map fun p=>(p.2,p.1)) (I9 d (Ax base l) b)=b
 | [],base,b,e=>by simp at e
 | i::r,base,b,e=>by
  rw[Ax,I9,A0n,I9]
  cases hi:beq i b with
  | true=>have:=A0j hi;subst this;simp
  | false =>
   have j:b ∈ r:=by
    rcases Az7.1 e with h | h
    ·exact absurd h.symm (Y9 hi)
    ·exact h
   simp only[cond_false]
   have k:=B_ (d:=d) (base:=base+1) j
   rw[Q_ (show base≠I9 d (Ax (base+1) r) b by omega)]
   exact rB j
theorem U9:∀ {base:Nat} {l:List Nat} {c:Nat},c ∈ (Ax base l).map (·.2)→base≤c∧c<base+l.length
 | _,[],c,e=>by simp[Ax] at e
 | base,i::r,c,e=>by
  rw[Ax,A0n] at e
  rcases Az7.1 e with h | h
  ·simp at h;subst h;simp
  ·have:=U9 h;simp only[Az5];omega
theorem CB:∀ {base:Nat} {l:List Nat},((Ax base l).map (·.2)).Nodup
 | _,[]=>by simp[Ax]
 | base,i::r=>by
  rw[Ax,A0n,A1s]
  exact⟨fun h=>by have:=U9 h;simp at this;omega,CB⟩
theorem SA:∀ {base:Nat} {l:List Nat} {b:Nat},b ∈ l→(b,I9 0 (Ax base l) b) ∈ Ax base l
 | _,[],b,e=>by simp at e
 | base,i::r,b,e=>by
  rw[Ax,I9]
  cases hi:beq i b with
  | true=>have:=A0j hi;subst this;simp
  | false =>
   have j:b ∈ r:=by
    rcases Az7.1 e with h | h
    ·exact absurd h.symm (Y9 hi)
    ·exact h
   simp only[cond_false]
   exact A0r _ (SA j)
def Aiw (x:Blk):Blk:={ x with dead:=true,pure:=true,cells:=[] }
theorem Mv:∀ {ups:Eo} {h:Az} {b:Nat} {o:Option Blk},(ups.map (·.1)).Nodup→(b,o) ∈ ups→An (Am ups h) b=match o with | some x=>some x | none=>(An h b).map Aiw
 | [],h,b,o,_,q=>by simp at q
 | (i,y)::r,h,b,o,hn,q=>by
  rw[A0n,A1s] at hn
  rcases Az7.1 q with s | j
  ·simp at s
   obtain⟨rfl,rfl⟩:=s
   have k:A4 r b=false:=by
    have:∀ {r:Eo},b ∉ r.map (·.1)→A4 r b=false:=by
     intro r
     induction r with
     | nil=>intro _;rfl
     | cons p r t =>
      intro h
      simp only[A0n,Az7,not_or] at h
      rw[A4,Q_ (fun e=>h.1 e.symm)]
      exact t h.2
    exact this hn.1
   cases o with
   | some x=>rw[Am,Ck _ _ _ k,Aj,if_pos rfl]
   | none =>
    rw[Am,Ck _ _ _ k]
    cases u:An h b with
    | none=>simp[u]
    | some x=>simp only[A5p];rw[Aj,if_pos rfl];rfl
  ·have n:b≠i:=fun e=>by subst e;exact hn.1 (A04.2 ⟨_,j,rfl⟩)
   cases y with
   | some x =>
    rw[Am,Mv hn.2 j]
    cases o with
    | some _=>rfl
    | none=>simp only;rw[Aj,if_neg n]
   | none =>
    rw[Am,Mv hn.2 j]
    cases o with
    | some _=>rfl
    | none =>
     simp only
     split
     ·rw[Aj,if_neg n]
     ·rfl
theorem jR:∀ {ups:Eo} {b:Nat},A4 ups b=true↔b ∈ ups.map (·.1)
 | [],b=>by simp[A4]
 | (i,y)::r,b=>by
  rw[A4,A0n,Az7,←jR]
  cases hi:beq i b with
  | true=>have:=A0j hi;subst this;simp
  | false=>have:=Y9 hi;simp;intro e;exact absurd e.symm this
theorem rC {β:Cd} {h:Az} {ρ:Nat→Nat} {ids:List Nat} (hn:(ids.map ρ).Nodup) {k:Nat} (n:Adi (PK ρ ids β) (sub (An h) ρ ids) k) :
  ∃ b x o,b ∈ ids∧An h b=some x∧x.dead=false∧x.sealed=false∧β b=some (k,o):=by
 obtain⟨c,y,o,q,s,hs,e⟩:=n
 obtain⟨b,x,j,rfl,t,rfl⟩:=N6 hn c y q
 rw[Gs hn j] at e
 exact⟨b,x,o,j,t,s,hs,e⟩
theorem SimH.unJ {J:Bool→Nat→Prop} {β:Cd} {h:Az} {w:World} (S:SimH J β h w) {b:Nat} {x:Blk} {k o:Nat} (n:An h b=some x) (q:x.dead=false) (hs:x.sealed=false) (j:β b=some (k,o)):∀ g,¬ J g k:=by
 cases s:x.mp with
 | false =>
  rcases S.blk b x n q s with⟨e,_⟩ | ⟨u,o2,cs,ty,fr,e,t,z,A,B,v,C⟩
  ·rw[j] at e;cases e
  ·rw[j] at e;simp at e;obtain⟨rfl,rfl⟩:=e
   exact v hs
 | true =>
  obtain⟨_,_,u,ob,e,_,_,t⟩:=S.mblk b x n q s
  rw[j] at e;simp at e;obtain⟨rfl,_⟩:=e
  exact t
theorem SimH.seJ {J:Bool→Nat→Prop} {β:Cd} {h:Az} {w:World} (S:SimH J β h w) {b:Nat} {x:Blk} {k o:Nat} (j:An h b=some x) (n:x.dead=false) (hs:x.sealed=true) (q:β b=some (k,o)):J x.taint k:=by
 cases s:x.mp with
 | false =>
  rcases S.blk b x j n s with⟨e,_⟩ | ⟨u,o2,cs,ty,fr,e,v,z,A,B,C,t⟩
  ·rw[q] at e;cases e
  ·rw[q] at e;simp at e;obtain⟨rfl,rfl⟩:=e
   exact t hs
 | true =>
  have:=(S.mblk b x j n s).2.1
  rw[hs] at this;cases this
theorem Step.merge {J J0 J1:Bool→Nat→Prop} {β β1:Cd} {h h1 H:Az} {w w':World} {D ids:List Nat} (S:SimH J β h w) (S1:SimH J0 β1 h1 w')
  (hH:∀ b,b ∉ D→An H b=An h b)
  (hD:∀ b x,b ∈ D→An H b=some x→x.dead=false→An h1 b=some x)
  (hD1:∀ b x,An h1 b=some x→b ∈ D∧An H b=some x)
  (hnew:∀ b x,b ∈ D→b ∉ ids→An h b≠some x)
  (hold:∀ b x,b ∈ ids→An h b=some x→∃ x',(An H b=some x'∧x'.mp=x.mp)∧(x'.dead=true∨(x.dead=false∧β1 b=β b∧x'.sz=x.sz∧(x.mp=false→x'.cells.length=x.cells.length))))
  (C:∀ b ∈ ids,b ∈ D)
  (os:w'.os=w.os) (tape:w'.tape=w.tape) (output:w'.output=w.output) (size:w.heap.size≤w'.heap.size)
  (frame:∀ k,k<w.heap.size→(¬ ∃ b x o,b ∈ ids∧An h b=some x∧x.dead=false∧x.sealed=false∧β b=some (k,o))→w'.heap[k]?=w.heap[k]?)
  (wr:∀ k,Adi β1 h1 k→k<w.heap.size→∃ b x o,b ∈ ids∧An h b=some x∧x.dead=false∧x.sealed=false∧β b=some (k,o))
  (jup:∀ o k,J0 o k→J o k∨(∃ b x o,b ∈ ids∧An h b=some x∧x.dead=false∧x.sealed=false∧β b=some (k,o))∨w.heap.size≤k)
  (sizes:∀ k,A3 w k≤A3 w' k) :
  Step J β h w (fun o k=>J o k∨J0 o k) (fun b=>if b ∈ D then β1 b else β b) H w'∧Ext J0 β1 h1 w' (fun o k=>J o k∨J0 o k) (fun b=>if b ∈ D then β1 b else β b) H w':=by
 have E0:Ext J0 β1 h1 w' (fun o k=>J o k∨J0 o k) (fun b=>if b ∈ D then β1 b else β b) H w':=by
  refine⟨fun _ _ e=>.inr e,fun _ _ _=>rfl,fun b x j=>?_,fun _ _ _ _=>Az3 _⟩
  obtain⟨z,B⟩:=hD1 b x j
  refine⟨x,⟨B,rfl⟩,?_⟩
  cases q:x.dead
  ·exact .inr ⟨rfl,by simp[z],rfl,fun _=>rfl⟩
  ·exact .inl rfl
 have keepJ:∀ o k,J o k→w'.heap[k]?=w.heap[k]?:=by
  intro o k e
  refine frame k (S.jlt o k e) ?_
  rintro⟨b,x,o',_,j,q,hs,u⟩
  exact S.unJ j q hs u o e
 have E:Ext J β h w (fun o k=>J o k∨J0 o k) (fun b=>if b ∈ D then β1 b else β b) H w':=by
  refine⟨fun _ _ e=>.inl e,keepJ,fun b x j=>?_,fun b k o _=>sizes k⟩
  by_cases hi:b ∈ ids
  ·obtain⟨x',z,B⟩:=hold b x hi j
   refine⟨x',z,?_⟩
   simp only[C b hi,if_true]
   exact B
  ·have hnd:b ∉ D:=fun q=>hnew b x q hi j
   refine⟨x,⟨by rw[hH b hnd];exact j,rfl⟩,?_⟩
   cases q:x.dead
   ·exact .inr ⟨rfl,by simp[hnd],rfl,fun _=>rfl⟩
   ·exact .inl rfl
 have out:∀ {b x},b ∉ D→An H b=some x→An h b=some x:=fun j A=>by rw[←hH _ j];exact A
 refine⟨⟨E,⟨?_,?_,S.gl.ext E,fun b x A q hm=>?_,fun b x A q hm=>by
   by_cases j:b ∈ D
   ·have z:=hD b x j A q
    have M:=S1.mblk b x z q hm
    refine M.keep (by simp[j]) (fun _ _ _=>rfl) (fun g k o u e=>?_)
    rcases e with e | e
    ·exfalso
     by_cases I:k<w.heap.size
     ·obtain⟨L,x',o',t,v,s,F,n⟩:=wr k ⟨b,x,o,z,q,M.2.1,u⟩ I
      exact S.unJ v s F n g e
     ·exact I (S.jlt g k e)
    ·exact e
   ·have z:=out j A
    have M:=S.mblk b x z q hm
    have G:∀ k o,β b=some (k,o)→¬ ∃ b x o,b ∈ ids∧An h b=some x∧x.dead=false∧x.sealed=false∧β b=some (k,o):=by
     rintro k o B ⟨L,x',o',t,v,s,F,n⟩
     have:=S.sep b L x x' k o o' z v q s M.2.1 B n
     subst this
     exact j (C b t)
    refine M.keep (by simp[j]) (fun k o u=>frame k (Yp S z q u) (G k o u)) (fun g k o u e=>?_)
    rcases e with e | e
    ·exact e
    ·rcases jup g k e with e | e | e
     ·exact e
     ·exact absurd e (G k o u)
     ·have:=Yp S z q u;omega,?_⟩,os,tape,output,size,?_,?_,?_⟩,E0⟩
 ·rintro o k (e | e)
  ·exact A1g (S.jlt o k e) size
  ·exact S1.jlt o k e
 ·rintro k (e | e)
  ·exact .inl (S.jft k e)
  ·exact .inr (S1.jft k e)
 ·by_cases j:b ∈ D
  ·have z:=hD b x j A q
   rcases S1.blk b x z q hm with⟨B,Y⟩ | ⟨k,o,cs,ty,fr,B,Y,h5,h6,h7,h8,h9⟩
   ·exact .inl ⟨by simp[j,B],Y⟩
   ·refine .inr ⟨k,o,cs,ty,fr,by simp[j,B],Y,h5,h6,h7.ext E0,fun hs g e=>?_,fun hs=>.inr (h9 hs)⟩
    rcases e with e | e
    ·by_cases I:k<w.heap.size
     ·obtain⟨L,x',o',t,v,s,F,n⟩:=wr k ⟨b,x,o,z,q,hs,B⟩ I
      exact S.unJ v s F n g e
     ·exact I (S.jlt g k e)
    ·exact h8 hs g e
  ·have z:=out j A
   rcases S.blk b x z q hm with⟨B,Y⟩ | ⟨k,o,cs,ty,fr,B,Y,h5,h6,h7,h8,h9⟩
   ·exact .inl ⟨by simp[j,B],Y⟩
   ·have I:=LQ Y
    have G:x.sealed=false→¬ ∃ b x o,b ∈ ids∧An h b=some x∧x.dead=false∧x.sealed=false∧β b=some (k,o):=by
     rintro hs ⟨L,x',o',t,v,s,F,n⟩
     have:=S.sep b L x x' k o o' z v q s hs B n
     subst this
     exact j (C b t)
    have same:w'.heap[k]?=w.heap[k]?:=by
     cases hs:x.sealed with
     | false=>exact frame k I (G hs)
     | true=>exact keepJ _ k (h9 hs)
    refine .inr ⟨k,o,cs,ty,fr,by simp[j,B],by rw[same];exact Y,h5,h6,h7.ext E,fun hs g e=>?_,fun hs=>.inl (h9 hs)⟩
    rcases e with e | e
    ·exact h8 hs g e
    ·rcases jup g k e with e | e | e
     ·exact h8 hs g e
     ·exact G hs e
     ·omega
 ·intro b L x x' k o o' A v q s hs u n
  by_cases j:b ∈ D<;>by_cases t:L ∈ D
  ·simp[j] at u;simp[t] at n
   exact S1.sep b L x x' k o o' (hD b x j A q) (hD L x' t v s) q s hs u n
  ·exfalso
   simp[j] at u;simp[t] at n
   have z:=out t v
   have I:=Yp S z s n
   obtain⟨b2,x2,o2,hb2,T,U,X,V⟩:=wr k ⟨b,x,o,hD b x j A q,q,hs,u⟩ I
   have:=S.sep b2 L x2 x' k o2 o' T z U s X V n
   subst this
   exact t (C _ hb2)
  ·exfalso
   simp[j] at u;simp[t] at n
   have z:=out j A
   have B:=hD L x' t v s
   have I:=Yp S z q u
   have G:¬ ∃ b x o,b ∈ ids∧An h b=some x∧x.dead=false∧x.sealed=false∧β b=some (k,o):=by
    rintro⟨b2,x2,o2,hb2,T,U,X,V⟩
    have:=S.sep b b2 x x2 k o o2 z T q U hs u V
    subst this
    exact j (C _ hb2)
   cases F:x'.sealed with
   | false=>exact G (wr k ⟨L,x',o',B,s,F,n⟩ I)
   | true =>
    rcases jup _ k (S1.seJ B s F n) with e | e | e
    ·exact S.unJ z q hs u _ e
    ·exact G e
    ·omega
  ·simp[j] at u;simp[t] at n
   exact S.sep b L x x' k o o' (out j A) (out t v) q s hs u n
 ·intro k I hm
  exact frame k I (fun ⟨b,x,o,_,A,q,hs,u⟩=>hm ⟨b,x,o,A,q,hs,u⟩)
 ·rintro k ⟨b,x,o,A,q,hs,u⟩ I
  by_cases j:b ∈ D
  ·simp[j] at u
   obtain⟨b2,x2,o2,_,T,U,X,V⟩:=wr k ⟨b,x,o,hD b x j A q,q,hs,u⟩ I
   exact⟨b2,x2,o2,T,U,X,V⟩
  ·simp[j] at u
   exact⟨b,x,o,out j A,q,hs,u⟩
 ·rintro o k (e | e)
  ·exact .inl e
  ·rcases jup o k e with e | ⟨b,x,o2,_,A,q,hs,u⟩ | e
   ·exact .inl e
   ·exact .inr (.inl ⟨b,x,o2,A,q,hs,u⟩)
   ·exact .inr (.inr e)
theorem Aix {l:List Nat}:zR l=true↔l=[]:=by cases l<;>simp[zR]
theorem LZ {α β:Type} {f:α→β}:∀ {l:List α},(l.map f).Nodup→l.Nodup
 | [],_=>A5y
 | a::r,h=>by
  rw[A0n,A1s] at h
  exact A1s.2 ⟨fun e=>h.1 (A04.2 ⟨a,e,rfl⟩),LZ h.2⟩
theorem L_ {α:Type} {p:α→Bool}:∀ {l:List α},l.Nodup→(l.filter p).Nodup
 | [],_=>A5y
 | a::r,h=>by
  rw[A1s] at h
  rw[A3l]
  split
  ·exact A1s.2 ⟨fun e=>h.1 (A23.1 e).1,L_ h.2⟩
  ·exact L_ h.2
theorem eG {base:Nat} {l:List Nat} {p:Nat×Nat} (e:p ∈ Ax base l):p.1 ∈ l:=by
 have:p.1 ∈ (Ax base l).map (·.1):=A04.2 ⟨p,e,rfl⟩
 rw[J9] at this;exact this
theorem Al9 {σ:Nat→Nat}:∀ {l:List Nat} {a b:Nat},(l.map σ).Nodup→a ∈ l→b ∈ l→σ a=σ b→a=b
 | [],a,b,_,k,_,_=>by simp at k
 | i::r,a,b,hn,k,q,n=>by
  rw[A0n,A1s] at hn
  rcases Az7.1 k with e | e<;>rcases Az7.1 q with j | j
  ·rw[e,j]
  ·subst e;exact absurd (A04.2 ⟨b,j,n.symm⟩) hn.1
  ·subst j;exact absurd (A04.2 ⟨a,e,n⟩) hn.1
  ·exact Al9 hn.2 e j n
theorem Arm {E:Env} (hT:Aef E.P E.tbl):bI E:=by
 intro R r k J β h w g d f args vs S hl hh hv
 unfold xZ at hh
 obtain⟨⟨args',im,fz⟩,C,h1⟩:=ub hh
 simp only at h1
 obtain⟨s,h2⟩:=uc h1
 simp only[A0a] at s
 obtain⟨X,him,Y,hdj,t,_⟩:=s
 generalize hids:BS g im=ids at *
 generalize hρ:I9 0 (Ax 100000 ids)=ρ at *
 have X:=R_ X
 have him:=Ph him
 have hdj:=Al8 hdj
 have t:=U7 t
 have hg:∀ b ∈ ids,g b=An h b:=fun b j=>by obtain⟨x,n,_⟩:=X b j;rw[n,hl b x n]
 rw[EL (g:=An h) hg] at Y
 have Y:=Ph Y
 rw[xk (g':=An h) hg] at h2
 obtain⟨hA,hB⟩:=CA (fz:=fz) S hl C (fun _ h=>h) hv
 have aliveH:∀ b ∈ ids,∃ x,An h b=some x∧x.dead=false:=fun b j=>by obtain⟨x,n,G⟩:=X b j;exact⟨x,hl b x n,G⟩
 have SJ:SimH (JS J β h fz) (PK ρ ids β) (sub (An h) ρ ids) w:=by
  refine(S.ren t Y).grow (fun o k u=>.inl u) ?_ ?_ ?_
  ·rintro o k (u | ⟨_,b,x,o',_,n,G,_,hβ⟩)
   ·exact S.jlt o k u
   ·exact Yp S n G hβ
  ·rintro k (u | ⟨h0,_⟩)
   ·exact .inl (S.jft k u)
   ·cases h0
  ·intro c y k o hy G hs hβ q u
   obtain⟨b,x,j,rfl,n,rfl⟩:=N6 t c y hy
   rw[Gs t j] at hβ
   rcases u with u | ⟨_,b',x',o',hb',hx',hd',hs',hβ'⟩
   ·exact S.unJ n G hs hβ _ u
   ·have:=S.sep b b' x x' k o o' n hx' G hd' hs hβ hβ'
    subst this
    exact hdj b hb' j
 have RJ:Reps (JS J β h fz) (PK ρ ids β) (sub (An h) ρ ids) w (Y8 ρ args') vs:=Reps.ren t (fun b j=>him b (hB b j)) hA
 obtain⟨rv,rh,hF,h3⟩:=Aeg hT h2
 have hcall:=hF _ _ w vs SJ RJ
 obtain⟨A,h4⟩:=Aib h3
 obtain⟨hc2,h5⟩:=uc h4
 simp only[A0a] at hc2
 obtain⟨I,hn16,hrv,z,L,v⟩:=hc2
 generalize hall:BS (An rh) (Gq rv++(Ax 100000 ids).map (·.2))=all at *
 generalize T:all.filter (fun b=>!Ip ((Ax 100000 ids).map (·.2)) b)=new at *
 generalize hσ:I9 0 ((Ax 100000 ids).map (fun p=>(p.2,p.1))++Ax (nid d) new)=σ at *
 have I:=R_ I
 have hrv:=Ph hrv
 have z:=Ph z
 have L:=Ph L
 have v:=U7 v
 have hn16:new.length≤16:=by simpa using hn16
 refine⟨_,_,h5,fun hfree=>Calls.mono hcall ?_⟩
 rintro e w' ⟨vc,J',β',rfl,F,hR⟩
 refine⟨vc,rfl,?_⟩
 have back:∀ b ∈ ids,σ (ρ b)=b:=by
  intro b j
  rw[←hσ,Zx,if_pos,←hρ]
  ·exact rB j
  ·rw[A25]
   have:=IF (d:=0) (l:=Ax 100000 ids) (b:=b) (by rw[J9];exact j)
   rw[hρ] at this
   exact this
 have ρall:∀ b ∈ ids,ρ b ∈ all:=by
  intro b j
  refine z _ ?_
  have:=IF (d:=0) (l:=Ax 100000 ids) (b:=b) (by rw[J9];exact j)
  rw[hρ] at this
  exact this
 have σout:∀ c ∈ all,c ∈ (Ax 100000 ids).map (·.2)→σ c ∈ ids:=by
  intro c _ s
  rw[←hσ,Zx,if_pos (by rw[A25];exact s)]
  have:=IF (d:=0) (l:=(Ax 100000 ids).map (fun p=>(p.2,p.1))) (b:=c) (by rw[A25];exact s)
  rw[A25] at this
  have e:(Ax 100000 ids).map ((fun x=>x.2)∘fun p=>(p.2,p.1))=ids:=J9
  rw[e] at this
  exact this
 have newmem:∀ c ∈ new,c ∈ all∧c ∉ (Ax 100000 ids).map (·.2):=by
  intro c s
  rw[←T] at s
  obtain⟨U,h7⟩:=A23.1 s
  refine⟨U,fun B=>?_⟩
  rw[Lf.2 B] at h7;simp at h7
 have σnew:∀ c ∈ new,σ c=I9 0 (Ax (nid d) new) c:=by
  intro c s
  rw[←hσ,Zx,if_neg]
  rw[A25];exact(newmem c s).2
 have allcases:∀ c ∈ all,c ∈ (Ax 100000 ids).map (·.2)∨c ∈ new:=by
  intro c s
  by_cases B:c ∈ (Ax 100000 ids).map (·.2)
  ·exact .inl B
  ·refine .inr ?_
   rw[←T]
   refine A23.2 ⟨s,?_⟩
   cases hq:Ip ((Ax 100000 ids).map (·.2)) c with
   | false=>rfl
   | true=>exact absurd (Lf.1 hq) B
 generalize V:((Ax 100000 ids).map fun p=>(p.1,(An rh p.2).map (EE σ)))++(Ax (nid d) new).map (fun p=>(p.2,(An rh p.1).map (EE σ)))=ups at *
 have keys:ups.map (·.1)=ids++(Ax (nid d) new).map (·.2):=by
  rw[←V,A15,A25,A25]
  congr 1
  exact J9
 have newFree:∀ c ∈ (Ax (nid d) new).map (·.2),An h c=none:=by
  intro c s
  refine hfree c (jR.2 (by rw[keys];exact A0f.2 (.inr s))) ?_
  have:=U9 s
  unfold HY
  simp;omega
 have keysN:(ups.map (·.1)).Nodup:=by
  rw[keys,List.nodup_append]
  refine⟨LZ t,CB,fun a ha b j e=>?_⟩
  subst e
  obtain⟨x,n,_⟩:=aliveH a ha
  rw[newFree a j] at n;cases n
 have upsOld:∀ b ∈ ids,(b,(An rh (ρ b)).map (EE σ)) ∈ ups:=by
  intro b j
  rw[←V]
  refine A0f.2 (.inl (A04.2 ⟨(b,ρ b),?_,rfl⟩))
  rw[←hρ];exact SA j
 have upsNew:∀ c ∈ new,(σ c,(An rh c).map (EE σ)) ∈ ups:=by
  intro c s
  rw[←V]
  refine A0f.2 (.inr (A04.2 ⟨(c,σ c),?_,rfl⟩))
  rw[σnew c s];exact SA s
 have J0:∃ J0:Bool→Nat→Prop,SimH J0 β' rh w'∧Rep J0 β' rh w' rv vc∧∀ o k,J0 o k→J o k∨Adi (PK ρ ids β) (sub (An h) ρ ids) k∨w.heap.size≤k:=by
  cases he:zR fz with
  | true =>
   have:=Aix.1 he
   subst this
   refine⟨J',F.sim,hR,fun o k u=>?_⟩
   rcases F.jup o k u with(u | ⟨_,b,x,o',j,_⟩) | u
   ·exact .inl u
   ·simp at j
   ·exact .inr u
  | false =>
   rw[he] at A
   simp at A
   refine⟨fun _=>J' false,F.sim.noOrg A.2,Rep.noOrg A.1 hR,fun o k u=>?_⟩
   rcases F.jup false k u with(U | ⟨h0,_⟩) | U
   ·left
    cases o
    ·exact U
    ·exact S.jft k U
   ·cases h0
   ·exact .inr U
 obtain⟨J0,S0,R0,jup0⟩:=J0
 have S1:=S0.ren v L
 have R1:=Rep.ren v hrv R0
 have M:=Step.merge (J:=J) (J0:=J0) (J1:=J0) (H:=Am ups h) (D:=ids++(Ax (nid d) new).map (·.2)) (ids:=ids) S S1
  (fun b j=>Ck _ _ _ (by
   cases hi:A4 ups b with
   | false=>rfl
   | true=>exact absurd (by rw[←keys];exact jR.1 hi) j))
  (fun b x j n G=>by
   rcases A0f.1 j with j | j
   ·rw[Mv keysN (upsOld b j)] at n
    cases hq:An rh (ρ b) with
    | none =>
     rw[hq] at n;simp at n
     obtain⟨y,_,rfl⟩:=n
     simp[Aiw] at G
    | some y =>
     rw[hq] at n;simp at n;subst n
     have:=EM (g:=An rh) v (ρ b) y (ρall b j) hq
     rw[back b j] at this
     exact this
   ·obtain⟨c,s,rfl⟩:∃ c ∈ new,σ c=b:=by
     obtain⟨p,C,rfl⟩:=A04.1 j
     have hp1:p.1 ∈ new:=eG C
     refine⟨p.1,hp1,?_⟩
     rw[σnew _ hp1]
     have:∀ {base:Nat} {l:List Nat} {p:Nat×Nat},l.Nodup→p ∈ Ax base l→I9 0 (Ax base l) p.1=p.2:=by
      intro base l
      induction l generalizing base with
      | nil=>intro p _ C;simp[Ax] at C
      | cons i r ih =>
       intro p hn C
       rw[A1s] at hn
       rw[Ax] at C ⊢
       rw[I9]
       rcases Az7.1 C with rfl | C
       ·simp
       ·have:p.1 ∈ r:=eG C
        rw[Q_ (fun e=>hn.1 (by rw[e];exact this))]
        exact ih hn.2 C
     refine this ?_ C
     rw[←T]
     exact L_ (LZ v)
    rw[Mv keysN (upsNew c s)] at n
    obtain⟨y,hy,_⟩:=I c s
    rw[hy] at n;simp at n;subst n
    exact EM (g:=An rh) v c y (newmem c s).1 hy)
  (fun b x j=>by
   obtain⟨c,y,s,rfl,hy,rfl⟩:=N6 v b x j
   rcases allcases c s with B | B
   ·have U:=σout c s B
    have h7:ρ (σ c)=c:=by
     have:(all.map σ).Nodup:=v
     have e1:=back (σ c) U
     have e2:=ρall (σ c) U
     exact Al9 this e2 s e1
    refine⟨A0f.2 (.inl U),?_⟩
    rw[Mv keysN (upsOld (σ c) U),h7,hy];rfl
   ·refine⟨A0f.2 (.inr ?_),?_⟩
    ·rw[σnew c B]
     exact IF (by rw[J9];exact B)
    ·rw[Mv keysN (upsNew c B),hy];rfl)
  (fun b x j hni n=>by
   rcases A0f.1 j with j | j
   ·exact hni j
   ·rw[newFree b j] at n;cases n)
  (fun b x j n=>by
   rw[Mv keysN (upsOld b j)]
   cases hq:An rh (ρ b) with
   | none=>exact⟨Aiw x,⟨by simp[n],rfl⟩,.inl rfl⟩
   | some y =>
    cases G:y.dead with
    | true=>have:=F.live _ _ hq;rw[G] at this;cases this
    | false =>
     have e0:=EM (g:=An h) t b x j n
     obtain⟨⟨e1,em⟩,e2,e3,e4⟩:=F.outs (ρ b) _ y e0 hq G
     refine⟨EE σ y,⟨by simp,em⟩,.inr ?_⟩
     refine⟨e4,?_,e2,fun hmx=>?_⟩
     ·have:=Gs (β:=β') v (ρall b j)
      rw[back b j] at this
      rw[this,e1]
      exact Gs t j
     ·rw[Mu,e3 hmx,Mu])
  (fun b j=>A0f.2 (.inl j))
  F.os F.tape F.output F.size
  (fun k hk B=>F.frame k hk (fun hm'=>B (rC t hm')))
  (fun k B hk=>rC t (F.wr k (zl v B) hk))
  (fun o k u=>by
   rcases jup0 o k u with u | u | u
   ·exact .inl u
   ·exact .inr (.inl (rC t u))
   ·exact .inr (.inr u))
  F.sizes
 exact⟨_,_,M.1,Rep.ext M.2 R1⟩
theorem Aek {P:Program} {muts:Nat→List Bool} {T:List (Nat×Tw)} {hs:Hints} {N f:Nat} {e:LA} {h:Az} {t:AV} {h':Az} (hT:Aef P T) (G:P.follows .mixedOrders=true)
  (hh:xa P muts T hs N f e h (fun v h'=>some (v,h'))=some (t,h')):Axf P f e h t h':=by
 unfold xa at hh
 split at hh
 ·simp at hh
 ·rename_i fn L
  split at hh
  ·simp at hh
  ·rename_i c Y
   simp only at hh
   obtain⟨z,h1⟩:=uc hh
   simp only[A0a] at z
   obtain⟨u,n⟩:=z
   have u:e.length≤fn.ntmps:=by simpa using u
   intro J β w vs S X
   have hvl:vs.length=e.length:=((Ce).1 X).1
   refine calls_of_wp L Y ?_
   have roots:∀ {h:Az} {b:Nat} {x:Blk},pi h=true→An h b=some x→qT b=true:=by
    intro h
    induction h with
    | nil=>intro b x _ k;simp[An] at k
    | cons p r U =>
     intro b x hr k
     obtain⟨i,y⟩:=p
     rw[pi] at hr
     simp at hr
     rw[An] at k
     cases hi:beq i b with
     | true=>have:=A0j hi;subst this;exact hr.1
     | false=>rw[hi] at k;exact U hr.2 (by simpa using k)
   have sgetI:∀ {e:LA} {j i:Nat},F4 (x_ j e) i=if j≤i then (e[i - j]?).getD .undef else .undef:=by
    intro e
    induction e with
    | nil=>intro j i;simp[x_,F4]
    | cons v r U =>
     intro j i
     rw[x_,F4]
     cases hi:beq j i with
     | true=>have:=A0j hi;subst this;simp
     | false =>
      have:=Y9 hi
      simp only[cond_false]
      rw[U]
      by_cases A:j+1≤i
      ·rw[if_pos A,if_pos (by omega),show i - j=(i - (j+1))+1 by omega];simp
      ·rw[if_neg A]
       by_cases q:j≤i
       ·omega
       ·rw[if_neg q]
   have I:Inv ⟨J,β,h,w⟩ fn.ntmps J β { s:=x_ 0 e,h:=h } { tmps:=vs.toArray++Array.replicate (fn.ntmps - vs.toArray.size) undef,defers:=[] } w:=by
    refine⟨S,⟨fun i v hi=>?_,fun i hi=>?_⟩,?_,rfl,rfl,rfl,rfl,Az3 _,fun _ _ _=>rfl,fun _ G _=>G,fun _ _ V=>V,fun _ _ V=>.inl V,fun _=>Az3 _,?_,?_,?_⟩
    ·rw[sgetI,if_pos (A4l _)]
     by_cases B:i<e.length
     ·have q:e[i - 0]?=some e[i]:=by simp[B]
      rw[q]
      have C:vs[i]?=some v:=by
       rw[A3v (by simp;omega)] at hi
       simpa using hi
      exact((Ce).1 X).2 i _ _ (by simp[B]) C
     ·have q:e[i - 0]?=none:=by simp;omega
      rw[q];simp[Rep]
    ·simp at hi
     rw[sgetI,if_pos (A4l _)]
     have q:e[i - 0]?=none:=by simp;omega
     rw[q];rfl
    ·simp;omega
    ·intro b x0 k;exact(qw.1 (roots n k)).2
    ·intro b x0 k;exact(qw.1 (roots n k)).1
    ·intro b x0 x k D hd
     change An h b=some x0 at k
     change An h b=some x at D
     rw[k] at D;simp at D;subst D
     exact⟨⟨rfl,rfl⟩,rfl,fun _=>rfl,hd⟩
   have fin:∀ st' F w' J' β',Inv ⟨J,β,h,w⟩ fn.ntmps J' β' st' F w'→Zs { P:=P,nt:=fn.ntmps,muts:=muts,nils:=hs.nils,free:=hs.free,cob:=hs.cob,tbl:=T } fn hs.modes (h.map (·.1)) (fun v h'=>some (v,h')) st'=some (t,h') →
     F.defers=[]∧∃ v,(results fn F.tmps).run P w'=.ok v w'∧∃ vc J' β',Ending.returned v=.returned vc∧FDone ⟨J,β,h,w⟩ J' β' h' w'∧Rep J' β' h' w' t vc:=by
    intro st' F w' J' β' I' q
    obtain⟨Mw,h2',vc,J2,β2,C,h4,h5,h6⟩:=vZ I' q
    simp at C
    obtain⟨rfl,rfl⟩:=C
    exact⟨I'.defers,vc,h4,vc,J2,β2,rfl,h5,h6⟩
   exact Aee (E:={ P:=P,nt:=fn.ntmps,muts:=muts,nils:=hs.nils,free:=hs.free,cob:=hs.cob,tbl:=T }) (Arm hT) G c I h1 fin (fun _ _ _ _ _ _ _ q=>by simp at q) fin
end Gx
namespace Gx
open Go
section
variable {R R':Type}
theorem Aiy (E:Env) (ops:Array Oper) (o:Oper) (st:St) (k:St→Foot→O R) (g:R→Option R'):(Adf E ops o st k).bind g=Adf E ops o st fun st f=>(k st f).bind g:=by
 rw[WE,WE,Az4]
theorem zn (ops:Array Oper) (o:Oper) (st:St) (k:St→O R) (g:R→Option R'):(jE ops o st k).bind g=jE ops o st fun st=>(k st).bind g:=by
 unfold jE
 split
 ·rfl
 ·split
  ·rfl
  ·split
   ·rw[Aq]
   ·rfl
theorem rD (E:Env) (ops:Array Oper) (g:R→Option R'):∀ (l:List Oper) (st:St) (tr:List Foot) (k:St→List Foot→O R),(qQ E ops l st tr k).bind g=qQ E ops l st tr fun st tr=>(k st tr).bind g
 | [],st,tr,k=>rfl
 | o::r,st,tr,k=>by
  rw[qQ,qQ,zn]
  congr 1;funext st
  rw[Aiy]
  congr 1;funext st f
  exact rD E ops g r st (f::tr) k
theorem v_ (E:Env) (roots:List Nat) (ops:Array Oper) (draw:Bool) (st:St) (k:St→O R) (g:R→Option R'):(V_ E roots ops draw st k).bind g=V_ E roots ops draw st fun st=>(k st).bind g:=by
 unfold V_
 rw[rD]
 congr 1;funext st tr
 rw[Aq,Az4];rfl
theorem Aiz (E:Env) (roots:List Nat) (H:Hint) (f:St→O R) (g:R→Option R') (st:St):(Anr E roots H f st).bind g=Anr E roots H (fun st=>(f st).bind g) st:=by
 unfold Anr
 rw[Aq,Az4,EI,EI]
theorem li (cn:St→Option St) (b1:(St→O R)→St→O R) (e:(St→Option R')→St→Option R') (g:R→Option R') (j:∀ k st,(b1 k st).bind g=e (fun st=>(k st).bind g) st):∀ n st,(RO cn b1 n st).bind g=RO cn e n st
 | 0,st=>rfl
 | n+1,st=>by
  rw[RO,RO,j]
  congr 1;funext st
  rw[Az4]
  congr 1;funext st
  exact li cn b1 e g j n st
theorem Ael (E:Env) (roots:List Nat) (N:Nat) (g:R→Option R'):∀ (c:Code) (H:Hint) (k:St→O R) (x:Nat→St→O R) (r:St→O R) (st:St),
  (F6 E roots N c H k x r st).bind g=F6 E roots N c H (fun st=>(k st).bind g) (fun j st=>(x j st).bind g) (fun st=>(r st).bind g) st:=by
 intro c
 induction c with
 | skip=>intro H k x r st;rfl
 | region id ops draw=>intro H k x r st;exact v_ ..
 | seq a b e n =>
  intro H k x r st
  rw[F6,F6,e]
  congr 1;funext st
  rw[Aiz]
  congr 1;funext st
  exact n ..
 | cond c a b e n =>
  intro H k x r st
  rw[F6,F6]
  split
  ·rw[Aq,e,n]
  ·rfl
 | block id c q =>
  intro H k x r st
  rw[F6,F6,q]
  simp only[Aq]
 | loop c q =>
  intro H k x r st
  rw[F6,F6,Az4,EI,EI]
  congr 1;funext st
  exact li _ _ _ g (fun k st=>q ..) N st
 | exit id=>intro H k x r st;rfl
 | ret=>intro H k x r st;rfl
 | rangeFunc=>intro H k x r st;rfl
 | scope=>intro H k x r st;rfl
 | label=>intro H k x r st;rfl
 | goto=>intro H k x r st;rfl
 | refuse=>intro H k x r st;rfl
theorem GT (E:Env) (st:St) (g:R→Option R'):∀ (l:List ResultVar) (e:LA) (k:LA→O R),(N2 E st l e k).bind g=N2 E st l e fun l=>(k l).bind g
 | [],e,k=>rfl
 | .tmp t::r,e,k=>by rw[N2,N2];exact GT E st g r _ k
 | .cell a t::r,e,k=>by
  rw[N2,N2,LX,LX (R:=R'),Az4]
  congr 1;funext v
  exact GT E st g r _ k
theorem va (E:Env) (fn:Func) (modes:List (Nat×Nat)) (outs:List Nat) (k:AV→Az→O R) (g:R→Option R') (st:St):(Zs E fn modes outs k st).bind g=Zs E fn modes outs (fun v h=>(k v h).bind g) st:=by
 unfold Zs
 rw[GT]
 congr 1;funext l
 rw[Az4]
 congr 1;funext q
 rw[Aq];rfl
theorem Ai0 (P:Program) (muts:Nat→List Bool) (T:List (Nat×Tw)) (hs:Hints) (N f:Nat) (e:LA) (h:Az) (k:AV→Az→O R) :
  xa P muts T hs N f e h k=(xa P muts T hs N f e h fun v h=>some (v,h)).bind fun p=>k p.1 p.2:=by
 unfold xa
 split
 ·rfl
 ·split
  ·rfl
  ·simp only
   rw[Aq,Ael]
   simp only[va]
   rfl
structure Cut (R:Type) where
 c:Code
 H:Hint
 k:St→O R
 x:Nat→St→O R
 r:St→O R
noncomputable def Awc (E:Env) (roots:List Nat) (N:Nat):List Nat→Code→Hint→(St→O R)→(Nat→St→O R)→(St→O R)→List (St→O R)→Cut R
 | [],c,H,k,x,r,_=>⟨c,H,k,x,r⟩
 | d::p,.seq a b,H,k,x,r,ks=>cond (beq d 0) (Awc E roots N p a H.a (Anr E roots H fun st=>F6 E roots N b H.b k x r st) x r ks) (Awc E roots N p b H.b k x r ks)
 | d::p,.cond _ a b,H,k,x,r,ks=>cond (beq d 0) (Awc E roots N p a H.a k x r ks) (Awc E roots N p b H.b k x r ks)
 | _::p,.block id c,H,k,x,r,ks=>Awc E roots N p c H.a k (fun j st=>cond (beq j id) (k st) (x j st)) r ks
 | _::p,.loop c,H,_,x,r,q::ks=>Awc E roots N p c H.a (fun st=>(dp E H.live roots st).bind q) x r ks
 | _::_,c,H,k,x,r,_=>⟨c,H,k,x,r⟩
def Aem:Code→Code
 | .loop c=>c
 | c=>c
structure CutB (R:Type) where
 E:Env
 roots:List Nat
 N:Nat
 c:Cut R
noncomputable def A0 (q:CutB R) (st:St):O R:=F6 q.E q.roots q.N q.c.c q.c.H q.c.k q.c.x q.c.r st
noncomputable def Ai1 (q:CutB R) (st:St):O R:=Arb true (fun st=>F6 q.E q.roots q.N q.c.c q.c.H q.c.k q.c.x q.c.r st) st
theorem An4 (q:CutB R) (st:St):Ai1 q st=A0 q st:=by unfold Ai1;rw[EI];rfl
noncomputable def Ao (q:CutB R) (n:Nat) (st:St):O R:=RO (dp q.E q.c.H.live q.roots) (fun k st=>F6 q.E q.roots q.N (Aem q.c.c) q.c.H.a k q.c.x q.c.r st) n st
noncomputable def Arn (q:CutB R) (st:St):O R:=Arb true (RO (dp q.E q.c.H.live q.roots) (fun k st=>F6 q.E q.roots q.N (Aem q.c.c) q.c.H.a k q.c.x q.c.r st) q.N) st
theorem Aro (q:CutB R) (st:St):Arn q st=Ao q q.N st:=by unfold Arn;rw[EI];rfl
def Awd (fn:Func):Code:=match fn.body with | some c=>c | none=>.skip
def Avn:List (Nat×List Bool)→Nat→List Bool
 | [],_=>[]
 | (i,l)::r,f=>cond (beq i f) l (Avn r f)
end
end Gx
namespace Gx
open Go
abbrev KF (R:Type):=AV→Az→Option R
abbrev hL:Hint:=.leaf
abbrev hS (a b:Hint):Hint:=.node [] a b
abbrev hP (l:List Nat) (a:Hint):Hint:=.node l a .leaf
abbrev hJ (l:List Nat) (a b:Hint):Hint:=.join l a b
def Aua (P:Program) (muts:Nat→List Bool) (nt:Nat) (hs:Hints) (T:List (Nat×Tw)):Env:={ P,nt,muts,nils:=hs.nils,free:=hs.free,cob:=hs.cob,tbl:=T }
noncomputable def Azj {R:Type} (P:Program) (muts:Nat→List Bool) (fn:Func) (hs:Hints) (T:List (Nat×Tw)) (roots:List Nat) (N:Nat) (F:KF R) (p:List Nat) (ks:List (St→O R)):CutB R :=
 ⟨Aua P muts fn.ntmps hs T,roots,N,Awc (Aua P muts fn.ntmps hs T) roots N p (Awd fn) hs.H (Zs (Aua P muts fn.ntmps hs T) fn hs.modes roots F) (fun _ _=>none) (Zs (Aua P muts fn.ntmps hs T) fn hs.modes roots F) ks⟩
def iv (n:Int):AV:=.int .i64 n
def op (k:Nat):AV:=.optr (300000+k) 0
def Azc:Nat→List Blk→Az
 | _,[]=>[]
 | i,b::r=>(i,b)::Azc (i+1) r
def hq (l:List Blk):Az:=Azc 300000 l
def bQ (sz:Nat) (c:LA):Blk:=⟨false,false,true,false,sz,c,false,none⟩
def bN (sz:Nat) (c:LA):Blk:=⟨false,false,false,false,sz,c,false,none⟩
def bP (t:Bool) (sz:Nat) (c:LA):Blk:=⟨false,false,true,t,sz,c,false,none⟩
def As {R:Type} (kd:IntKind) (c:LA) (k:Int→O R):O R:=(c.head?).bind fun x=>(YL kd x).bind k
def Ud {R:Type} (c:LA) (k:Bool→O R):O R:=(c.head?).bind fun x=>(asBool x).bind k
def bU {R:Type} (c:LA) (k:Lu→O R):O R:=(c.head?).bind fun x=>(lF x).bind k
def Aw {R:Type} (sz:Nat) (c:LA) (k:LA→Nat→O R):O R:=(c.head?).bind fun x=>(Aq1 sz x).bind fun p=>k p.1 p.2
def Ai2 (k:IntKind) (a b:Int):Int:=k.wrap ((BitVec.ofInt k.bits a &&& BitVec.ofInt k.bits b).toNat:Int)
def Rj (k:IntKind) (a b:Int):Int:=k.wrap ((BitVec.ofInt k.bits a ||| BitVec.ofInt k.bits b).toNat:Int)
def At (s:Lu):LA:=s.map fun b=>.int .u8 (b.toNat:Int)
theorem vO {α δ:Type} (f:α→δ) {a e:α} (j:a=e):f a=f e:=by rw[j]
end Gx
namespace Gx
open Go Go.RowKit
theorem An5 {P:Program} {f:Nat} {t:Tw} (q:qx P f t) {W:World} {avs:LA} {vs:List Value} (hr:Reps (fun _ k=>k<W.heap.size) (fun _=>none) [] W avs vs)
  (n:(t.runK avs [] fun v h=>some (v,h))=some (.bool true,[])) (s:GlobOk (fun _ k=>k<W.heap.size) W):Calls P f vs.toArray W fun e w'=>e=.returned (.bool true)∧Below W.heap.size W w':=by
 have S:SimH (fun _ k=>k<W.heap.size) (fun _=>none) [] W:=⟨fun _ _ h=>h,fun _ h=>h,s,fun b x j=>by simp[An] at j,fun b x j=>by simp[An] at j,fun b A x x' k o o' j=>by simp[An] at j⟩
 refine Calls.mono (q avs [] _ _ n _ _ W vs S hr) ?_
 rintro e w' ⟨vc,J',β',rfl,F,u⟩
 rw[Rep] at u;subst u
 refine⟨rfl,F.os,F.tape,F.output,F.size,fun k z=>F.frame k z ?_⟩
 rintro⟨b,x,o,j,_⟩
 change An [] b=some x at j
 simp[An] at j
structure Opens (P:Program) (t:TypeId) {α:Type} (e:α→List AV) (n:Nat):Prop where
 size:P.cellsOf t=n
 pos:0<n
 len:∀ a,(e a).length=n
 read:∀ {H:Type} (enc:TypeId×Value→H) (W:World) (fuel:Nat) (cs:List Value) (d:DataW H) (ps:List MemPlace),DataW.trod enc P W 0 (fun _=>true) true fuel t cs=some (d,ps) →
  cs.length=n∧∃ a,RepCs (fun k=>k<W.heap.size) W (e a) (fun j=>cs[j]?) 0
theorem jS {P:Program} {t:TypeId} {k:IntKind} (e:P.underlying t=some (.int k)) (j:P.cellsOf t=1):Opens P t (α:={ n:Int // (Lit.int k n).wf=true }) (fun n=>[.int k n.1]) 1:=by
 refine⟨j,by omega,fun _=>rfl,fun enc W fuel cs d ps h=>?_⟩
 obtain⟨n,rfl,_,q⟩:=DataW.trod_int e h
 exact⟨rfl,⟨n,q⟩,by simp[RepCs,RepC]⟩
theorem Ai3 {P:Program} {t:TypeId} (e:P.underlying t=some .bool) (j:P.cellsOf t=1):Opens P t (α:=Bool) (fun b=>[.bool b]) 1:=by
 refine⟨j,by omega,fun _=>rfl,fun enc W fuel cs d ps h=>?_⟩
 obtain⟨b,rfl,_⟩:=DataW.trod_bool e h
 exact⟨rfl,b,by simp[RepCs,RepC]⟩
theorem lj {α β:Type} {e:α→List β} {n:Nat} (hn:0<n) (k:∀ a,(e a).length=n):∀ (l:List α) (j:Nat),(l.flatMap e)[j]?=(l[j/n]?).bind fun a=>(e a)[j%n]?
 | [],j=>by simp
 | a::r,j=>by
  rw[A0z]
  by_cases q:j<n
  ·rw[A40 (by rw[k];exact q),A1m q,A07 q];simp
  ·rw[A4w (by rw[k];omega),k,lj hn k r (j - n)]
   have s:j/n=(j - n)/n+1:=by
    have:=Nat.add_div_right (j - n) hn
    rw[show j - n+n=j by omega] at this;exact this
   have t:j%n=(j - n)%n:=by
    have:=Nat.add_mod_right (j - n) n
    rw[show j - n+n=j by omega] at this;exact this
   rw[s,t];simp
theorem lk {α β:Type} {e:α→List β} {n:Nat} (j:∀ a,(e a).length=n):∀ (l:List α),(l.flatMap e).length=l.length*n
 | []=>by simp
 | a::r=>by rw[A0z,Az2,j,lk j r,Az5,A5i];omega
theorem Aen {α β:Type} {f:α→Option β}:∀ {l:List α} {r:List β},l.mapM f=some r→r.length=l.length∧∀ (i:Nat) (a:α),l[i]?=some a→f a=r[i]?
 | [],r,h=>by simp at h;subst h;simp
 | x::l,r,h=>by
  rw[A50] at h
  cases e:f x with
  | none=>simp[e] at h
  | some y =>
   cases j:l.mapM f with
   | none=>simp[e,j] at h
   | some ys =>
    simp[e,j] at h
    subst h
    obtain⟨k,n⟩:=Aen j
    refine⟨by simp[k],fun i a hi=>?_⟩
    cases i with
    | zero=>simp at hi;subst hi;simpa using e
    | succ i=>simpa using n i a (by simpa using hi)
theorem Mx {P:Program} {t G:TypeId} {α:Type} {e:α→LA} {n:Nat} (hu:P.underlying t=some (.slice G)) (hc:P.cellsOf t=1) (z:Opens P G e n) :
  Opens P t (α:={ l:List α // l.length≤maxLen }) (fun l=>[.imm (l.1.flatMap e) l.1.length n false false]) 1:=by
 refine⟨hc,by omega,fun _=>rfl,fun enc W fuel cs d ps h=>?_⟩
 cases fuel with
 | zero=>simp[DataW.trod] at h
 | succ fuel =>
  unfold DataW.trod at h
  simp only[hu] at h
  split at h
  all_goals first | (rename_i q;simp at q;done) | (rename_i q _;simp at q;done) | (rename_i q _ _;simp at q;done) | skip
  ·refine⟨rfl,⟨[],by simp⟩,?_⟩
   simp[RepCs,RepC]
  ·rename_i e' a len cap q
   simp at q;subst q
   split at h
   ·rename_i A
    obtain⟨hb,hlc,hcm⟩:=A
    refine⟨rfl,?_⟩
    cases T:(List.range len).mapM (fun i=>(W.cells? 0 (a.add (i*P.cellsOf G)) (P.cellsOf G)).bind (DataW.trod enc P W 0 (fun _=>true) true fuel G)) with
    | none=>rw[T] at h;simp at h
    | some xR =>
     obtain⟨h1,h2⟩:=Aen T
     rw[z.size] at h2
     have each:∀ i:Nat,i<len→∃ x:α,∃ cs,W.cells? 0 (a.add (i*n)) n=some cs∧RepCs (fun k=>k<W.heap.size) W (e x) (fun j=>cs[j]?) 0:=by
      intro i hi
      have I:=h2 i i (by simp[hi])
      rw[Az6 (by rw[h1];simpa using hi)] at I
      cases s:W.cells? 0 (a.add (i*n)) n with
      | none=>rw[s] at I;simp at I
      | some cs =>
       rw[s] at I
       obtain⟨_,x,q⟩:=z.read enc W fuel cs _ _ I
       exact⟨x,cs,rfl,q⟩
     have build:∀ m,m≤len→∃ l:List α,l.length=m∧∀ i x,l[i]?=some x→∃ cs,W.cells? 0 (a.add (i*n)) n=some cs∧RepCs (fun k=>k<W.heap.size) W (e x) (fun j=>cs[j]?) 0:=by
      intro m
      induction m with
      | zero=>intro _;exact⟨[],rfl,by simp⟩
      | succ m ih =>
       intro T
       obtain⟨l,S,B⟩:=ih (by omega)
       obtain⟨x,cs,U,V⟩:=each m (by omega)
       refine⟨l++[x],by simp[S],fun i y D=>?_⟩
       rw[A1k] at D
       split at D
       ·exact B i y D
       ·have:i=m:=by
         have:=(A0p.1 D).1
         simp at this;omega
        subst this
        simp[S] at D;subst D
        exact⟨cs,U,V⟩
     obtain⟨l,S,B⟩:=build len (Az3 _)
     refine⟨⟨l,by omega⟩,?_⟩
     simp only[RepCs,RepC,and_true]
     refine⟨_,rfl,?_,some a,cap,by rw[S],by omega,by simp,?_⟩
     ·exact lk z.len l
     ·by_cases h0:l.length=0
      ·exact .inl h0
      ·right
       refine⟨a,rfl,?_,?_⟩
       ·obtain⟨x,cs,q,_⟩:=each 0 (by omega)
        have:=World.cells?_block q z.pos
        rwa [U4] at this
       ·rw[Bv]
        intro j x F
        rw[lj z.pos z.len] at F
        cases hq:l[j/n]? with
        | none=>rw[hq] at F;simp at F
        | some y =>
         rw[hq] at F
         simp at F
         obtain⟨cs,s,v⟩:=B (j/n) y hq
         rw[Bv] at v
         obtain⟨u,L,X⟩:=v (j%n) x F
         refine⟨u,?_,X⟩
         obtain⟨_,hlen,C⟩:=World.cells?_some s
         have Y:j%n<n:=A1j _ z.pos
         have:=C (j%n) Y
         rw[Addr.add_add,show j/n*n+j%n=j by rw[Az8];exact A1e j n] at this
         simp only[A0g] at L ⊢
         rw[this];exact L
   ·simp at h
  ·simp at h
theorem Ai4 {J:Bool→Nat→Prop} {β:Cd} {w w':World} (S:SimH J β [] w) (B:Below w.heap.size w w'):SimH J β [] w' :=
 ⟨fun o k h=>A1g (S.jlt o k h) B.size,S.jft,S.gl.to (fun _ h=>h) (fun k j=>B.block k (S.jlt _ k j)),fun b x e=>by simp[An] at e,fun b x e=>by simp[An] at e,fun b n x x' k o o' e=>by simp[An] at e⟩
theorem WG {P:Program} {f:Nat} {j:LA} {n:AV}
  (t:∀ (J:Bool→Nat→Prop) (β:Cd) (w:World) (vs:List Value),GlobOk J w→Reps J β [] w j vs→Calls P f vs.toArray w fun e w'=>∃ vc,e=.returned vc∧Below w.heap.size w w'∧∀ J β w,Rep J β [] w n vc):Axf P f j [] n []:=by
 intro J β w vs S hr
 refine(t J β w vs S.gl hr).mono ?_
 rintro e w' ⟨vc,rfl,B,u⟩
 refine⟨vc,J,β,rfl,⟨Ai4 S B,B.os,B.tape,B.output,B.size,fun k s _=>B.block k s,?_,fun _ _ h=>h,fun _ _ h=>.inl h,fun k=>?_,fun b x0 x q=>by simp[An] at q,fun b x q=>by simp[An] at q⟩,u _ _ _⟩
 ·rintro k ⟨b,x,o,q,_⟩;simp[An] at q
 ·by_cases s:k<w.heap.size
  ·simp[A3,B.block k s]
  ·simp[A3,A11 (A2n s)]
theorem Aub {P:Program} {f:Nat} {q:LA} {c:LA} {n sz:Nat} (z:c.length=n*sz)
  (B:∀ (J:Bool→Nat→Prop) (β:Cd) (w:World) (vs:List Value),GlobOk J w→Reps J β [] w q vs→Calls P f vs.toArray w fun e w'=>∃ (cs:Array Value) (ty:TypeId),e=.returned (.slice (some ⟨w.heap.size,0,none⟩) n n)∧w'=w.alloc (.cells cs ty)∧cs.size=n*sz∧RepCs (J false) w c (fun j=>cs[j]?) 0):Axf P f q [] (.own 300000 0 n) [(300000,{ dead:=false,sealed:=false,pure:=true,taint:=false,sz,cells:=c })]:=by
 intro J β w vs S hr
 refine(B J β w vs S.gl hr).mono ?_
 rintro e w' ⟨cs,ty,rfl,rfl,hs,u⟩
 have A:=Step.new (d:=300000) (x:={ dead:=false,sealed:=false,pure:=true,taint:=false,sz,cells:=c }) (ty:=ty) (fr:=(0,0)) (cs:=cs) S rfl rfl rfl FrTy.un0 (by show c.length≤_;omega) ⟨fun _=>u,fun C=>by cases C⟩
 have t:(w.alloc (.cells cs ty)).heap[w.heap.size]?=some (.cells cs ty (0,0)):=by show(w.heap.push _)[_]?=_;simp
 refine⟨_,_,_,rfl,⟨A.sim,A.os,A.tape,A.output,A.size,A.frame,A.wr,A.ext.jsub,A.jup,fun k=>?_,fun b x0 x s=>by simp[An] at s,fun b x s=>?_⟩,?_⟩
 ·by_cases v:k<w.heap.size
  ·simp[A3,C4 w _ v]
  ·simp[A3,A11 (A2n v)]
 ·rw[An] at s
  cases hq:beq 300000 b<;>rw[hq] at s<;>simp[An] at s
  subst s;rfl
 ·rw[Rep]
  refine⟨_,_,n,⟨rfl,rfl⟩,rfl,Az3 _,.inr ⟨w.heap.size,0,rfl,.inr ⟨by simp,?_,by simp[z]⟩⟩⟩
  rw[Ea t,hs];simp
theorem rE {J:Bool→Nat→Prop} {β:Cd} {h:Az} {w:World} {x:AV} {vs:List Value} (H:Reps J β h w [x] vs):∃ u,vs=[u]∧Rep J β h w x u:=by
 rw[Reps] at H
 obtain⟨u,us,rfl,j,e⟩:=H
 rw[Reps] at e;subst e
 exact⟨u,rfl,j⟩
theorem rF {J:Bool→Nat→Prop} {β:Cd} {h:Az} {w:World} {x y:AV} {vs:List Value} (H:Reps J β h w [x,y] vs):∃ u v,vs=[u,v]∧Rep J β h w x u∧Rep J β h w y v:=by
 rw[Reps] at H
 obtain⟨u,us,rfl,e,j⟩:=H
 obtain⟨v,rfl,k⟩:=rE j
 exact⟨u,v,rfl,e,k⟩
theorem GlobOk.tab {J:Bool→Nat→Prop} {w:World} (h:GlobOk J w) {P:Program} {g:Nat} {name:String} {k:IntKind} {zs:List Int} (e:(g,zs.map fun z=>Value.int k z) ∈ Al0) (j:P.globalNamed name=some g):Lib.TabIs P w name k zs:=by
 obtain⟨ty,fr,hh⟩:=(h.1 _ e).2
 unfold Lib.TabIs World.var?
 rw[j]
 simp only[A1q]
 rw[hh]
theorem Arp {W:World} {P:Program} {g:Nat} {name:String} {k:IntKind} {zs:List Int} (h:Lib.TabIs P W name k zs) (e:P.globalNamed name=some g):∃ ty fr,W.heap[g]?=some (.cells (zs.map fun z=>Value.int k z).toArray ty fr):=by
 unfold Lib.TabIs World.var? at h
 rw[e] at h
 simp only[A1q] at h
 split at h
 ·rename_i cs ty fr hh
  simp at h;subst h
  exact⟨ty,fr,hh⟩
 ·cases h
theorem GlobOk.int {J:Bool→Nat→Prop} {w:World} (h:GlobOk J w) {g:Nat} (e:g ∈ Ah9):∃ m,w.cell? ⟨g,0,none⟩=some (.int .i64 m):=(h.2 g e).2
theorem Arq {W:World} {g i:Nat} {v:Value} (h:W.cell? ⟨g,i,none⟩=some v):g<W.heap.size:=by
 rcases A3q g W.heap.size with e | e
 ·exact e
 ·simp[World.cell?,A11 e] at h
end Gx
namespace Gx
open Go
structure Bd (P:Program) where
 f:Nat
 run:LA→Az→Option ((R:Type)→KF R→O R)
 eq:∀ a h g,run a h=some g→∀ (R:Type) (k:KF R),g R k=(g (AV×Az) fun v h=>some (v,h)).bind fun p=>k p.1 p.2
 ok:∀ a h g res h',run a h=some g→(g (AV×Az) fun v h=>some (v,h))=some (res,h')→Axf P f a h res h'
def Azd {R:Type} (k:KF R):Option ((R:Type)→KF R→O R)→O R
 | some g=>g R k
 | none=>none
def Bd.tw {P:Program} (b:Bd P):Tw:=⟨fun {R} a h k=>Azd k (b.run a h),fun {R} a h k=>by
 cases e:b.run a h with
 | none=>rfl
 | some g=>exact b.eq a h g e R k⟩
theorem Bd.tok {P:Program} (b:Bd P):qx P b.f b.tw:=by
 intro a h j h' hh
 have hh:Azd (fun v h'=>some (v,h')) (b.run a h)=some (j,h'):=hh
 cases e:b.run a h with
 | none=>rw[e] at hh;cases hh
 | some g=>rw[e] at hh;exact b.ok a h g j h' e hh
def Auc {P:Program}:List (Bd P)→List (Nat×Tw)
 | []=>[]
 | b::r=>(b.f,b.tw)::Auc r
theorem Ama {P:Program}:∀ l:List (Bd P),Aef P (Auc l)
 | []=>trivial
 | b::r=>⟨b.tok,Ama r⟩
def Arr {P:Program} {f:Nat} (t:Tw) (h:qx P f t):Bd P:=⟨f,fun a h=>some fun _ k=>t.runK a h k,fun a h g e R k=>by
 cases e;exact t.eq a h k,fun a h g res h' e hh=>by cases e;exact ‹qx P f t› a h res h' hh⟩
def At6 {P:Program} (x y:Bd P) (e:x.f=y.f):Bd P:=⟨x.f,fun a h=>match x.run a h with | some g=>some g | none=>y.run a h,fun a h g q=>by
 split at q
 ·cases q;exact x.eq a h _ ‹_›
 ·exact y.eq a h g q,fun a h g res h' q=>by
 split at q
 ·cases q;exact x.ok a h _ res h' ‹_›
 ·rw[e];exact y.ok a h g res h' q⟩
def Azk (P:Program) (muts:Nat→List Bool) (T:List (Nat×Tw)) (hs:Hints) (N f:Nat) (a:LA) (h:Az):Option ((R:Type)→KF R→O R)→Prop
 | some g=>∀ (R:Type) (F:KF R),xa P muts T hs N f a h F=g R F
 | none=>True
def Azl {P:Program} {muts:Nat→List Bool} (hm:P.follows .mixedOrders=true) (N f:Nat) (l:List (Bd P)) (hs:Hints) (run:LA→Az→Option ((R:Type)→KF R→O R)) (e:∀ a h,Azk P muts (Auc l) hs N f a h (run a h)):Bd P :=
 ⟨f,run,fun a h g q R k=>by
  have H:=e a h;rw[q] at H
  rw[←H,←H];exact Ai0 ..,fun a h g res h' q hh=>by
  have H:=e a h;rw[q] at H
  rw[←H] at hh;exact Aek (Ama l) hm hh⟩
theorem lW {R τ:Type} (p:(St→O R)→τ) (q:CutB R):p (Arn q)=p (Ao q q.N):=congrArg p (funext fun _=>Aro q _)
theorem jW {R τ:Type} (p:(St→O R)→τ) (q:CutB R):p (Ai1 q)=p (A0 q):=congrArg p (funext fun _=>An4 q _)
theorem Ai5 {α δ:Type} {f g:α→δ} (h:∀ a,f a=g a):f=g:=funext h
theorem vP {α β δ:Type} {f g:α→β→δ} (h:∀ a b,f a b=g a b):f=g:=funext fun _=>funext (h _)
theorem Avo {α β γ δ:Type} {f g:α→β→γ→δ} (h:∀ a b c,f a b c=g a b c):f=g:=funext fun _=>vP (h _)
theorem Ah5 {α β γ ε δ:Type} {f g:α→β→γ→ε→δ} (h:∀ a b c d,f a b c d=g a b c d):f=g:=funext fun _=>Avo (h _)
theorem Azm {α β γ ε ζ δ:Type} {f g:α→β→γ→ε→ζ→δ} (h:∀ a b c d e,f a b c d e=g a b c d e):f=g:=funext fun _=>Ah5 (h _)
theorem Ayg {α β γ ε ζ η δ:Type} {f g:α→β→γ→ε→ζ→η→δ} (h:∀ a b c d e x,f a b c d e x=g a b c d e x):f=g:=funext fun _=>Azm (h _)
def Aze:Nat→Nat→List Nat→List Nat
 | 0,_,l=>l
 | f+1,n,l=>cond (ble n 1) l (Aze f (n/4) (n%4::l))
def pz (n:Nat):List Nat:=Aze 100 n []
def hK:Nat→Hint→Hint
 | 0,h=>h
 | n+1,h=>hS hL (hK n h)
theorem D3 {τ:Type} {f g:Nat→τ} (h:∀ n,f n=g n→f (n+1)=g (n+1)) (e:f 0=g 0:=by kernel_rfl):∀ n,f n=g n
 | 0=>e
 | n+1=>h n (D3 h e n)
theorem Bn {α δ:Type} {z:δ} (f:α→δ) {a e:α} (j:a=e) (k:z=f a:=by kernel_rfl):z=f e:=by rw[k,j]
theorem Yq {α β δ:Type} {z:δ} (f:α→β→δ) {a e:α} {b j:β} (n:a=e) (q:b=j) (k:z=f a b:=by kernel_rfl):z=f e j:=by rw[k,n,q]
theorem Axl {α β γ δ:Type} {z:δ} (f:α→β→γ→δ) {a e:α} {b j:β} {c c':γ} (n:a=e) (q:b=j) (s:c=c') (k:z=f a b c:=by kernel_rfl):z=f e j c':=by rw[k,n,q,s]
theorem Azn {α β γ ε ζ η δ:Type} {z:δ} (f:α→β→γ→ε→ζ→η→δ) {a j:α} {b n:β} {c c':γ} {d d':ε} {e q:ζ} {g g':η} (s:a=j) (t:b=n) (u:c=c') (v:d=d') (A:e=q) (B:g=g') (k:z=f a b c d e g:=by kernel_rfl):z=f j n c' d' q g':=by rw[k,s,t,u,v,A,B]
end Gx
namespace Gx
open Go Go.Proofs
set_option maxRecDepth 100000
noncomputable section
variable {R:Type} (N:Nat)
def muts:Nat→List Bool:=Avn [(28,[true,false]),(29,[true]),(30,[true,false,false]),(32,[true,false,false,false,false]),(33,[true,false,false,false]),(34,[true,false,false,false]),(37,[true,false,false]),(38,[true,false]),(39,[true,false]),(40,[true]),(42,[true,false]),(44,[true]),(55,[false,false,false,true]),(56,[false,false,true,true,true,true,true,true,true,true]),(59,[true,false]),(60,[true,false]),(61,[true,false,false,false]),(62,[true,false,false,false,false,false,false,false]),(63,[true,false,false,false,false,false]),(65,[true,false,false]),(66,[true,false,false]),(67,[true,false,false]),(68,[true,false,false]),(69,[true,false,false]),(76,[true,false,false]),(77,[true,false]),(78,[true,false,false]),(90,[true]),(91,[true]),(92,[true]),(93,[true]),(94,[true]),(95,[true]),(96,[true]),(97,[true]),(106,[true,false,false,false,false,false]),(108,[true,false,false,false,false,false]),(109,[true,false,false]),(117,[true]),(118,[true,false]),(136,[true,false,false]),(137,[true,false,false,false,false]),(138,[true,false,false,false,false]),(139,[true,false,false,false]),(140,[true,false,true]),(141,[false,true,true,true,true,true,true,true,true]),(142,[false,true,true,true,true,true,true,true,true]),(143,[true,false,false]),(145,[true,false,false]),(146,[false,true,true,true,true,true,true,true,true]),(147,[true,false]),(148,[false,true,true,true,true,true,true,true,true]),(149,[false,true,true,true,true,true,true,true,true]),(150,[false,true,true,true,true,true,true,true,true]),(152,[true,false]),(161,[true]),(203,[true]),(212,[false,true]),(256,[true,false]),(266,[true,false]),(271,[true,false]),(277,[false,true,true,true,true,true,true,true,true])]
def Azo {R:Type}:=@Azj R Tryz.prog muts
theorem follows:Tryz.prog.follows .mixedOrders=true:=by kernel_rfl
abbrev N0:=List (Bd Tryz.prog)
def Hh {R:Type} (fn hs) (l:N0) (r N) (F:KF R):=@Azo R fn hs (Auc l) r N F
def Bj (N f:Nat):=@Azl Tryz.prog muts follows N f
def Bg:Hints:={ H:=hL }
def Uh:Hints:={ H:=hL,modes:=[(3,0)] }
def lm:Hints:={ H:=(hK 2 (hS (hS (hP [0,3] hL) hL) hL)),nils:=[(2,1)],modes:=[(2,1)] }
def Ars:Hints:={ H:=hL,nils:=[(2,1)],modes:=[(2,1)] }
def xm:Hints:={ H:=(hK 2 (hS (hK 1 (hS (hP [0,1,5] hL) hL)) hL)) }
def xn:Hints:={ H:=(hK 3 (hS (hK 1 (hS (hP [0,1,5] hL) hL)) hL)) }
def A8 (F:KF R):Bool→O R:=(fun v0=>F (.bool v0) [])
def Da (F:KF R):LA→O R:=(fun v0=>F (.pagg v0 false) [])
def Mw (F:KF R):Int→O R:=(fun v0=>F (iv v0) [])
def Ca (F:KF R):Nat→LA→O R:=(fun v0 v1=>F (.own 300000 0 v0) (hq [(bQ 1 v1)]))
def Hx (F:KF R):LA→O R:=(fun v0=>F (.tup []) [(100000,(bQ 0 v0))])
def Xp (F:KF R):Nat→Bool→LA→O R:=(fun v0 v1 v2=>F (.tup []) [(100000,⟨false,false,false,false,0,[(.optr 100000 0),(.own 300000 0 v0),(.bool v1)],false,(some (113,3))⟩),(300000,⟨false,false,true,false,1,v2,false,(some (5,0))⟩)])
def Xq (F:KF R):LA→Bool→O R:=(fun v0 v1=>F (.tup [(.pagg v0 false),(.bool v1)]) [])
def vd (F:KF R):Bool→Nat→LA→O R:=(fun v0 v1 v2=>F (.agg [(.bool v0),(.own 300000 0 v1)]) (hq [(bQ 1 v2)]))
def GU (F:KF R):Lu→O R:=(fun v0=>F (.str v0) [])
def IG (F:KF R):Nat→Bool→LA→O R:=(fun v0 v1 v2=>F (.tup [(.own 300000 0 v0),(.bool v1)]) (hq [(bQ 1 v2)]))
def CC (F:KF R):O R:=F (.tup []) [(100000,⟨false,false,false,false,0,[.nilptr,.nsl,(.bool true)],false,(some (113,3))⟩)]
def IH (v0:LA) (v1:Nat) (v2 v3:Bool) (F:KF R):LA→Int→O R:=(fun v4 v5=>F (.pagg v4 false) [(100000,(bN 0 [(.imm v0 v1 1 v2 v3),(iv v5)]))])
def xo (F:KF R):Lu→Bool→O R:=(fun v0 v1=>F (.tup [(.str v0),(.bool v1)]) [])
def Aeo (v0:LA) (v1:Nat) (v2 v3:Bool) (F:KF R):Nat→Int→LA→O R:=(fun v4 v5 v6=>F (.own 300000 0 v4) [(100000,(bN 0 [(.imm v0 v1 1 v2 v3),(iv v5)])),(300000,(bQ 1 v6))])
def Md (F:KF R):LA→Int→O R:=(fun v0 v1=>F (.tup [(.pagg v0 false),(iv v1)]) [])
def Aep (F:KF R):Int→Bool→O R:=(fun v0 v1=>F (.tup [(.int .u64 v0),(.bool v1)]) [])
def lp (F:KF R):Nat→Nat→Bool→LA→LA→O R:=(fun v0 v1 v2 v3 v4=>F (.tup [(.own 300000 0 v0),(.own 300001 0 v1),(.bool v2)]) (hq [(bQ 1 v3),(bQ 1 v4)]))
def Amb (F:KF R):LA→LA→Bool→O R:=(fun v0 v1 v2=>F (.tup [(.pagg v0 false),(.pagg v1 false),(.bool v2)]) [])
def Avp (v0:Bool) (F:KF R):Int→Nat→LA→O R:=(fun v1 v2 v3=>F (.tup [(iv v1),.undef]) [(100000,⟨false,false,false,false,0,[(.optr 100000 0),(.own 300000 0 v2),(.bool v0)],false,(some (113,3))⟩),(300000,⟨false,false,true,false,1,v3,false,(some (5,0))⟩)])
def Avq (v0:Bool) (F:KF R):Nat→LA→O R:=(fun v1 v2=>F (.tup []) [(100000,⟨false,false,false,false,0,[(.optr 100000 0),(.own 300000 0 v1),(.bool v0)],false,(some (113,3))⟩),(300000,⟨false,false,true,false,1,v2,false,(some (5,0))⟩)])
def Avr (v0:Nat) (v1:Bool) (v2:LA) (F:KF R):O R:=F (.tup []) [(100000,⟨false,false,false,false,0,[(.optr 100000 0),(.own 100001 0 v0),(.bool v1)],false,(some (113,3))⟩),(100001,⟨false,false,true,false,1,v2,false,(some (5,0))⟩)]
def Aeq (F:KF R):Int→O R:=(fun v0=>F (.int .u64 v0) [])
def lw (F:KF R):Nat→Nat→LA→LA→O R:=(fun v0 v1 v2 v3=>F (.tup [(.own 300000 0 v0),(.own 300001 0 v1)]) (hq [(bQ 1 v2),(bQ 1 v3)]))
def YV (F:KF R):Int→Bool→O R:=(fun v0 v1=>F (.tup [(iv v0),(.bool v1)]) [])
def Avs (F:KF R):Int→Nat→LA→O R:=(fun v0 v1 v2=>F (.tup [(iv v0),.undef]) [(100000,⟨false,false,false,false,0,[(.optr 100000 0),(.own 300000 0 v1)],false,(some (111,2))⟩),(300000,⟨false,false,true,false,1,v2,false,(some (5,0))⟩)])
end
end Gx
namespace Gx
open Go
theorem am {a b:Bool} (e:a=true) (j:b=true):(a&&b)=true:=by rw[e,j];rfl
theorem Awe {P:Program} (h2:laidOutB P=true) (h3:mapsRowed P=true) (h7:(P.stops==[])=true) (h9:(P.stopKnobs==[])=true) (e:P.stopsHeard=true) (j:P.mayEnter=true) {f:FuncId} {fn:Func} {s:ChangeSpec} {c:OpenClaim} (n:(c.inPlace==P.inPlace f)=true) (q:(c.unfollowed==P.unfollowed f)=true) (u:(c.recurses==P.recurses f)=true) (v:(c.named==P.varsNamed f)=true)
  (z:(c.lifted==P.liftsFinal)=true) (A:(P.make==some c.make)=true) (B:(c.plainKeys==P.plainKeys)=true)
  (h1:c.wf (OpenSpec.ofChange s)=true) (h4:fn.params.all (P.readableRec ·)=true) (h5:namedTie P c.named s.vars=true) (h6:(c.stops==[])=true) (h8:(c.knobs==[])=true)
  (C:(c.maps==(fn.params.toList++s.plain.varTypes P).any (P.mapsRec ·))=true) (D:(c.ifaces==(fn.params.toList++s.plain.varTypes P).any (P.ifacesRec ·))=true) (F:(c.mapsOut==P.mapsAmong fn.resultTypes.toList)=true)
  (G:(c.loops==(fn.params.toList++s.plain.varTypes P).any (P.loopsFrom ·))=true) (I:(c.wideKeys==(fn.params.toList++s.plain.varTypes P++fn.resultTypes.toList).any (P.wideKeysFrom ·))=true)
  (L:s.vars.all (P.varReadable ·)=true) (S:fn.resultTypes.all (fun t=>P.readableRec t&&decide (t<P.types.size))=true) (T:(c.ifacesOut==fn.resultTypes.toList.any (P.ifacesRec ·))=true) (U:(c.loopsOut==fn.resultTypes.toList.any (P.loopsFrom ·))=true)
  (V:c.shortTexts.isNone=true) (X:(c.kinds==(if c.domain.isEmpty then [] else fn.params.toList.map fun t=>match P.underlying t with | some (.int k)=>some k | _=>none))=true) (Y:(c.pinned==c.pinnedBy)=true)
  (h31:(c.veiled==(fn.params.toList++s.plain.varTypes P++fn.resultTypes.toList).any (P.veiledRec ·))=true) (h32:c.veiledFits P fn.params.toList (fn.params.toList++s.plain.varTypes P++fn.resultTypes.toList)=true):joinedFacts P f fn s c=true:=by
 unfold joinedFacts
 exact am (am (am (am (am (am (am (am (am (am (am (am (am (am (am (am (am (am (am (am (am (am (am (am (am (am (am (am (am (am (am h1 h2) h3) h4) h5) h6) h7) h8) h9) n) q) u) v) C) D) F) G) I) L) S) T) U) B) V) e) j) z) A) X) Y) h31) h32
end Gx
namespace Go.Proofs.YtnlplnjnonldpaaGreatDoor
open Go.ChangeShapes Go.WideShapes Go.ChangeAt Go.RowKit
theorem Ayp:ownKnob Tryz.prog.godebug=none:=by kernel_rfl
theorem SB:laidOutB Tryz.prog=true:=by kernel_rfl
theorem Ayq : Tryz.prog.globalNamed "internal/strconv.uint64pow10" = some 3 := by kernel_rfl
theorem Azp:(Tryz.prog.globals[3]?).map (·.type)=some 293:=by kernel_rfl
theorem Ayr:Tryz.prog.underlying 293=some (.array 20 138):=by kernel_rfl
theorem Ays:Tryz.prog.underlying 138=some (.int .u64):=by kernel_rfl
theorem Ayt:Tryz.prog.cellsOf 293=20:=by kernel_rfl
theorem Ayu:Tryz.prog.cellsOf 138=1:=by kernel_rfl
def Axm:List Int:=(List.range 20).map fun i=>((10 ^ i:Nat):Int)
theorem An6 {H:Type}:(Rows.laid_internal_strconv_uint64pow10:DataW H)=Lib.tabData .u64 Axm:=rfl
theorem Aud {W:World} (hL:laidMetH Tryz.prog Rows.branchlogRoundRow.laid W) (j:W.ShapedOpen Tryz.prog):Gx.GlobOk (fun _ k=>k<W.heap.size) W:=by
 have B : Lib.TabIs Tryz.prog W "internal/strconv.uint64pow10" .u64 Axm := by
  have n:laidMet Tryz.prog Rows.branchlogRoundRow.laid W:=hL
  obtain⟨ps,⟨U,t0,cs0,V,X,Y,C,D,F,G,⟨g1,t1,cs1,f1,p1,q1,I,L,S,T,⟨g2,t2,cs2,f2,p2,q2,q,s,u,e,_,_⟩,_⟩,_⟩,_⟩:=n
  obtain rfl:=Option.some.inj (Ayq.symm.trans q)
  obtain rfl:=Option.some.inj (Azp.symm.trans s)
  unfold Lib.TabIs
  rw[An6] at e
  rw[u,←Lib.cells_of_tab Ayr Ays Ayu Ayt e]
 obtain⟨ty,fr,hh⟩:=Gx.Arp B Ayq
 obtain⟨m,v⟩:=cell_of_shapedOpen_int (P:=Tryz.prog) (g:=0) (t:=3) (zero:=#[.int .i64 0]) j (of_decide_eq_true (by kernel_rfl)) (by kernel_rfl) rfl (by kernel_rfl) (by kernel_rfl) Tryz.underlying3
 refine⟨fun p z=>?_,fun g A=>?_⟩
 ·simp only[Gx.Al0,List.mem_singleton] at z
  subst z
  refine⟨?_,ty,fr,?_⟩
  ·show 3<W.heap.size
   rcases Nat.lt_or_ge 3 W.heap.size with h | h
   ·exact h
   ·rw[Array.getElem?_eq_none h] at hh;cases hh
  ·rw[hh];rfl
 ·simp only[Gx.Ah9,List.mem_singleton] at A
  subst A
  exact⟨Gx.Arq v,m,v⟩
noncomputable def Amc (os:Os):World:=World.laidAll Tryz.prog os Rows.branchlogRoundRow.laid
theorem Art (os:Os):(Amc os).os=os:=World.laidAll_os _ _ _
theorem An7 (os:Os) (e:Array Value):laidMetH Tryz.prog Rows.branchlogRoundRow.laid ((Amc os).forCall (fun _ _=>0) ⟨#[],e,[]⟩).memory :=
 laidMet_laidAll e (by kernel_rfl) (by kernel_rfl)
theorem Axn:mapsRowed Tryz.prog=true:=by kernel_rfl
theorem Awf:(Tryz.prog.stops==[])=true:=by kernel_rfl
theorem Awg:(Tryz.prog.stopKnobs==[])=true:=by kernel_rfl
theorem Awh:Tryz.prog.stopsHeard=true:=by kernel_rfl
theorem Awi:Tryz.prog.mayEnter=true:=by kernel_rfl
theorem Awj:(Rows.branchlogRoundRow.lifted==Tryz.prog.liftsFinal)=true:=by kernel_rfl
theorem Axo:(Tryz.prog.make==some Rows.branchlogRoundRow.make)=true:=by kernel_rfl
theorem Axp:(Rows.branchlogRoundRow.plainKeys==Tryz.prog.plainKeys)=true:=by kernel_rfl
end Go.Proofs.YtnlplnjnonldpaaGreatDoor
namespace Gx
open Go
theorem wrap_u8 (a:Nat):wrap .u8 (a:Int)=((a%256:Nat):Int):=by rw[IntKind.wrap_u8];omega
theorem wrap_u32 (a:Nat) (h:a<4294967296):wrap .u32 (a:Int)=(a:Int):=IntWalk.u32_in _ (by omega)
theorem An8 (a:Nat):wrap .u32 (a:Int)=((a%4294967296:Nat):Int):=by rw[IntKind.wrap_u32];omega
theorem wrap_i64 (a:Int) (h:-9223372036854775808≤a∧a≤9223372036854775807):wrap .i64 a=a:=IntWalk.i64_in _ h
theorem wrap_u64 (a:Nat) (h:a<18446744073709551616):wrap .u64 (a:Int)=(a:Int):=IntWalk.u64_in _ (by omega)
theorem WH (w a:Nat):BitVec.ofInt w (a:Int)=BitVec.ofNat w a:=by simp
theorem Ai6 {k:IntKind} (hs:k.signed=false) {a b:Nat} (j:a<2 ^ k.bits) (e:b<2 ^ k.bits):Ai2 k a b=((a &&& b:Nat):Int):=by
 unfold Ai2
 rw[WH,WH]
 have n:(BitVec.ofNat k.bits a &&& BitVec.ofNat k.bits b).toNat=a &&& b:=by
  rw[BitVec.toNat_and,A35,A35,A07 j,A07 e]
 rw[n]
 have q:a &&& b<2 ^ k.bits:=Nat.and_lt_two_pow _ e
 unfold wrap
 simp only[hs,A4u,A3p,if_false]
 have:(2 ^ k.bits:Int)=((2 ^ k.bits:Nat):Int):=by simp
 rw[this,←Int.natCast_emod,A07 q]
theorem xp {k:IntKind} (hs:k.signed=false) {a b:Nat} (e:a<2 ^ k.bits) (j:b<2 ^ k.bits):Rj k a b=((a ||| b:Nat):Int):=by
 unfold Rj
 rw[WH,WH]
 have n:(BitVec.ofNat k.bits a ||| BitVec.ofNat k.bits b).toNat=a ||| b:=by
  rw[BitVec.toNat_or,A35,A35,A07 e,A07 j]
 rw[n]
 have q:a ||| b<2 ^ k.bits:=Nat.or_lt_two_pow e j
 unfold wrap
 simp only[hs,A4u,A3p,if_false]
 have:(2 ^ k.bits:Int)=((2 ^ k.bits:Nat):Int):=by simp
 rw[this,←Int.natCast_emod,A07 q]
theorem Sg (a k:Nat):Int.fdiv (a:Int) (2 ^ k)=((a/2 ^ k:Nat):Int):=by
 have:(2 ^ k:Int)=((2 ^ k:Nat):Int):=by simp
 rw[this,Int.fdiv_eq_ediv_of_nonneg (a:Int) (Int.natCast_nonneg (2 ^ k))]
 rfl
theorem Br {R:Type} {k:IntKind} {n:Int} {r:LA} {f:Int→O R}:As k (.int k n::r) f=f n:=by simp[As,YL,Qv]
theorem Wj:∀ l:Lu,Wc (At l)=some l
 | []=>rfl
 | b::r=>by
  show Wc (.int .u8 (b.toNat:Int)::At r)=_
  rw[Wc,Wj r]
  simp[Ah6]
theorem Aa {i n:Nat} (h:i<n):Ae (i:Int) n=true:=by simp[Ae];omega
end Gx
namespace Gx
open Go Go.RowKit
section
variable {P:Program} {W:World} {H:Type} {enc:TypeId×Value→H} {β:Cd} {h:Az}
theorem Aue {t q:TypeId} {α:Type} {e:α→LA} {n:Nat} {a:Option Addr} {len cap:Nat} {d:DataW H} {p:List MemPlace} (j:P.underlying t=some (.slice q)) (s:P.cellsOf t=1) (v:Opens P q e n)
  (z:DataW.Trod enc P W 0 (fun _=>true) true t (.slice a len cap) d p):∃ l:List α,l.length≤maxLen∧Rep (fun _ k=>k<W.heap.size) β h W (.imm (l.flatMap e) l.length n false false) (.slice a len cap):=by
 obtain⟨fuel,A⟩:=z
 obtain⟨_,⟨l,B⟩,hr⟩:=(Mx j s v).read enc W fuel _ _ _ A
 refine⟨l,B,?_⟩
 simp only[RepCs,Value.cells,and_true] at hr
 obtain⟨u,j,hr⟩:=hr
 simp at j;subst j
 rw[Rep];exact hr
theorem Aru {b:Bool}:Rep (fun _ k=>k<W.heap.size) β h W (.bool b) (.bool b):=by rw[Rep]
theorem Arv:Reps (fun _ k=>k<W.heap.size) β h W [] []:=by rw[Reps]
theorem II {x:AV} {xs:LA} {v:Value} {vs:List Value} (e:Rep (fun _ k=>k<W.heap.size) β h W x v) (j:Reps (fun _ k=>k<W.heap.size) β h W xs vs):Reps (fun _ k=>k<W.heap.size) β h W (x::xs) (v::vs):=by
 rw[Reps];exact⟨v,vs,rfl,e,j⟩
theorem Arw {t:TypeId} {α:Type} {e:α→LA} {n:Nat} {cs:Array Value} {d:DataW H} {p:List MemPlace} (j:Opens P t e n)
  (q:DataW.Trod enc P W 0 (fun _=>true) true t (.agg cs) d p):∃ a:α,Rep (fun _ k=>k<W.heap.size) β h W (.pagg (e a) false) (.agg cs):=by
 obtain⟨fuel,s⟩:=q
 obtain⟨u,a,hr⟩:=j.read enc W fuel _ _ _ s
 refine⟨a,?_⟩
 rw[Rep]
 exact⟨cs.toList,rfl,by rw[j.len];exact u,hr⟩
end
end Gx
namespace Gx
open Go Go.RowKit
theorem Opens.map {P:Program} {t:TypeId} {α β:Type} {e:α→LA} {n:Nat} (h:Opens P t e n) (j:β→LA) (g:α→β) (k:∀ a,e a=j (g a)) (q:∀ b,(j b).length=n):Opens P t j n:=by
 refine⟨h.size,h.pos,q,fun enc W fuel cs d ps s=>?_⟩
 obtain⟨u,a,v⟩:=h.read enc W fuel cs d ps s
 exact⟨u,g a,by rw[←k];exact v⟩
structure OpensF (P:Program) (fs:List Field) (off:Nat) {α:Type} (e:α→List AV) (n:Nat):Prop where
 len:∀ a,(e a).length=n
 read:∀ {H:Type} (enc:TypeId×Value→H) (W:World) (fuel:Nat) (cs:List Value),(∀ (i:Nat) (f:Field),fs[i]?=some f→∃ d ps,DataW.trod enc P W 0 (fun _=>true) true fuel f.type ((cs.drop f.offset).take (P.cellsOf f.type))=some (d,ps)) →
  ∃ a,RepCs (fun k=>k<W.heap.size) W (e a) (fun j=>cs[j]?) off
theorem Qx {P:Program} {off:Nat}:OpensF P [] off (α:=Unit) (fun _=>[]) 0:=⟨fun _=>rfl,fun _ _ _ _ _=>⟨(),by simp[RepCs]⟩⟩
theorem Bh {P:Program} {f:Field} {fs:List Field} {off:Nat} {α β:Type} {e:α→LA} {n:Nat} {v:β→LA} {m:Nat} (C:f.offset=off) (k:Opens P f.type e n) (z:OpensF P fs (off+n) v m) :
  OpensF P (f::fs) off (α:=α×β) (fun p=>e p.1++v p.2) (n+m):=by
 refine⟨fun p=>by rw[Az2,k.len,z.len],fun enc W fuel cs h=>?_⟩
 obtain⟨d,ps,D⟩:=h 0 f rfl
 obtain⟨G,a,A⟩:=k.read enc W fuel _ _ _ D
 obtain⟨b,B⟩:=z.read enc W fuel cs fun i g F=>h (i+1) g (by simpa using F)
 refine⟨(a,b),?_⟩
 rw[Bv] at A B ⊢
 intro j x t
 by_cases s:j<n
 ·rw[A40 (by rw[k.len];exact s)] at t
  obtain⟨u,q,hr⟩:=A j x t
  refine⟨u,?_,hr⟩
  simp only[A0g] at q
  rw[k.size,A5a s,A1t,C] at q
  exact q
 ·rw[A4w (by rw[k.len];omega),k.len] at t
  obtain⟨u,q,hr⟩:=B (j - n) x t
  refine⟨u,?_,hr⟩
  rw[show off+n+(j - n)=off+j by omega] at q
  exact q
theorem Ka {P:Program} {t:TypeId} {fs:Array Field} {α:Type} {e:α→LA} {n:Nat} (u:P.underlying t=some (.struct fs)) (q:P.cellsOf t=n) (hn:0<n) (h:OpensF P fs.toList 0 e n):Opens P t e n:=by
 refine⟨q,hn,h.len,fun enc W fuel cs d ps v=>?_⟩
 obtain⟨xs,g,_,_,z,j,A⟩:=DataW.trod_struct u v
 refine⟨by rw[z,q],?_⟩
 exact h.read enc W g cs fun i f hi=>by
  have s:fs[i]?=some f:=by simpa using hi
  have:=A i f s
  have k:i<xs.length:=by
   rw[j];exact(A17.1 s).1
  rw[Az6 k] at this
  exact⟨_,_,this⟩
end Gx
namespace Gx
open Go Go.RowKit
section
variable {P:Program} {W:World} {H:Type} {enc:TypeId×Value→H} {β:Cd} {h:Az}
theorem ve {t:TypeId} {fs:Array Field} {e:Nat} {r:Reach} {v:Value} (j:P.underlying t=some (.struct fs)) (h:Value.okWide P W r e t v):∃ cs,v=.agg cs:=by
 unfold Value.okWide at h
 rw[j] at h
 obtain⟨cs,h,_⟩:=h
 exact⟨cs,h⟩
theorem Arx {J:Nat→Prop}:∀ {x:AV} {u:Value},RepC J W x u→Rep (fun _=>J) β h W x u
 | .int ..,_,h=>by rw[Rep];rw[RepC] at h;exact h
 | .bool _,_,h=>by rw[Rep];rw[RepC] at h;exact h
 | .str _,_,h=>by rw[Rep];rw[RepC] at h;exact h
 | .nsl,_,h=>by rw[Rep];rw[RepC] at h;exact h
 | .imm ..,_,h=>by rw[Rep];exact h
 | .iptr ..,_,h=>by rw[Rep];exact h
 | .nilptr,_,h=>by rw[Rep];rw[RepC] at h;exact h
 | .nilfn,_,h=>by rw[Rep];rw[RepC] at h;exact h
 | .fn f [],_,h=>by
  rw[Rep];rw[RepC] at h
  exact⟨[],by simpa using h,by rw[Reps]⟩
 | .fn _ (_::_),_,h=>by simp[RepC] at h
 | .pagg ..,_,h=>by simp[RepC] at h
 | .agg _,_,h=>by simp[RepC] at h
 | .tup _,_,h=>by simp[RepC] at h
 | .own ..,_,h=>by simp[RepC] at h
 | .omap _,_,h=>by simp[RepC] at h
 | .optr ..,_,h=>by simp[RepC] at h
 | .undef,_,h=>by simp[RepC] at h
theorem Amd {J:Nat→Prop}:∀ {c:LA} {cs:List Value} {rd:Nat→Option Value} {i:Nat},cs.length=c.length→(∀ j,cs[j]?=rd (i+j))→RepCs J W c rd i→Reps (fun _=>J) β h W c cs
 | [],cs,_,_,e,_,_=>by rw[Reps];simpa using e
 | x::r,[],_,_,e,_,_=>by simp at e
 | x::r,u::us,rd,i,e,hr,n=>by
  rw[RepCs] at n
  obtain⟨⟨t,k,s⟩,n⟩:=n
  have q:=hr 0
  simp only[List.getElem?_cons_zero,A1i] at q
  rw[←q] at k
  cases k
  rw[Reps]
  refine⟨u,us,rfl,Arx s,Amd (by simpa using e) (fun j=>?_) n⟩
  have:=hr (j+1)
  rw[List.getElem?_cons_succ] at this
  rw[this];congr 1;omega
theorem Auf {c:LA} {v:Value} (hr:Rep (fun _ k=>k<W.heap.size) β h W (.pagg c false) v):Rep (fun _ k=>k<W.heap.size) β h W (.agg c) v:=by
 rw[Rep] at hr
 obtain⟨cs,e,n,q⟩:=hr
 rw[Rep]
 exact⟨cs,e,Amd n (fun j=>by rw[A0g]) q⟩
end
end Gx
namespace Gx.Cf
open Go Go.Proofs
inductive Sl (α:Type) where
 | nil
 | of (l:List α) (t o:Bool)
def Sl.l {α:Type}:Sl α→List α
 | .nil=>[]
 | .of l _ _=>l
def Sl.av {α:Type} (sz:Nat) (e:α→LA):Sl α→AV
 | .nil=>.nsl
 | .of l t o=>.imm (l.flatMap e) l.length sz t o
def Sh (n:Int):LA:=[.int .i64 n]
def Ap (l:List Int):LA:=l.map fun n=>.int .i64 n
theorem Ft:∀ l:List Int,l.flatMap Sh=Ap l
 | []=>rfl
 | a::r=>by rw[A0z,Ft r];rfl
theorem Dw (l:List Int):(Ap l).length=l.length:=by simp[Ap]
theorem SC (l m:List Int):Ap l++Ap m=Ap (l++m):=by simp[Ap]
structure FracD where
 num:Int
 den:Int
structure BusD where
 name:List UInt8
 demand:Sl Int
 shed:Int
structure LineD where
 name:List UInt8
 fr:Int
 tl:Int
 re:FracD
 smin:FracD
 smax:FracD
 limit:Int
 emer:Int
 away:Sl Int
structure SegD where
 width:Int
 price:Int
structure UnitD where
 name:List UInt8
 bus:Int
 min:Int
 max:Int
 segs:Sl SegD
 noLoad:Int
 rampUp:Int
 rampDown:Int
 startRamp:Int
 stopRamp:Int
 upTime:Int
 downTime:Int
 startTime:Int
 hotCost:Int
 coldCost:Int
 hotHours:Int
 reserve:Int
 reservePrice:Int
 away:Sl Int
 state:Int
 hours:Int
 output:Int
structure StoreD where
 name:List UInt8
 bus:Int
 capacity:Int
 initial:Int
 final:Int
 charge:Int
 discharge:Int
 eff:FracD
structure TieD where
 name:List UInt8
 bus:Int
 imp:Sl Int
 exp:Sl Int
 price:Sl Int
structure MoveD where
 unit:Int
 up:Int
 down:Int
structure OutD where
 name:List UInt8
 lines:Sl Int
 corr:Bool
 moves:Sl MoveD
structure CaseD where
 hours:Int
 reserve:Sl Int
 buses:Sl BusD
 lines:Sl LineD
 units:Sl UnitD
 stores:Sl StoreD
 ties:Sl TieD
 outs:Sl OutD
def BusD.av (b:BusD):LA:=[.str b.name,b.demand.av 1 Sh,.int .i64 b.shed]
def LineD.av (b:LineD):LA:=[.str b.name,.int .i64 b.fr,.int .i64 b.tl,.int .i64 b.re.num,.int .i64 b.re.den,.int .i64 b.smin.num,.int .i64 b.smin.den,.int .i64 b.smax.num,.int .i64 b.smax.den,.int .i64 b.limit,.int .i64 b.emer,b.away.av 1 Sh]
def SegD.av (s:SegD):LA:=[.int .i64 s.width,.int .i64 s.price]
def UnitD.av (u:UnitD):LA:=[.str u.name,.int .i64 u.bus,.int .i64 u.min,.int .i64 u.max,u.segs.av 2 SegD.av,.int .i64 u.noLoad,.int .i64 u.rampUp,.int .i64 u.rampDown,.int .i64 u.startRamp,.int .i64 u.stopRamp,.int .i64 u.upTime,.int .i64 u.downTime,.int .i64 u.startTime,.int .i64 u.hotCost,.int .i64 u.coldCost,.int .i64 u.hotHours,.int .i64 u.reserve,.int .i64 u.reservePrice,u.away.av 1 Sh,.int .i64 u.state,.int .i64 u.hours,.int .i64 u.output]
def StoreD.av (s:StoreD):LA:=[.str s.name,.int .i64 s.bus,.int .i64 s.capacity,.int .i64 s.initial,.int .i64 s.final,.int .i64 s.charge,.int .i64 s.discharge,.int .i64 s.eff.num,.int .i64 s.eff.den]
def TieD.av (t:TieD):LA:=[.str t.name,.int .i64 t.bus,t.imp.av 1 Sh,t.exp.av 1 Sh,t.price.av 1 Sh]
def MoveD.av (m:MoveD):LA:=[.int .i64 m.unit,.int .i64 m.up,.int .i64 m.down]
def OutD.av (o:OutD):LA:=[.str o.name,o.lines.av 1 Sh,.bool o.corr,o.moves.av 3 MoveD.av]
def CaseD.av (c:CaseD):LA:=[.int .i64 c.hours,c.reserve.av 1 Sh,c.buses.av 3 BusD.av,c.lines.av 12 LineD.av,c.units.av 22 UnitD.av,c.stores.av 9 StoreD.av,c.ties.av 5 TieD.av,c.outs.av 4 OutD.av]
section
variable {R:Type}
theorem A2 {α:Type} {sz:Nat} {e:α→LA} {s:Sl α} {r:LA} {f:LA→Nat→O R}:Aw sz (s.av sz e::r) f=f (s.l.flatMap e) s.l.length:=by
 cases s<;>simp[Aw,Sl.av,Sl.l,Aq1]
theorem CD {s:Lu} {r:LA} {f:Lu→O R}:bU (.str s::r) f=f s:=by simp[bU,lF]
theorem Ary {b:Bool} {r:LA} {f:Bool→O R}:Ud (.bool b::r) f=f b:=by simp[Ud,asBool]
theorem Ep (a b:Nat):ble a b=decide (a≤b):=by
  cases h:ble a b with
  | true=>simp at h;simp[h]
  | false => have : ¬ a ≤ b := fun e => by rw [Nat.ble_eq_true_of_le e] at h; cases h
             simp[this]
theorem zo (a b:Nat):beq a b=decide (a=b):=by
  cases h:beq a b with
  | true=>have:=A0j h;simp[this]
  | false => have : a ≠ b := fun e => by subst e; rw [Nat.beq_refl] at h; cases h
             simp[this]
theorem ct (x y:O R):cond true x y=x:=rfl
theorem cf (x y:O R):cond false x y=y:=rfl
theorem Be {α:Type} {e:α→LA} {sz:Nat} (k:∀ a,(e a).length=sz):∀ (l:List α) (j:Nat) (h:j<l.length),drop (j*sz) (l.flatMap e)=e l[j]++(l.drop (j+1)).flatMap e
 | a::r,0,_=>by simp
 | a::r,j+1,h=>by
  have:=Be k r j (by simpa using h)
  rw[A0z,List.drop_append,k,show(j+1)*sz - sz=j*sz by rw[A0m];omega,A0k (by rw[k,A0m];omega)]
  simpa using this
theorem Hy {l:List Int} {i:Nat} (h:i<l.length) {f:Int→O R}:As .i64 (drop i (Ap l)) f=f l[i]:=by
 rw[Ap,A0d (by simpa using h)];simp[Br]
abbrev Hz:=Option ((Int×Int×Int)×{ e:Int // e≠0 })
def nd (p:Hz) (ok:Bool) (w:Int×Int×Int) (e:{ e:Int // e≠0 }):Hz:=match p with
 | some x=>some x
 | none=>cond ok none (some (w,e))
theorem MA (p:Hz) (w:Int×Int×Int) (e:{ e:Int // e≠0 }):nd p true w e=p:=by cases p<;>rfl
theorem Aug (x:(Int×Int×Int)×{ e:Int // e≠0 }) (ok:Bool) (w:Int×Int×Int) (e:{ e:Int // e≠0 }):nd (some x) ok w e=some x:=rfl
theorem Aer (p:Hz) (a b:Bool) (w:Int×Int×Int) (e:{ e:Int // e≠0 }):nd (nd p a w e) b w e=nd p (a&&b) w e:=by cases p<;>cases a<;>cases b<;>rfl
def Arz (p:Hz) (k i:Int):LA:=match p with
 | none=>[.int .i64 k,.int .i64 i,.int .i64 0,.int .i64 0]
 | some ((a,b,f),e)=>[.int .i64 a,.int .i64 b,.int .i64 f,.int .i64 e.1]
def Fe (lo hi n:Int):Bool:=decide (lo≤n)&&decide (n≤hi)
end
end Gx.Cf
namespace Gx
open Go Go.Proofs
set_option maxRecDepth 100000
noncomputable section
variable {R:Type} (N:Nat)
def jT (N:Nat) (c:LA) (a:Nat) (d e:Bool) (f:LA) (b:Nat) (g h:Bool) (r0:Bool→O R):O R :=
 (cond ((decide ((a:Int)≤200))==true) (r0 (cond true (decide ((b:Int)≤200)) false)) (r0 false))
def eI:=(Af (@jT R)).1
theorem eJ:@eI R=@jT R:=(Af _).2
def Ai7:=Bj N 7 [] Bg (fun
 | [(.imm c a 1 d e),(.imm f b 1 g h)],[]=>some fun _ k=>eI N c a d e f b g h (A8 k)
 | _,_=>none) fun _ _=>by split;intro R F;dsimp only;rw[eJ];kernel_rfl;trivial
def bV (N:Nat) (r0:Bool→O R) (b:LA) (a:Nat) (c d:Bool) (k0:Int→O R) (f:Int):O R :=
 (cond (decide (f<(a:Int))) (cond (Ae f a) (Aw 1 ((b.drop ((f.toNat)*3)).drop 1) fun i g=>cond ((decide ((g:Int)>4))==false) (cond (Ae f a) (Aw 1 ((b.drop ((f.toNat)*3)).drop 2) fun j h=>cond (cond false true (decide ((h:Int)>4))) (r0 false) (k0 (wrap .i64 (f+1)))) none) (r0 false)) none) (r0 true))
def BA (r0:Bool→O R) (b:LA) (a:Nat) (c d:Bool):Nat→Int→O R
 | 0,_=>none
 | n+1,f=>bV N r0 b a c d (BA r0 b a c d n) f
def pk (N:Nat) (r0:Bool→O R) (q0:Int→O R) (b:LA) (a:Nat) (c d:Bool):O R :=
 (cond (decide ((a:Int)>30)) (r0 false) (q0 0))
def rG:=(Af fun N b a c d r0=>pk (R:=R) N r0 (BA N r0 b a c d N) b a c d).1
theorem rH (b a c d r0):(@rG R N b a c d r0)=(pk N r0 (BA N r0 b a c d N) b a c d):=by rw[rG,(Af _).2]
def xq:Hints:={ H:=(hK 2 (hS (hK 1 (hS (hP [0,3] hL) hL)) hL)) }
def An9 (F:KF R):=Hh Tryz.f24 xq [] [] N F
def Aoa (b:LA) (a:Nat) (c d:Bool) (K:St→O R):=fun f=>K ⟨[(0,(.imm b a 3 c d)),(3,(iv f))],[]⟩
theorem zp (F:KF R) (b a c d):∀ n,Aoa b a c d (Ao (An9 N F (pz 1348) []) n)=(BA N (A8 F) b a c d n):=D3 fun n e=>(Bn (bV N (A8 F) b a c d) e:_)
def Ar0:=Bj N 24 [] xq (fun
 | [(.imm b a 3 c d)],[]=>some fun _ k=>rG N b a c d (A8 k)
 | _,_=>none) fun _ _=>by split;intro R F;exact(Bn (pk N (A8 F) · _ _ _ _) ((lW ..).trans (zp ..)):_).trans (rH ..).symm;trivial
def P5 (k2:Int→O R) (r0:Bool→O R) (b:Bool) (a:LA) (k3:Int→Int→O R) (c d:Int):O R :=
 (Aw 5 (a.drop 2) fun i j=>cond (Ae c j) (Aw 4 ((i.drop ((c.toNat)*5)).drop 4) fun ac l=>cond (decide (d<(l:Int))) (Aw 5 (a.drop 2) fun m o=>cond (Ae c o) (Aw 4 ((m.drop ((c.toNat)*5)).drop 4) fun h p=>cond (Ae d p) (cond (ble 3 (((h.drop ((d.toNat)*4)).drop 1).length)) (cond ((beq ((((h.drop ((d.toNat)*4)).drop 1).take 3).length) 3)&&(ble 3 3)) (rG N ((setCells [(.bool false),.nsl,.nsl] 0 (((h.drop ((d.toNat)*4)).drop 1).take 3)).take 3) 1 false true fun q=>cond (!q) (r0 false) (k3 c (wrap .i64 (d+1)))) none) none) none) none) (k2 (wrap .i64 (c+1)))) none)
def Cw (k2:Int→O R) (r0:Bool→O R) (b:Bool) (a:LA):Nat→Int→Int→O R
 | 0,_,_=>none
 | n+1,c,d=>P5 N k2 r0 b a (Cw k2 r0 b a n) c d
def P6 (N:Nat) (r0:Bool→O R) (b:Bool) (a:LA) (k2:Int→O R) (q3:Int→Int→O R) (f:Int):O R :=
 (Aw 5 (a.drop 2) fun ad r=>cond (decide (f<(r:Int))) (Aw 5 (a.drop 2) fun s t=>cond (Ae f t) (Aw 4 ((s.drop ((f.toNat)*5)).drop 4) fun ae u=>cond (decide ((u:Int)>12)) (r0 false) (q3 f 0)) none) (r0 true))
def Eb (r0:Bool→O R) (b:Bool) (a:LA):Nat→Int→O R
 | 0,_=>none
 | n+1,f=>P6 N r0 b a (Eb r0 b a n) (Cw N (Eb r0 b a n) r0 b a N) f
def P7 (N:Nat) (r0:Bool→O R) (b:Bool) (a:LA) (k1:Int→O R) (q2:Int→O R) (g:Int):O R :=
 (Aw 6 (a.drop 1) fun af v=>cond (decide (g<(v:Int))) (Aw 6 (a.drop 1) fun w x=>cond (Ae g x) (Aw 1 ((w.drop ((g.toNat)*6)).drop 2) fun ag y=>cond (decide ((y:Int)>12)) (r0 false) (k1 (wrap .i64 (g+1)))) none) (q2 0))
def Fn (r0:Bool→O R) (b:Bool) (a:LA):Nat→Int→O R
 | 0,_=>none
 | n+1,g=>P7 N r0 b a (Fn r0 b a n) (Eb N r0 b a N) g
def Yr (N:Nat) (r0:Bool→O R) (b:Bool) (a:LA) (q1:Int→O R):O R :=
 (q1 0)
def Si (r0:Bool→O R) (b:Bool) (a:LA):O R:=(Yr N r0 b a (Fn N r0 b a N))
def Kb (N:Nat) (r0:Bool→O R) (q0:O R) (a:LA) (b:Bool):O R :=
 (Aw 2 a fun ah z=>cond ((decide ((z:Int)>20))==false) (Aw 6 (a.drop 1) fun ai aa=>cond ((cond false true (decide ((aa:Int)>12)))==false) (Aw 5 (a.drop 2) fun aj ab=>cond (cond false true (decide ((ab:Int)>40))) (r0 false) q0) (r0 false)) (r0 false))
def Xr:=(Af fun N a b r0=>Kb (R:=R) N r0 (Si N r0 b a) a b).1
theorem Lg (a b r0):(@Xr R N a b r0)=(Kb N r0 (Si N r0 b a) a b):=by rw[Xr,(Af _).2]
def SD:Hints:={ H:=(hK 1 (hJ [1] hL (hS (hK 1 (hS (hP [1,3] hL) hL)) (hS (hK 1 (hS (hP [1,4] (hK 1 (hS (hS (hK 2 (hS (hP [1,4,5] hL) hL)) hL) hL))) hL)) hL)))) }
def YW:N0:=[Ar0 N]
def Sj (F:KF R):=Hh Tryz.f8 SD (YW N) [] N F
def rI (b:Bool) (a:LA) (K:St→O R):=fun c d=>K ⟨[(1,(op 0)),(4,(iv c)),(5,(iv d))],(hq [(bP b 0 a)])⟩
def CE (b:Bool) (a:LA) (K:St→O R):=fun f=>K ⟨[(1,(op 0)),(4,(iv f))],(hq [(bP b 0 a)])⟩
def rJ (b:Bool) (a:LA) (K:St→O R):=fun g=>K ⟨[(1,(op 0)),(3,(iv g))],(hq [(bP b 0 a)])⟩
def rK (b:Bool) (a:LA) (K:St→O R):=K ⟨[(1,(op 0))],(hq [(bP b 0 a)])⟩
theorem eK (Q2) (F:KF R) (b a):∀ n,rI b a (Ao (Sj N F (pz 89195540) [Q2]) n)=(Cw N (CE b a Q2) (A8 F) b a n):=D3 fun n e=>(Bn (P5 N (CE b a Q2) (A8 F) b a) e:_)
theorem eM (F:KF R) (b a):∀ n,CE b a (Ao (Sj N F (pz 5444) []) n)=(Eb N (A8 F) b a n):=D3 fun n e=>(Yq (P6 N (A8 F) b a) e ((lW ..).trans ((eK ..).trans (vO (Cw _ · _ _ _ _) e))):_)
theorem eN (F:KF R) (b a):∀ n,rJ b a (Ao (Sj N F (pz 1348) []) n)=(Fn N (A8 F) b a n):=D3 fun n e=>(Yq (P7 N (A8 F) b a) e ((lW ..).trans (eM ..)):_)
theorem eP (F:KF R) (b a):rK b a (A0 (Sj N F (pz 21) []))=(Si N (A8 F) b a):=(Bn (Yr N (A8 F) b a) ((lW ..).trans (eN ..)):_)
def vf:=Bj N 8 (YW N) SD (fun
 | [(.pagg a b)],[]=>some fun _ k=>Xr N a b (A8 k)
 | _,_=>none) fun _ _=>by split;intro R F;exact(Bn (Kb N (A8 F) · _ _) ((jW ..).trans (eP ..)):_).trans (Lg ..).symm;trivial
def eQ (N:Nat) (a:LA) (b:Nat) (c d:Bool) (r0:O R):O R :=
 r0
def rL:=(Af (@eQ R)).1
theorem MB:@rL R=@eQ R:=(Af _).2
def Aob (a:LA) (b:Nat) (c d:Bool) (F:KF R):O R:=F (op 0) (hq [(bN 0 [(.imm a b 1 c d),(iv 0)])])
def rM:=Bj N 25 [] Bg (fun
 | [(.imm a b 1 c d)],[]=>some fun _ k=>rL N a b c d (Aob a b c d k)
 | _,_=>none) fun _ _=>by split;intro R F;dsimp only;rw[MB];kernel_rfl;trivial
def pm (N:Nat) (b a:Int) (r0:Int→O R):O R :=
 (cond ((wrap .u64 a)==0) none (r0 (wrap .i64 (Int.tmod (wrap .u64 b) (wrap .u64 a)))))
def MC:=(Af (@pm R)).1
theorem bW:@MC R=@pm R:=(Af _).2
def Aes:=Bj N 23 [] Bg (fun
 | [(.int .i64 b),(.int .i64 a)],[]=>some fun _ k=>MC N b a (Mw k)
 | _,_=>none) fun _ _=>by split;intro R F;dsimp only;rw[bW];kernel_rfl;trivial
def Wk (f:Int) (c:LA) (a:Nat) (d e:Bool) (b:Int) (r0:Int→Int→O R):O R :=
 (cond (decide (b≥(a:Int))) (r0 0 b) (cond (Ae (wrap .i64 ((wrap .i64 (b+1)) - 1)) a) (As .i64 (c.drop (((wrap .i64 ((wrap .i64 (b+1)) - 1)).toNat)*1)) fun g=>MC N g f fun h=>r0 h (wrap .i64 (b+1))) none))
def Ac:=(Af (@Wk R)).1
theorem Va:@Ac R=@Wk R:=(Af _).2
def oC (c:LA) (a:Nat) (d e:Bool) (F:KF R):Int→Int→O R:=(fun i j=>F (iv i) [(100000,(bN 0 [(.imm c a 1 d e),(iv j)]))])
def Ec:=Bj N 28 [Aes N] Bg (fun
 | [(.optr 100000 0),(.int .i64 f)],[(100000,⟨false,false,false,false,0,[(.imm c a 1 d e),(.int .i64 b)],false,none⟩)]=>some fun _ k=>Ac N f c a d e b (oC c a d e k)
 | _,_=>none) fun _ _=>by split;intro R F;dsimp only;rw[Va];kernel_rfl;trivial
def Me (r0:Nat→Int→LA→O R) (f g:Int) (a:LA) (b:Nat) (c d:Bool) (k0:Nat→Int→Int→LA→O R) (i:Nat) (j l:Int) (m:LA):O R :=
 (cond (decide (j<f)) (Ac N g a b c d l fun o p=>cond ((ble (i+1) 140737488355328)&&(ble ((i+1)*8) 140737488355328)) (k0 (i+1) (wrap .i64 (j+1)) p ((m.take (i*1))++[(.int .i64 o)])) none) (r0 i l m))
def E1 (r0:Nat→Int→LA→O R) (f g:Int) (a:LA) (b:Nat) (c d:Bool):Nat→Nat→Int→Int→LA→O R
 | 0,_,_,_,_=>none
 | n+1,i,j,l,m=>Me N r0 f g a b c d (E1 r0 f g a b c d n) i j l m
def Sk (N:Nat) (r0:Nat→Int→LA→O R) (q0:Nat→Int→Int→LA→O R) (f g:Int) (a:LA) (b:Nat) (c d:Bool) (h:Int):O R :=
 (q0 0 0 h [])
def Fg:=(Af fun N f g a b c d h r0=>Sk (R:=R) N r0 (E1 N r0 f g a b c d N) f g a b c d h).1
theorem EN (f g a b c d h r0):(@Fg R N f g a b c d h r0)=(Sk N r0 (E1 N r0 f g a b c d N) f g a b c d h):=by rw[Fg,(Af _).2]
def IJ:Hints:={ H:=(hK 2 (hS (hK 1 (hS (hP [0,1,2,7,8] hL) hL)) hL)),nils:=[(6,1),(7,1)],modes:=[(2,1)] }
def PL:N0:=[Ec N]
def jU (F:KF R):=Hh Tryz.f30 IJ (PL N) [100000] N F
def jV (f g:Int) (a:LA) (b:Nat) (c d:Bool) (K:St→O R):=fun i j l m=>K ⟨[(0,(.optr 100000 0)),(1,(iv f)),(2,(iv g)),(7,(.own 300000 0 i)),(8,(iv j))],[(100000,(bN 0 [(.imm a b 1 c d),(iv l)])),(300000,(bQ 1 m))]⟩
theorem XN (F:KF R) (f g a b c d):∀ n,jV f g a b c d (Ao (jU N F (pz 1348) []) n)=(E1 N (Aeo a b c d F) f g a b c d n):=D3 fun n e=>(Bn (Me N (Aeo a b c d F) f g a b c d) e:_)
def oD:=Bj N 30 (PL N) IJ (fun
 | [(.optr 100000 0),(.int .i64 f),(.int .i64 g)],[(100000,⟨false,false,false,false,0,[(.imm a b 1 c d),(.int .i64 h)],false,none⟩)]=>some fun _ k=>Fg N f g a b c d h (Aeo a b c d k)
 | _,_=>none) fun _ _=>by split;rename_i f g a b c d h;intro R F;exact(Bn (Sk N (Aeo a b c d F) · f g a b c d h) ((lW ..).trans (XN ..)):_).trans (EN ..).symm;trivial
def rN (N:Nat) (b:Lu) (a:Int) (r0:Lu→O R):O R :=
 (cond ((decide (0≤(Int.tmod a 16)))&&((decide ((Int.tmod a 16)≤(wrap .i64 ((Int.tmod a 16)+1))))&&((decide ((wrap .i64 ((Int.tmod a 16)+1))≤16))&&(decide ((16:Int)≤(16:Int)))))) (cond (ble ((b.length)+(List.length (take (((wrap .i64 ((Int.tmod a 16)+1)).toNat) - ((Int.tmod a 16).toNat)) (drop ((Int.tmod a 16).toNat) ([48,49,50,51,52,53,54,55,56,57,97,98,99,100,101,102]:Lu))))) 140737488355328) (r0 (b++(take (((wrap .i64 ((Int.tmod a 16)+1)).toNat) - ((Int.tmod a 16).toNat)) (drop ((Int.tmod a 16).toNat) ([48,49,50,51,52,53,54,55,56,57,97,98,99,100,101,102]:Lu))))) none) none)
def MD:=(Af (@rN R)).1
theorem mA:@MD R=@rN R:=(Af _).2
def WI:=Bj N 31 [] Bg (fun
 | [(.str b),(.int .i64 a)],[]=>some fun _ k=>MD N b a (GU k)
 | _,_=>none) fun _ _=>by split;intro R F;dsimp only;rw[mA];kernel_rfl;trivial
def Wl (e:Int) (a:LA) (b:Nat) (c d:Bool) (f:Int) (r0:Nat→Int→LA→O R):O R :=
 (Ac N 6 a b c d f fun h g=>cond (h==5) (Ac N e a b c d g fun i j=>r0 1 j [(.int .i64 i)]) (r0 0 g []))
def N8:=(Af (@Wl R)).1
theorem Vb:@N8 R=@Wl R:=(Af _).2
def SE:=Bj N 59 [Ec N] { H:=hL,nils:=[(4,1)],modes:=[(2,1)] } (fun
 | [(.optr 100000 0),(.int .i64 e)],[(100000,⟨false,false,false,false,0,[(.imm a b 1 c d),(.int .i64 f)],false,none⟩)]=>some fun _ k=>N8 N e a b c d f (Aeo a b c d k)
 | _,_=>none) fun _ _=>by split;intro R F;dsimp only;rw[Vb];kernel_rfl;trivial
def Wm (i e f g:Int) (a:LA) (b:Nat) (c d:Bool) (j:Int) (r0:LA→Int→O R):O R :=
 (MD N ([108]:Lu) i fun l=>Ac N 4 a b c d j fun m s=>Ac N 2 a b c d s fun n t=>Ac N 40 a b c d t fun h u=>Ac N 20 a b c d u fun o v=>Ac N 5 a b c d v fun w p=>cond (w==4) (Ac N 4 a b c d p fun x y=>Ac N 2 a b c d y fun z aa=>Ac N 4 a b c d aa fun ab ac=>N8 N g a b c d ac fun q ad ae=>r0 [(.str l),(.int .i64 e),(.int .i64 f),(.int .i64 (wrap .i64 (1+m))),(.int .i64 (wrap .i64 (1+n))),(.int .i64 (wrap .i64 ((0:Int) - x))),(.int .i64 (wrap .i64 (1+z))),(.int .i64 ab),(.int .i64 1),(.int .i64 (wrap .i64 (4+h))),(.int .i64 (wrap .i64 ((wrap .i64 (4+h))+o))),(.imm (ae.take (q*1)) q 1 false false)] ad) (N8 N g a b c d p fun r af ag=>r0 [(.str l),(.int .i64 e),(.int .i64 f),(.int .i64 (wrap .i64 (1+m))),(.int .i64 (wrap .i64 (1+n))),(.int .i64 0),(.int .i64 1),(.int .i64 0),(.int .i64 1),(.int .i64 (wrap .i64 (4+h))),(.int .i64 (wrap .i64 ((wrap .i64 (4+h))+o))),(.imm (ag.take (r*1)) r 1 false false)] af))
def Sm:=(Af (@Wm R)).1
theorem Vc:@Sm R=@Wm R:=(Af _).2
def rO:=Bj N 32 [WI N,Ec N,SE N] { H:=hL,modes:=[(3,0)],cob:=[28] } (fun
 | [(.optr 100000 0),(.int .i64 i),(.int .i64 e),(.int .i64 f),(.int .i64 g)],[(100000,⟨false,false,false,false,0,[(.imm a b 1 c d),(.int .i64 j)],false,none⟩)]=>some fun _ k=>Sm N i e f g a b c d j (IH a b c d k)
 | _,_=>none) fun _ _=>by split;intro R F;dsimp only;rw[Vc];kernel_rfl;trivial
def Lh (r0:LA→Int→O R) (a:LA) (b:Nat) (c d:Bool) (t:Int) (g:Lu) (h f m:Int) (j:Nat) (i u v w x s p y z aa:Int) (q:Nat) (r:Int) (o ab:LA) (ai aj ak al:Int):O R :=
 (cond (r==2) (Ac N (wrap .i64 ((wrap .i64 (m - f))+1)) a b c d t fun ar au=>r0 [(.str g),(.int .i64 h),(.int .i64 f),(.int .i64 m),(.imm (o.take (j*2)) j 2 false false),(.int .i64 i),(.int .i64 u),(.int .i64 v),(.int .i64 ai),(.int .i64 aj),(.int .i64 w),(.int .i64 x),(.int .i64 s),(.int .i64 p),(.int .i64 ak),(.int .i64 y),(.int .i64 z),(.int .i64 aa),(.imm (ab.take (q*1)) q 1 false false),(.int .i64 r),(.int .i64 al),(.int .i64 (wrap .i64 (f+ar)))] au) (r0 [(.str g),(.int .i64 h),(.int .i64 f),(.int .i64 m),(.imm (o.take (j*2)) j 2 false false),(.int .i64 i),(.int .i64 u),(.int .i64 v),(.int .i64 ai),(.int .i64 aj),(.int .i64 w),(.int .i64 x),(.int .i64 s),(.int .i64 p),(.int .i64 ak),(.int .i64 y),(.int .i64 z),(.int .i64 aa),(.imm (ab.take (q*1)) q 1 false false),(.int .i64 r),(.int .i64 al),(.int .i64 0)] t))
def N9 (r0:LA→Int→O R) (l:Int) (a:LA) (b:Nat) (c d:Bool) (g:Lu) (h f i:Int) (k0:Int→Int→Int→Int→Nat→LA→O R) (q1:Int→Int→Nat→Int→Int→Int→Int→Int→Int→Int→Int→Int→Nat→Int→LA→LA→Int→Int→Int→Int→O R) (af ag ah m:Int) (j:Nat) (o:LA):O R :=
 (cond (decide (ag>0)) (Ac N 15 a b c d ah fun am av=>cond ((ble (j+1) 140737488355328)&&(ble ((j+1)*16) 140737488355328)) (Ac N 10 a b c d av fun aw ax=>k0 (wrap .i64 (af+aw)) (wrap .i64 (ag - 1)) ax (wrap .i64 (m+(wrap .i64 (1+am)))) (j+1) ((o.take (j*2))++[(.int .i64 (wrap .i64 (1+am))),(.int .i64 af)])) none) (Ac N 20 a b c d ah fun u ay=>Ac N 20 a b c d ay fun v az=>Ac N (wrap .i64 ((wrap .i64 (m - f))+1)) a b c d az fun an ba=>Ac N (wrap .i64 ((wrap .i64 (m - f))+1)) a b c d ba fun ao bb=>Ac N 3 a b c d bb fun w bc=>Ac N 3 a b c d bc fun x bd=>Ac N 2 a b c d bd fun s be=>Ac N 30 a b c d be fun p bf=>Ac N 30 a b c d bf fun ap bg=>Ac N 4 a b c d bg fun y bh=>Ac N 8 a b c d bh fun z bi=>Ac N 4 a b c d bi fun aa bj=>N8 N l a b c d bj fun q bk ab=>Ac N (wrap .i64 (2+s)) a b c d bk fun aq bl=>cond (Ae aq 3) (As .i64 (drop (0+((aq.toNat)*1)) [(.int .i64 0),(.int .i64 2),(.int .i64 1)]) fun r=>Ac N 4 a b c d bl fun bm t=>cond (r==1) (q1 t m j u v w x s p y z aa q r o ab (wrap .i64 (f+an)) (wrap .i64 (f+ao)) (wrap .i64 (p+ap)) 1) (q1 t m j u v w x s p y z aa q r o ab (wrap .i64 (f+an)) (wrap .i64 (f+ao)) (wrap .i64 (p+ap)) (wrap .i64 (1+bm)))) none))
def Er (r0:LA→Int→O R) (l:Int) (a:LA) (b:Nat) (c d:Bool) (g:Lu) (h f i:Int):Nat→Int→Int→Int→Int→Nat→LA→O R
 | 0,_,_,_,_,_,_=>none
 | n+1,af,ag,ah,m,j,o=>N9 N r0 l a b c d g h f i (Er r0 l a b c d g h f i n) (fun t m j u v w x s p y z aa q r o ab=>Lh N r0 a b c d t g h f m j i u v w x s p y z aa q r o ab) af ag ah m j o
def Wn (r0:LA→Int→O R) (q0:Lu→Int→Int→Int→Int→Int→Int→Int→Nat→LA→O R) (ac ad l:Int) (a:LA) (b:Nat) (c d:Bool) (ae:Int):O R :=
 (MD N ([117]:Lu) ac fun g=>Ac N ad a b c d ae fun h bn=>Ac N 8 a b c d bn fun f bo=>Ac N 20 a b c d bo fun i bp=>Ac N 20 a b c d bp fun bq br=>Ac N 2 a b c d br fun bs bt=>q0 g h f i (wrap .i64 (bq - 2)) (wrap .i64 (1+bs)) bt f 0 [])
def Sn:=(Af fun N ac ad l a b c d ae r0=>Wn (R:=R) N r0 (fun g h f i=>Er N r0 l a b c d g h f i N) ac ad l a b c d ae).1
theorem IK (ac ad l a b c d ae r0):(@Sn R N ac ad l a b c d ae r0)=(Wn N r0 (fun g h f i=>Er N r0 l a b c d g h f i N) ac ad l a b c d ae):=by rw[Sn,(Af _).2]
def PM:Hints:={ H:=(hK 4 (hS (hK 1 (hS (hP [0,3,8,9,10,11] hL) hL)) (hK 8 (hJ [0,8,9] hL hL)))),modes:=[(3,0)],cob:=[22] }
def SF:N0:=[WI N,Ec N,SE N]
def PN (F:KF R):=Hh Tryz.f33 PM (SF N) [100000] N F
def oE (a:LA) (b:Nat) (c d:Bool) (t:Int) (g:Lu) (h f m:Int) (j:Nat) (i u v w x s p y z aa:Int) (q:Nat) (r:Int) (o ab:LA) (K:St→O R):=fun ai aj ak al=>K ⟨[(0,(.optr 100000 0)),(8,(op 0)),(9,(op 1))],[(100000,(bN 0 [(.imm a b 1 c d),(iv t)])),(300000,(bN 0 [(.str ([]:Lu)),(iv 0),(iv 0),(iv 0),.nsl,(iv 0),(iv 0),(iv 0),(iv 0),(iv 0),(iv 0),(iv 0),(iv 0),(iv 0),(iv 0),(iv 0),(iv 0),(iv 0),.nsl,(iv 0),(iv 0),(iv 0)])),(300001,(bN 0 [(.str g),(iv h),(iv f),(iv m),(.own 300002 0 j),(iv i),(iv u),(iv v),(iv ai),(iv aj),(iv w),(iv x),(iv s),(iv p),(iv ak),(iv y),(iv z),(iv aa),(.own 300003 0 q),(iv r),(iv al),(iv 0)])),(300002,(bQ 2 o)),(300003,(bQ 1 ab))]⟩
def oF (l:Int) (a:LA) (b:Nat) (c d:Bool) (g:Lu) (h f i:Int) (K:St→O R):=fun af ag ah m j o=>K ⟨[(0,(.optr 100000 0)),(3,(iv l)),(8,(op 0)),(9,(op 1)),(10,(iv af)),(11,(iv ag))],[(100000,(bN 0 [(.imm a b 1 c d),(iv ah)])),(300000,(bN 0 [(.str ([]:Lu)),(iv 0),(iv 0),(iv 0),.nsl,(iv 0),(iv 0),(iv 0),(iv 0),(iv 0),(iv 0),(iv 0),(iv 0),(iv 0),(iv 0),(iv 0),(iv 0),(iv 0),.nsl,(iv 0),(iv 0),(iv 0)])),(300001,(bN 0 [(.str g),(iv h),(iv f),(iv m),(.own 300002 0 j),(iv i),(iv 0),(iv 0),(iv 0),(iv 0),(iv 0),(iv 0),(iv 0),(iv 0),(iv 0),(iv 0),(iv 0),(iv 0),(.own 300003 0 0),(iv 0),(iv 0),(iv 0)])),(300002,(bQ 2 o)),(300003,(bQ 1 []))]⟩
theorem bX (F:KF R) (a b c d t g h f m j i u v w x s p y z aa q r o ab):oE a b c d t g h f m j i u v w x s p y z aa q r o ab (A0 (PN N F (pz 357913941) []))=(Lh N (IH a b c d F) a b c d t g h f m j i u v w x s p y z aa q r o ab):=by kernel_rfl
theorem bY (F:KF R) (l a b c d g h f i):∀ n,oF l a b c d g h f i (Ao (PN N F (pz 21828) []) n)=(Er N (IH a b c d F) l a b c d g h f i n):=D3 fun n e=>(Yq (N9 N (IH a b c d F) l a b c d g h f i) e (Ah5 fun t m j u=>Ayg fun v w x s p y=>Ayg fun z aa q r o ab=>(jW ..).trans (bX ..)):_)
def rP:=Bj N 33 (SF N) PM (fun
 | [(.optr 100000 0),(.int .i64 ac),(.int .i64 ad),(.int .i64 l)],[(100000,⟨false,false,false,false,0,[(.imm a b 1 c d),(.int .i64 ae)],false,none⟩)]=>some fun _ k=>Sn N ac ad l a b c d ae (IH a b c d k)
 | _,_=>none) fun _ _=>by split;rename_i ac ad l a b c d ae;intro R F;exact(Bn (Wn N (IH a b c d F) · ac ad l a b c d ae) (Ah5 fun g h f i=>(lW ..).trans (bY ..)):_).trans (IK ..).symm;trivial
def Gt (r0:LA→Int→O R) (f:Int) (a:LA) (b:Nat) (c d:Bool) (g:Lu) (h:Nat) (i:LA) (k1:Int→Int→Nat→LA→O R) (p r:Int) (j:Nat) (q:LA):O R :=
 (cond (decide (p<f)) (Ac N 2 a b c d r fun z u=>cond (z==1) (Ac N 8 a b c d u fun aa ab=>Ac N 8 a b c d ab fun ac ad=>cond ((ble (j+1) 140737488355328)&&(ble ((j+1)*24) 140737488355328)) (k1 (wrap .i64 (p+1)) ad (j+1) ((q.take (j*3))++[(.int .i64 p),(.int .i64 aa),(.int .i64 ac)])) none) (k1 (wrap .i64 (p+1)) u j q)) (r0 [(.str g),(.imm (i.take (h*1)) h 1 false false),(.bool true),(.imm (q.take (j*3)) j 3 false false)] r))
def Ed (r0:LA→Int→O R) (f:Int) (a:LA) (b:Nat) (c d:Bool) (g:Lu) (h:Nat) (i:LA):Nat→Int→Int→Nat→LA→O R
 | 0,_,_,_,_=>none
 | n+1,p,r,j,q=>Gt N r0 f a b c d g h i (Ed r0 f a b c d g h i n) p r j q
def Kc (r0:LA→Int→O R) (f:Int) (a:LA) (b:Nat) (c d:Bool) (g:Lu) (q1:Nat→LA→Int→Int→Nat→LA→O R) (s:Int) (h:Nat) (i:LA):O R :=
 (Ac N 2 a b c d s fun ae v=>cond (ae==1) (q1 h i 0 v 0 []) (r0 [(.str g),(.imm (i.take (h*1)) h 1 false false),(.bool false),(.imm [] 0 3 false false)] v))
def Ee (r0:LA→Int→O R) (f:Int) (a:LA) (b:Nat) (c d:Bool) (g:Lu) (s:Int) (h:Nat) (i:LA):O R:=(Kc N r0 f a b c d g (fun h i=>Ed N r0 f a b c d g h i N) s h i)
def Hn (r0:LA→Int→O R) (q0:Lu→Int→Nat→LA→O R) (m l f:Int) (a:LA) (b:Nat) (c d:Bool) (o:Int):O R :=
 (MD N ([111]:Lu) m fun g=>Ac N l a b c d o fun t af=>Ac N l a b c d af fun w x=>cond ((decide (w>t))==true) (Ac N 3 a b c d x fun ag y=>cond (cond true (ag==2) false) (q0 g y 2 [(.int .i64 t),(.int .i64 w)]) (q0 g y 1 [(.int .i64 t)])) (q0 g x 1 [(.int .i64 t)]))
def My:=(Af fun N m l f a b c d o r0=>Hn (R:=R) N r0 (fun g=>Ee N r0 f a b c d g) m l f a b c d o).1
theorem Kd (m l f a b c d o r0):(@My R N m l f a b c d o r0)=(Hn N r0 (fun g=>Ee N r0 f a b c d g) m l f a b c d o):=by rw[My,(Af _).2]
def EO:Hints:={ H:=(hK 2 (hJ [0,3,8,9] hL (hS (hK 1 (hS (hK 2 (hS (hP [0,3,8,9,11] hL) hL)) hL)) hL))),modes:=[(3,0)],cob:=[18] }
def IL:N0:=[WI N,Ec N]
def EP (F:KF R):=Hh Tryz.f34 EO (IL N) [100000] N F
def eV (f:Int) (a:LA) (b:Nat) (c d:Bool) (g:Lu) (h:Nat) (i:LA) (K:St→O R):=fun p r j q=>K ⟨[(0,(.optr 100000 0)),(3,(iv f)),(8,(op 0)),(9,(op 1)),(11,(iv p))],[(100000,(bN 0 [(.imm a b 1 c d),(iv r)])),(300000,(bN 0 [(.str ([]:Lu)),.nsl,(.bool false),.nsl])),(300001,(bN 0 [(.str g),(.own 300002 0 h),(.bool true),(.own 300003 0 j)])),(300002,(bQ 1 i)),(300003,(bQ 3 q))]⟩
def eX (f:Int) (a:LA) (b:Nat) (c d:Bool) (g:Lu) (K:St→O R):=fun s h i=>K ⟨[(0,(.optr 100000 0)),(3,(iv f)),(8,(op 0)),(9,(op 1))],[(100000,(bN 0 [(.imm a b 1 c d),(iv s)])),(300000,(bN 0 [(.str ([]:Lu)),.nsl,(.bool false),.nsl])),(300001,(bN 0 [(.str g),(.own 300002 0 h),(.bool false),(.own 300003 0 0)])),(300002,(bQ 1 i)),(300003,(bQ 3 []))]⟩
theorem SG (F:KF R) (f a b c d g h i):∀ n,eV f a b c d g h i (Ao (EP N F (pz 348436) []) n)=(Ed N (IH a b c d F) f a b c d g h i n):=D3 fun n e=>(Bn (Gt N (IH a b c d F) f a b c d g h i) e:_)
theorem SH (F:KF R) (f a b c d g):eX f a b c d g (A0 (EP N F (pz 85) []))=(Ee N (IH a b c d F) f a b c d g):=(Bn (Kc N (IH a b c d F) f a b c d g) (vP fun h i=>(lW ..).trans (SG ..)):_)
def jX:=Bj N 34 (IL N) EO (fun
 | [(.optr 100000 0),(.int .i64 m),(.int .i64 l),(.int .i64 f)],[(100000,⟨false,false,false,false,0,[(.imm a b 1 c d),(.int .i64 o)],false,none⟩)]=>some fun _ k=>My N m l f a b c d o (IH a b c d k)
 | _,_=>none) fun _ _=>by split;rename_i m l f a b c d o;intro R F;exact(Bn (Hn N (IH a b c d F) · m l f a b c d o) (Ai5 fun g=>(jW ..).trans (SH ..)):_).trans (Kd ..).symm;trivial
def P8 (N:Nat) (r0:Bool→O R) (c d:Int) (b:LA) (a:Nat) (f g:Bool) (k0:Int→O R) (h:Int):O R :=
 (cond (decide (h<(a:Int))) (cond (Ae h a) (As .i64 (b.drop ((h.toNat)*1)) fun i=>cond ((decide (i<c))==false) (cond (Ae h a) (As .i64 (b.drop ((h.toNat)*1)) fun j=>cond (cond false true (decide (j>d))) (r0 false) (k0 (wrap .i64 (h+1)))) none) (r0 false)) none) (r0 true))
def Gu (r0:Bool→O R) (c d:Int) (b:LA) (a:Nat) (f g:Bool):Nat→Int→O R
 | 0,_=>none
 | n+1,h=>P8 N r0 c d b a f g (Gu r0 c d b a f g n) h
def Zy (N:Nat) (r0:Bool→O R) (q0:Int→O R) (c d:Int) (b:LA) (a:Nat) (f g:Bool):O R :=
 (q0 0)
def Ar:=(Af fun N c d b a f g r0=>Zy (R:=R) N r0 (Gu N r0 c d b a f g N) c d b a f g).1
theorem PO (c d b a f g r0):(@Ar R N c d b a f g r0)=(Zy N r0 (Gu N r0 c d b a f g N) c d b a f g):=by rw[Ar,(Af _).2]
def SI:Hints:={ H:=(hK 1 (hS (hK 1 (hS (hP [0,1,2,7] hL) hL)) hL)) }
def rQ (F:KF R):=Hh Tryz.f64 SI [] [] N F
def rR (c d:Int) (b:LA) (a:Nat) (f g:Bool) (K:St→O R):=fun h=>K ⟨[(0,(iv c)),(1,(iv d)),(2,(.imm b a 1 f g)),(7,(iv h))],[]⟩
theorem eY (F:KF R) (c d b a f g):∀ n,rR c d b a f g (Ao (rQ N F (pz 324) []) n)=(Gu N (A8 F) c d b a f g n):=D3 fun n e=>(Bn (P8 N (A8 F) c d b a f g) e:_)
def Dk:=Bj N 64 [] SI (fun
 | [(.int .i64 c),(.int .i64 d),(.imm b a 1 f g)],[]=>some fun _ k=>Ar N c d b a f g (A8 k)
 | _,_=>none) fun _ _=>by split;intro R F;exact(Bn (Zy N (A8 F) · _ _ _ _ _ _) ((lW ..).trans (eY ..)):_).trans (PO ..).symm;trivial
def Ja (N:Nat) (r0:LA→O R) (b c d e:Int) (a:LA) (g:Bool):O R :=
 (cond g (cond ((beq 3 3)&&((ble 3 (a.length))&&(!false))) (cond ((beq 1 1)&&((ble 4 ((D9 a 0 [(.int .i64 b),(.int .i64 c),(.int .i64 d)]).length))&&(!false))) (r0 ((D9 a 0 [(.int .i64 b),(.int .i64 c),(.int .i64 d)]).set 3 (.int .i64 e))) none) none) (r0 a))
def Mf (N:Nat) (r0:LA→O R) (q0:Bool→O R) (f:Bool) (b c d e:Int) (a:LA):O R :=
 (As .i64 (a.drop 3) fun h=>cond ((h==0)==true) (q0 (cond true (!f) false)) (q0 false))
def Ab:=(Af fun N f b c d e a r0=>Mf (R:=R) N r0 (Ja N r0 b c d e a) f b c d e a).1
theorem Xs (f b c d e a r0):(@Ab R N f b c d e a r0)=(Mf N r0 (Ja N r0 b c d e a) f b c d e a):=by rw[Ab,(Af _).2]
def Za:Hints:={ H:=(hJ [0,2,3,4,5,20] hL hL) }
def XO (F:KF R):=Hh Tryz.f63 Za [] [100000] N F
def XP (b c d e:Int) (a:LA) (K:St→O R):=fun g=>K ⟨[(0,(.optr 100000 0)),(2,(iv b)),(3,(iv c)),(4,(iv d)),(5,(iv e)),(20,(.bool g))],[(100000,(bQ 0 a))]⟩
theorem ME (F:KF R) (b c d e a):XP b c d e a (A0 (XO N F (pz 5) []))=(Ja N (Hx F) b c d e a):=by kernel_rfl
def Bk:=Bj N 63 [] Za (fun
 | [(.optr 100000 0),(.bool f),(.int .i64 b),(.int .i64 c),(.int .i64 d),(.int .i64 e)],[(100000,⟨false,false,true,false,0,a,false,none⟩)]=>some fun _ k=>Ab N f b c d e a (Hx k)
 | _,_=>none) fun _ _=>by split;intro R F;exact(Bn (Mf N (Hx F) · _ _ _ _ _ _) ((jW ..).trans (ME ..)):_).trans (Xs ..).symm;trivial
def O6 (e:LA) (l:Bool) (f:LA) (a:Nat) (m g:Bool) (h i b c d:Int) (j:LA) (r0:LA→O R):O R :=
 (As .i64 e fun n=>Ab N ((a:Int)==n) b c d 4 j fun o=>Ar N h i f a false g fun p=>Ab N p b c d 3 o fun q=>r0 q)
def Cx:=(Af (@O6 R)).1
theorem So:@Cx R=@O6 R:=(Af _).2
def Mz:=Bj N 62 [Bk N,Dk N] Bg (fun
 | [(.optr 100000 0),(.pagg e l),(.imm f a 1 m g),(.int .i64 h),(.int .i64 i),(.int .i64 b),(.int .i64 c),(.int .i64 d)],[(100000,⟨false,false,true,false,0,j,false,none⟩)]=>some fun _ k=>Cx N e l f a m g h i b c d j (Hx k)
 | _,_=>none) fun _ _=>by split;intro R F;dsimp only;rw[So];kernel_rfl;trivial
def Wo (N:Nat) (r0:Nat→LA→O R) (b:Bool) (a:LA) (k0:Nat→Int→LA→O R) (d:Nat) (l:Int) (s:LA):O R :=
 (Aw 3 (a.drop 2) fun ay y=>cond (decide (l<(y:Int))) (Aw 3 (a.drop 2) fun z aa=>cond (Ae l aa) (bU (z.drop ((l.toNat)*3)) fun ab=>cond ((ble (d+1) 140737488355328)&&(ble ((d+1)*16) 140737488355328)) (k0 (d+1) (wrap .i64 (l+1)) ((s.take (d*1))++[(.str ab)])) none) none) (r0 d s))
def Ke (r0:Nat→LA→O R) (b:Bool) (a:LA):Nat→Nat→Int→LA→O R
 | 0,_,_,_=>none
 | n+1,d,l,s=>Wo N r0 b a (Ke r0 b a n) d l s
def Wp (N:Nat) (r0:Nat→LA→O R) (b:Bool) (a:LA) (k1:Nat→Int→LA→O R) (f:Nat) (m:Int) (t:LA):O R :=
 (Aw 12 (a.drop 3) fun az ac=>cond (decide (m<(ac:Int))) (Aw 12 (a.drop 3) fun ad ae=>cond (Ae m ae) (bU (ad.drop ((m.toNat)*12)) fun af=>cond ((ble (f+1) 140737488355328)&&(ble ((f+1)*16) 140737488355328)) (k1 (f+1) (wrap .i64 (m+1)) ((t.take (f*1))++[(.str af)])) none) none) (r0 f t))
def Kf (r0:Nat→LA→O R) (b:Bool) (a:LA):Nat→Nat→Int→LA→O R
 | 0,_,_,_=>none
 | n+1,f,m,t=>Wp N r0 b a (Kf r0 b a n) f m t
def Wq (N:Nat) (r0:Nat→LA→O R) (b:Bool) (a:LA) (k2:Nat→Int→LA→O R) (g:Nat) (o:Int) (u:LA):O R :=
 (Aw 22 (a.drop 4) fun ba ag=>cond (decide (o<(ag:Int))) (Aw 22 (a.drop 4) fun ah ai=>cond (Ae o ai) (bU (ah.drop ((o.toNat)*22)) fun aj=>cond ((ble (g+1) 140737488355328)&&(ble ((g+1)*16) 140737488355328)) (k2 (g+1) (wrap .i64 (o+1)) ((u.take (g*1))++[(.str aj)])) none) none) (r0 g u))
def Kg (r0:Nat→LA→O R) (b:Bool) (a:LA):Nat→Nat→Int→LA→O R
 | 0,_,_,_=>none
 | n+1,g,o,u=>Wq N r0 b a (Kg r0 b a n) g o u
def Wr (N:Nat) (r0:Nat→LA→O R) (b:Bool) (a:LA) (k3:Nat→Int→LA→O R) (h:Nat) (p:Int) (v:LA):O R :=
 (Aw 9 (a.drop 5) fun bb ak=>cond (decide (p<(ak:Int))) (Aw 9 (a.drop 5) fun al am=>cond (Ae p am) (bU (al.drop ((p.toNat)*9)) fun an=>cond ((ble (h+1) 140737488355328)&&(ble ((h+1)*16) 140737488355328)) (k3 (h+1) (wrap .i64 (p+1)) ((v.take (h*1))++[(.str an)])) none) none) (r0 h v))
def Kh (r0:Nat→LA→O R) (b:Bool) (a:LA):Nat→Nat→Int→LA→O R
 | 0,_,_,_=>none
 | n+1,h,p,v=>Wr N r0 b a (Kh r0 b a n) h p v
def Ws (N:Nat) (r0:Nat→LA→O R) (b:Bool) (a:LA) (k4:Nat→Int→LA→O R) (i:Nat) (q:Int) (w:LA):O R :=
 (Aw 5 (a.drop 6) fun bc ao=>cond (decide (q<(ao:Int))) (Aw 5 (a.drop 6) fun ap aq=>cond (Ae q aq) (bU (ap.drop ((q.toNat)*5)) fun ar=>cond ((ble (i+1) 140737488355328)&&(ble ((i+1)*16) 140737488355328)) (k4 (i+1) (wrap .i64 (q+1)) ((w.take (i*1))++[(.str ar)])) none) none) (r0 i w))
def Ki (r0:Nat→LA→O R) (b:Bool) (a:LA):Nat→Nat→Int→LA→O R
 | 0,_,_,_=>none
 | n+1,i,q,w=>Ws N r0 b a (Ki r0 b a n) i q w
def Wt (N:Nat) (r0:Nat→LA→O R) (b:Bool) (a:LA) (k5:Nat→Int→LA→O R) (j:Nat) (r:Int) (x:LA):O R :=
 (Aw 4 (a.drop 7) fun bd au=>cond (decide (r<(au:Int))) (Aw 4 (a.drop 7) fun av aw=>cond (Ae r aw) (bU (av.drop ((r.toNat)*4)) fun ax=>cond ((ble (j+1) 140737488355328)&&(ble ((j+1)*16) 140737488355328)) (k5 (j+1) (wrap .i64 (r+1)) ((x.take (j*1))++[(.str ax)])) none) none) (r0 j x))
def Kj (r0:Nat→LA→O R) (b:Bool) (a:LA):Nat→Nat→Int→LA→O R
 | 0,_,_,_=>none
 | n+1,j,r,x=>Wt N r0 b a (Kj r0 b a n) j r x
def Kk (N:Nat) (r0:Nat→LA→O R) (q0:Nat→Int→LA→O R) (q1:Nat→Int→LA→O R) (q2:Nat→Int→LA→O R) (q3:Nat→Int→LA→O R) (q4:Nat→Int→LA→O R) (q5:Nat→Int→LA→O R) (a:LA) (b:Bool) (c:Int):O R :=
 (cond (c==1) (q0 0 0 []) (cond (c==2) (q1 0 0 []) (cond (c==3) (q2 0 0 []) (cond (c==4) (q3 0 0 []) (cond (c==5) (q4 0 0 []) (cond (c==6) (q5 0 0 []) (r0 0 [])))))))
def Ho:=(Af fun N a b c r0=>Kk (R:=R) N r0 (Ke N r0 b a N) (Kf N r0 b a N) (Kg N r0 b a N) (Kh N r0 b a N) (Ki N r0 b a N) (Kj N r0 b a N) a b c).1
theorem Iq (a b c r0):(@Ho R N a b c r0)=(Kk N r0 (Ke N r0 b a N) (Kf N r0 b a N) (Kg N r0 b a N) (Kh N r0 b a N) (Ki N r0 b a N) (Kj N r0 b a N) a b c):=by rw[Ho,(Af _).2]
def eZ:Hints:={ H:=(hK 2 (hS (hK 1 (hS (hK 1 (hS (hK 1 (hS (hP [2,5,6] hL) hL)) (hK 1 (hS (hK 1 (hS (hP [2,5,7] hL) hL)) (hK 1 (hS (hK 1 (hS (hP [2,5,8] hL) hL)) (hK 1 (hS (hK 1 (hS (hP [2,5,9] hL) hL)) (hK 1 (hS (hK 1 (hS (hP [2,5,10] hL) hL)) (hK 1 (hS (hK 1 (hS (hP [2,5,11] hL) hL)) hL)))))))))))) hL)) hL)),nils:=[(4,1),(5,1)],modes:=[(2,1)] }
def Oa (F:KF R):=Hh Tryz.f103 eZ [] [] N F
def zq (b:Bool) (a:LA) (K:St→O R):=fun d l s=>K ⟨[(2,(op 0)),(5,(.own 300001 0 d)),(6,(iv l))],(hq [(bP b 0 a),(bQ 1 s)])⟩
def zr (b:Bool) (a:LA) (K:St→O R):=fun f m t=>K ⟨[(2,(op 0)),(5,(.own 300001 0 f)),(7,(iv m))],(hq [(bP b 0 a),(bQ 1 t)])⟩
def zt (b:Bool) (a:LA) (K:St→O R):=fun g o u=>K ⟨[(2,(op 0)),(5,(.own 300001 0 g)),(8,(iv o))],(hq [(bP b 0 a),(bQ 1 u)])⟩
def zu (b:Bool) (a:LA) (K:St→O R):=fun h p v=>K ⟨[(2,(op 0)),(5,(.own 300001 0 h)),(9,(iv p))],(hq [(bP b 0 a),(bQ 1 v)])⟩
def zw (b:Bool) (a:LA) (K:St→O R):=fun i q w=>K ⟨[(2,(op 0)),(5,(.own 300001 0 i)),(10,(iv q))],(hq [(bP b 0 a),(bQ 1 w)])⟩
def zx (b:Bool) (a:LA) (K:St→O R):=fun j r x=>K ⟨[(2,(op 0)),(5,(.own 300001 0 j)),(11,(iv r))],(hq [(bP b 0 a),(bQ 1 x)])⟩
theorem oG (F:KF R) (b a):∀ n,zq b a (Ao (Oa N F (pz 345156) []) n)=(Ke N (Ca F) b a n):=D3 fun n e=>(Bn (Wo N (Ca F) b a) e:_)
theorem oH (F:KF R) (b a):∀ n,zr b a (Ao (Oa N F (pz 5522756) []) n)=(Kf N (Ca F) b a n):=D3 fun n e=>(Bn (Wp N (Ca F) b a) e:_)
theorem oI (F:KF R) (b a):∀ n,zt b a (Ao (Oa N F (pz 88364356) []) n)=(Kg N (Ca F) b a n):=D3 fun n e=>(Bn (Wq N (Ca F) b a) e:_)
theorem oJ (F:KF R) (b a):∀ n,zu b a (Ao (Oa N F (pz 1413829956) []) n)=(Kh N (Ca F) b a n):=D3 fun n e=>(Bn (Wr N (Ca F) b a) e:_)
theorem oK (F:KF R) (b a):∀ n,zw b a (Ao (Oa N F (pz 22621279556) []) n)=(Ki N (Ca F) b a n):=D3 fun n e=>(Bn (Ws N (Ca F) b a) e:_)
theorem oL (F:KF R) (b a):∀ n,zx b a (Ao (Oa N F (pz 361940473156) []) n)=(Kj N (Ca F) b a n):=D3 fun n e=>(Bn (Wt N (Ca F) b a) e:_)
def mB:=Bj N 103 [] eZ (fun
 | [(.pagg a b),(.int .i64 c)],[]=>some fun _ k=>Ho N a b c (Ca k)
 | _,_=>none) fun _ _=>by split;intro R F;exact(Azn (Kk N (Ca F) · · · · · · _ _ _) ((lW ..).trans (oG ..)) ((lW ..).trans (oH ..)) ((lW ..).trans (oI ..)) ((lW ..).trans (oJ ..)) ((lW ..).trans (oK ..)) ((lW ..).trans (oL ..)):_).trans (Iq ..).symm;trivial
def jY (N:Nat) (a:Int) (r0:Int→O R):O R :=
 (cond (Ae a 7) (As .i64 (drop (0+((a.toNat)*1)) [(.int .i64 0),(.int .i64 32),(.int .i64 64),(.int .i64 16),(.int .i64 8),(.int .i64 8),(.int .i64 64)]) fun b=>r0 b) none)
def Sp:=(Af (@jY R)).1
theorem e_:@Sp R=@jY R:=(Af _).2
def Ai8:=Bj N 104 [] Bg (fun
 | [(.int .i64 a)],[]=>some fun _ k=>Sp N a (Mw k)
 | _,_=>none) fun _ _=>by split;intro R F;dsimp only;rw[e_];kernel_rfl;trivial
def Bx (r0:LA→O R) (b:Bool) (a:LA) (k0:Int→LA→O R) (c:Int) (f:LA):O R :=
 (cond (decide (c≤6)) (cond (ble 8 (a.length)) (Ho N (a.take 8) b c fun g u=>Sp N c fun h=>Ab N (decide ((g:Int)≤h)) 0 0 (wrap .i64 (c+1)) 8 f fun i=>k0 (wrap .i64 (c+1)) i) none) (r0 f))
def Bc (r0:LA→O R) (b:Bool) (a:LA):Nat→Int→LA→O R
 | 0,_,_=>none
 | n+1,c,f=>Bx N r0 b a (Bc r0 b a n) c f
def Kl (r0:LA→O R) (q0:Int→LA→O R) (a:LA) (b:Bool) (d:LA):O R :=
 (As .i64 a fun j=>Ar N 1 24 [(.int .i64 j)] 1 false true fun l=>Ab N l 0 0 0 3 d fun m=>cond (ble 8 (a.length)) (Aw 1 (a.drop 1) fun o p=>Cx N (a.take 8) b o p false b 0 1048576 0 0 1 m fun q=>Aw 3 (a.drop 2) fun v r=>Ar N 1 32 [(.int .i64 (r:Int))] 1 false true fun s=>Ab N s 0 0 2 8 q fun t=>q0 2 t) none)
def H0:=(Af fun N a b d r0=>Kl (R:=R) N r0 (Bc N r0 b a N) a b d).1
theorem Ui (a b d r0):(@H0 R N a b d r0)=(Kl N r0 (Bc N r0 b a N) a b d):=by rw[H0,(Af _).2]
def Xt:Hints:={ H:=(hK 5 (hS (hP [0,3,4] hL) hL)) }
def Zb:N0:=[Dk N,Bk N,Mz N,mB N,Ai8 N]
def SK (F:KF R):=Hh Tryz.f60 Xt (Zb N) [100000] N F
def SL (b:Bool) (a:LA) (K:St→O R):=fun c f=>K ⟨[(0,(.optr 100000 0)),(3,(op 0)),(4,(iv c))],[(100000,(bQ 0 f)),(300000,(bP b 0 a))]⟩
theorem IM (F:KF R) (b a):∀ n,SL b a (Ao (SK N F (pz 5460) []) n)=(Bc N (Hx F) b a n):=D3 fun n e=>(Bn (Bx N (Hx F) b a) e:_)
def XQ:=Bj N 60 (Zb N) Xt (fun
 | [(.optr 100000 0),(.pagg a b)],[(100000,⟨false,false,true,false,0,d,false,none⟩)]=>some fun _ k=>H0 N a b d (Hx k)
 | _,_=>none) fun _ _=>by split;intro R F;exact(Bn (Kl N (Hx F) · _ _ _) ((lW ..).trans (IM ..)):_).trans (Ui ..).symm;trivial
def EQ (N:Nat) (k1:Int→O R) (r0:Bool→O R) (a:Lu) (b:Int) (d:Bool):O R :=
 (cond ((!d)==true) (cond ((b==0)==false) (cond (Ae b (a.length)) (cond ((((UInt8.toNat (List.getD a (b.toNat) 0):Nat):Int) != 95)==true) (cond (Ae b (a.length)) (cond ((decide (((UInt8.toNat (List.getD a (b.toNat) 0):Nat):Int)<48))==false) (cond (Ae b (a.length)) (cond (cond true (cond false true (cond true (cond false true (decide (((UInt8.toNat (List.getD a (b.toNat) 0):Nat):Int)>57))) false)) false) (r0 false) (k1 (wrap .i64 (b+1)))) none) (r0 false)) none) (k1 (wrap .i64 (b+1)))) none) (r0 false)) (k1 (wrap .i64 (b+1))))
def Zz (N:Nat) (r0:Bool→O R) (a:Lu) (k1:Int→O R) (q2:Int→Bool→O R) (c:Int):O R :=
 (cond (decide (c<(((a.length):Nat):Int))) (cond (Ae c (a.length)) (cond ((decide (((UInt8.toNat (List.getD a (c.toNat) 0):Nat):Int)≥97))==true) (cond (Ae c (a.length)) (q2 c (cond true (decide (((UInt8.toNat (List.getD a (c.toNat) 0):Nat):Int)≤122)) false)) none) (q2 c false)) none) (r0 true))
def M0 (r0:Bool→O R) (a:Lu):Nat→Int→O R
 | 0,_=>none
 | n+1,c=>Zz N r0 a (M0 r0 a n) (EQ N (M0 r0 a n) r0 a) c
def MF (N:Nat) (r0:Bool→O R) (a:Lu) (q1:Int→O R):O R :=
 (q1 0)
def ER (r0:Bool→O R) (a:Lu):O R:=(MF N r0 a (M0 N r0 a N))
def WJ (N:Nat) (r0:Bool→O R) (q0:O R) (a:Lu):O R :=
 (cond ((decide ((((a.length):Nat):Int)<1))==false) (cond ((cond false true (decide ((((a.length):Nat):Int)>16)))==false) (cond (cond false true (a==([99,111,114,114,101,99,116,105,118,101]:Lu))) (r0 false) q0) (r0 false)) (r0 false))
def SM:=(Af fun N a r0=>WJ (R:=R) N r0 (ER N r0 a) a).1
theorem ee (a r0):(@SM R N a r0)=(WJ N r0 (ER N r0 a) a):=by rw[SM,(Af _).2]
def mC:Hints:={ H:=(hK 1 (hJ [0] hL (hS (hK 1 (hS (hP [0,3] (hK 1 (hS (hS (hJ [0,3,4] hL hL) hL) hL))) hL)) hL))) }
def SN (F:KF R):=Hh Tryz.f105 mC [] [] N F
def Aet (a:Lu) (K:St→O R):=fun b d=>K ⟨[(0,(.str a)),(3,(iv b)),(4,(.bool d))],[]⟩
def mD (a:Lu) (K:St→O R):=fun c=>K ⟨[(0,(.str a)),(3,(iv c))],[]⟩
def Aeu (a:Lu) (K:St→O R):=K ⟨[(0,(.str a))],[]⟩
theorem rS (Q1) (F:KF R) (a):Aet a (A0 (SN N F (pz 1380417) [Q1]))=(EQ N (mD a Q1) (A8 F) a):=by kernel_rfl
theorem rT (F:KF R) (a):∀ n,mD a (Ao (SN N F (pz 1348) []) n)=(M0 N (A8 F) a n):=D3 fun n e=>(Yq (Zz N (A8 F) a) e ((jW ..).trans ((rS ..).trans (vO (EQ _ · _ _) e))):_)
theorem rU (F:KF R) (a):Aeu a (A0 (SN N F (pz 21) []))=(ER N (A8 F) a):=(Bn (MF N (A8 F) a) ((lW ..).trans (rT ..)):_)
def Ai9:=Bj N 105 [] mC (fun
 | [(.str a)],[]=>some fun _ k=>SM N a (A8 k)
 | _,_=>none) fun _ _=>by split;intro R F;exact(Bn (WJ N (A8 F) · _) ((jW ..).trans (rU ..)):_).trans (ee ..).symm;trivial
def H1 (r0:LA→O R) (b a:Int) (c:Nat) (d:LA) (k0:Int→LA→O R) (g:Int) (j:LA):O R :=
 (cond (decide (g<a)) (cond (Ae g c) (bU (d.drop (0+((g.toNat)*1))) fun l=>cond (Ae a c) (bU (d.drop (0+((a.toNat)*1))) fun m=>Ab N (!(l==m)) b a 0 10 j fun o=>k0 (wrap .i64 (g+1)) o) none) none) (r0 j))
def Db (r0:LA→O R) (b a:Int) (c:Nat) (d:LA):Nat→Int→LA→O R
 | 0,_,_=>none
 | n+1,g,j=>H1 N r0 b a c d (Db r0 b a c d n) g j
def Mg (r0:LA→O R) (q0:Nat→LA→Int→LA→O R) (f:LA) (h:Bool) (b a:Int) (i:LA):O R :=
 (cond (ble 8 (f.length)) (Ho N (f.take 8) h b fun c d=>cond (Ae a c) (bU (d.drop (0+((a.toNat)*1))) fun p=>SM N p fun q=>Ab N q b a 0 9 i fun r=>q0 c d 0 r) none) none)
def Cn:=(Af fun N f h b a i r0=>Mg (R:=R) N r0 (fun c d=>Db N r0 b a c d N) f h b a i).1
theorem Xu (f h b a i r0):(@Cn R N f h b a i r0)=(Mg N r0 (fun c d=>Db N r0 b a c d N) f h b a i):=by rw[Cn,(Af _).2]
def Zc:Hints:={ H:=(hK 4 (hS (hP [0,2,3,8,9] hL) hL)) }
def CF:N0:=[mB N,Ai9 N,Bk N]
def XR (F:KF R):=Hh Tryz.f61 Zc (CF N) [100000] N F
def XS (b a:Int) (c:Nat) (d:LA) (K:St→O R):=fun g j=>K ⟨[(0,(.optr 100000 0)),(2,(iv b)),(3,(iv a)),(8,(.own 300000 0 c)),(9,(iv g))],[(100000,(bQ 0 j)),(300000,(bQ 1 d))]⟩
theorem MG (F:KF R) (b a c d):∀ n,XS b a c d (Ao (XR N F (pz 1364) []) n)=(Db N (Hx F) b a c d n):=D3 fun n e=>(Bn (H1 N (Hx F) b a c d) e:_)
def E2:=Bj N 61 (CF N) Zc (fun
 | [(.optr 100000 0),(.pagg f h),(.int .i64 b),(.int .i64 a)],[(100000,⟨false,false,true,false,0,i,false,none⟩)]=>some fun _ k=>Cn N f h b a i (Hx k)
 | _,_=>none) fun _ _=>by split;intro R F;exact(Bn (Mg N (Hx F) · _ _ _ _ _) (vP fun c d=>(lW ..).trans (MG ..)):_).trans (Xu ..).symm;trivial
def Vd (a:LA) (g:Bool) (b c d e:Int) (f:LA) (r0:LA→O R):O R :=
 (Aw 3 (a.drop 2) fun l h=>Ar N 0 (wrap .i64 ((h:Int) - 1)) [(.int .i64 b)] 1 false true fun i=>Ab N i c d e 12 f fun j=>r0 j)
def Es:=(Af (@Vd R)).1
theorem Zd:@Es R=@Vd R:=(Af _).2
def Mh:=Bj N 106 [Dk N,Bk N] Bg (fun
 | [(.optr 100000 0),(.pagg a g),(.int .i64 b),(.int .i64 c),(.int .i64 d),(.int .i64 e)],[(100000,⟨false,false,true,false,0,f,false,none⟩)]=>some fun _ k=>Es N a g b c d e f (Hx k)
 | _,_=>none) fun _ _=>by split;intro R F;dsimp only;rw[Zd];kernel_rfl;trivial
def GV (a:LA) (b:Bool) (r0:Bool→O R):O R :=
 (As .i64 (a.drop 1) fun c=>Ar N 1 1048576 [(.int .i64 c)] 1 false true fun d=>cond (d==true) (As .i64 a fun e=>Ar N (-1048576) 1048576 [(.int .i64 e)] 1 false true fun f=>r0 (cond true f false)) (r0 false))
def Km:=(Af (@GV R)).1
theorem IN:@Km R=@GV R:=(Af _).2
def SO:=Bj N 107 [Dk N] Bg (fun
 | [(.pagg a b)],[]=>some fun _ k=>Km N a b (A8 k)
 | _,_=>none) fun _ _=>by split;intro R F;dsimp only;rw[IN];kernel_rfl;trivial
def M5 (N:Nat) (r0:Bool→O R) (b:LA) (a:Nat) (c d:Bool) (k0:Int→O R) (f:Int):O R :=
 (cond (decide (f<(a:Int))) (cond (Ae f a) (As .i64 (b.drop ((f.toNat)*1)) fun g=>cond (Ae (wrap .i64 (f - 1)) a) (As .i64 (b.drop (((wrap .i64 (f - 1)).toNat)*1)) fun h=>cond (decide (g≤h)) (r0 false) (k0 (wrap .i64 (f+1)))) none) none) (r0 true))
def Ge (r0:Bool→O R) (b:LA) (a:Nat) (c d:Bool):Nat→Int→O R
 | 0,_=>none
 | n+1,f=>M5 N r0 b a c d (Ge r0 b a c d n) f
def ES (N:Nat) (r0:Bool→O R) (q0:Int→O R) (b:LA) (a:Nat) (c d:Bool):O R :=
 (q0 1)
def Qy:=(Af fun N b a c d r0=>ES (R:=R) N r0 (Ge N r0 b a c d N) b a c d).1
theorem SP (b a c d r0):(@Qy R N b a c d r0)=(ES N r0 (Ge N r0 b a c d N) b a c d):=by rw[Qy,(Af _).2]
def YX:Hints:={ H:=(hK 1 (hS (hK 1 (hS (hP [0,3] hL) hL)) hL)) }
def vg (F:KF R):=Hh Tryz.f110 YX [] [] N F
def vh (b:LA) (a:Nat) (c d:Bool) (K:St→O R):=fun f=>K ⟨[(0,(.imm b a 1 c d)),(3,(iv f))],[]⟩
theorem jZ (F:KF R) (b a c d):∀ n,vh b a c d (Ao (vg N F (pz 324) []) n)=(Ge N (A8 F) b a c d n):=D3 fun n e=>(Bn (M5 N (A8 F) b a c d) e:_)
def eg:=Bj N 110 [] YX (fun
 | [(.imm b a 1 c d)],[]=>some fun _ k=>Qy N b a c d (A8 k)
 | _,_=>none) fun _ _=>by split;intro R F;exact(Bn (ES N (A8 F) · _ _ _ _) ((lW ..).trans (jZ ..)):_).trans (SP ..).symm;trivial
def Ss (g:LA) (i:Bool) (a:LA) (b:Nat) (j c:Bool) (d e f:Int) (h:LA) (r0:LA→O R):O R :=
 (As .i64 g fun l=>Ar N 0 (wrap .i64 (l - 1)) a b false c fun m=>Ab N m d e f 3 h fun n=>Qy N a b false c fun o=>Ab N o d e f 11 n fun p=>r0 p)
def Jf:=(Af (@Ss R)).1
theorem Xv:@Jf R=@Ss R:=(Af _).2
def CG:=Bj N 108 [Dk N,Bk N,eg N] Bg (fun
 | [(.optr 100000 0),(.pagg g i),(.imm a b 1 j c),(.int .i64 d),(.int .i64 e),(.int .i64 f)],[(100000,⟨false,false,true,false,0,h,false,none⟩)]=>some fun _ k=>Jf N g i a b j c d e f h (Hx k)
 | _,_=>none) fun _ _=>by split;intro R F;dsimp only;rw[Xv];kernel_rfl;trivial
def O7 (r0:LA→O R) (a:Int) (b:Bool) (c d:LA) (i:LA):O R :=
 (As .i64 (d.drop 9) fun l=>Ar N 0 1048576 [(.int .i64 l)] 1 false true fun m=>Ab N m 2 a 6 3 i fun n=>As .i64 (d.drop 9) fun o=>As .i64 (d.drop 10) fun p=>Ar N o 1048576 [(.int .i64 p)] 1 false true fun q=>Ab N q 2 a 7 3 n fun r=>cond (ble 8 (c.length)) (Aw 1 (d.drop 11) fun s t=>Jf N (c.take 8) b s t false b 2 a 8 r fun u=>r0 u) none)
def M6 (r0:LA→O R) (a:Int) (b:Bool) (c d:LA) (q2:LA→O R) (g:LA):O R :=
 (cond (ble 2 ((d.drop 7).length)) (cond ((!b)||(A6 ((d.drop 7).take 2))) (Km N ((d.drop 7).take 2) false fun v=>cond (v==true) (As .i64 (d.drop 7) fun w=>Ab N (cond true (decide (w≥0)) false) 2 a 5 3 g fun x=>q2 x) (Ab N false 2 a 5 3 g fun y=>q2 y)) none) none)
def O8 (r0:LA→O R) (a:Int) (b:Bool) (c d:LA) (g:LA):O R:=(M6 N r0 a b c d (O7 N r0 a b c d) g)
def M7 (r0:LA→O R) (a:Int) (b:Bool) (c:LA) (q1:LA→LA→O R) (h d:LA):O R :=
 (cond (ble 2 ((d.drop 5).length)) (cond ((!b)||(A6 ((d.drop 5).take 2))) (Km N ((d.drop 5).take 2) false fun z=>cond (z==true) (As .i64 (d.drop 5) fun aa=>Ab N (cond true (decide (aa≤0)) false) 2 a 4 3 h fun ab=>q1 d ab) (Ab N false 2 a 4 3 h fun ac=>q1 d ac)) none) none)
def Jb (r0:LA→O R) (a:Int) (b:Bool) (c:LA) (h d:LA):O R:=(M7 N r0 a b c (fun d=>O8 N r0 a b c d) h d)
def Mi (r0:LA→O R) (q0:LA→LA→O R) (c:LA) (b:Bool) (a:Int) (f:LA):O R :=
 (Aw 12 (c.drop 3) fun e ad=>cond (Ae a ad) (cond (ble 12 ((e.drop ((a.toNat)*12)).length)) (cond ((beq 0 0)&&((beq (((e.drop ((a.toNat)*12)).take 12).length) 12)&&(beq 12 12))) (cond (ble 8 (c.length)) (Cn N (c.take 8) b 2 a f fun ae=>cond (ble 8 (c.length)) (As .i64 (((e.drop ((a.toNat)*12)).take 12).drop 1) fun af=>Es N (c.take 8) b af 2 a 1 ae fun ag=>cond (ble 8 (c.length)) (As .i64 (((e.drop ((a.toNat)*12)).take 12).drop 2) fun ah=>Es N (c.take 8) b ah 2 a 2 ag fun ai=>As .i64 (((e.drop ((a.toNat)*12)).take 12).drop 1) fun aj=>As .i64 (((e.drop ((a.toNat)*12)).take 12).drop 2) fun ak=>Ab N (aj != ak) 2 a 2 1 ai fun j=>cond (ble 2 ((((e.drop ((a.toNat)*12)).take 12).drop 3).length)) (cond ((!b)||(A6 ((((e.drop ((a.toNat)*12)).take 12).drop 3).take 2))) (Km N ((((e.drop ((a.toNat)*12)).take 12).drop 3).take 2) false fun al=>cond (al==true) (As .i64 (((e.drop ((a.toNat)*12)).take 12).drop 3) fun am=>Ab N (cond true (decide (am>0)) false) 2 a 3 3 j fun an=>q0 an ((e.drop ((a.toNat)*12)).take 12)) (Ab N false 2 a 3 3 j fun ao=>q0 ao ((e.drop ((a.toNat)*12)).take 12))) none) none) none) none) none) none) none) none)
def Jg:=(Af fun N c b a f r0=>Mi (R:=R) N r0 (Jb N r0 a b c) c b a f).1
theorem Xw (c b a f r0):(@Jg R N c b a f r0)=(Mi N r0 (Jb N r0 a b c) c b a f):=by rw[Jg,(Af _).2]
def Ze:Hints:={ H:=(hK 6 (hJ [0,2,4,6,7] hL (hJ [0,2,4,6,7] hL (hJ [0,2,4,6,7] hL hL)))) }
def CH:N0:=[E2 N,Mh N,Bk N,SO N,Dk N,CG N]
def O9 (F:KF R):=Hh Tryz.f65 Ze (CH N) [100000] N F
def XT (a:Int) (b:Bool) (c d:LA) (K:St→O R):=fun i=>K ⟨[(0,(.optr 100000 0)),(2,(iv a)),(4,(op 0)),(6,(op 1)),(7,(iv 2))],[(100000,(bQ 0 i)),(300000,(bP b 0 c)),(300001,(bP b 0 d))]⟩
def XU (a:Int) (b:Bool) (c d:LA) (K:St→O R):=fun g=>K ⟨[(0,(.optr 100000 0)),(2,(iv a)),(4,(op 0)),(6,(op 1)),(7,(iv 2))],[(100000,(bQ 0 g)),(300000,(bP b 0 c)),(300001,(bP b 0 d))]⟩
def XV (a:Int) (b:Bool) (c:LA) (K:St→O R):=fun h d=>K ⟨[(0,(.optr 100000 0)),(2,(iv a)),(4,(op 0)),(6,(op 1)),(7,(iv 2))],[(100000,(bQ 0 h)),(300000,(bP b 0 c)),(300001,(bP b 0 d))]⟩
theorem MH (F:KF R) (a b c d):XT a b c d (A0 (O9 N F (pz 349525) []))=(O7 N (Hx F) a b c d):=by kernel_rfl
theorem MI (F:KF R) (a b c d):XU a b c d (A0 (O9 N F (pz 87381) []))=(O8 N (Hx F) a b c d):=(Bn (M6 N (Hx F) a b c d) ((jW ..).trans (MH ..)):_)
theorem MJ (F:KF R) (a b c):XV a b c (A0 (O9 N F (pz 21845) []))=(Jb N (Hx F) a b c):=(Bn (M7 N (Hx F) a b c) (Ai5 fun d=>(jW ..).trans (MI ..)):_)
def bZ:=Bj N 65 (CH N) Ze (fun
 | [(.optr 100000 0),(.pagg c b),(.int .i64 a)],[(100000,⟨false,false,true,false,0,f,false,none⟩)]=>some fun _ k=>Jg N c b a f (Hx k)
 | _,_=>none) fun _ _=>by split;intro R F;exact(Bn (Mi N (Hx F) · _ _ _ _) ((jW ..).trans (MJ ..)):_).trans (Xw ..).symm;trivial
def Fh (r0:LA→O R) (b:Int) (d:LA) (c:Bool) (a:LA) (k2:Int→Int→O R) (m j:Int):O R :=
 (Aw 2 (a.drop 4) fun ax q=>cond ((decide (j<(q:Int)))==true) (As .i64 (d.drop 3) fun r=>cond (cond true (r==0) false) (Aw 2 (a.drop 4) fun s t=>cond (Ae j t) (As .i64 (s.drop ((j.toNat)*2)) fun u=>k2 (wrap .i64 (m+u)) (wrap .i64 (j+1))) none) (As .i64 (d.drop 3) fun v=>cond ((v != 0)==false) (As .i64 (a.drop 3) fun w=>As .i64 (a.drop 2) fun x=>Ab N (cond false true (m==(wrap .i64 (w - x)))) 3 b 4 4 d fun y=>r0 y) (Ab N true 3 b 4 4 d fun z=>r0 z))) (As .i64 (d.drop 3) fun aa=>cond ((aa != 0)==false) (As .i64 (a.drop 3) fun ab=>As .i64 (a.drop 2) fun ac=>Ab N (cond false true (m==(wrap .i64 (ab - ac)))) 3 b 4 4 d fun ad=>r0 ad) (Ab N true 3 b 4 4 d fun ae=>r0 ae)))
def Cs (r0:LA→O R) (b:Int) (d:LA) (c:Bool) (a:LA):Nat→Int→Int→O R
 | 0,_,_=>none
 | n+1,m,j=>Fh N r0 b d c a (Cs r0 b d c a n) m j
def Dl (r0:LA→O R) (b:Int) (c:Bool) (a:LA) (k1:Int→LA→O R) (q2:LA→Int→Int→O R) (i:Int) (d:LA):O R :=
 (Aw 2 (a.drop 4) fun ay af=>cond (decide (i<(af:Int))) (Aw 2 (a.drop 4) fun ag ah=>cond (Ae i ah) (As .i64 ((ag.drop ((i.toNat)*2)).drop 1) fun ai=>Aw 2 (a.drop 4) fun aj ak=>cond (Ae (wrap .i64 (i - 1)) ak) (As .i64 ((aj.drop (((wrap .i64 (i - 1)).toNat)*2)).drop 1) fun al=>Ab N (decide (ai≥al)) 3 b 4 11 d fun am=>k1 (wrap .i64 (i+1)) am) none) none) (q2 d 0 0))
def B4 (r0:LA→O R) (b:Int) (c:Bool) (a:LA):Nat→Int→LA→O R
 | 0,_,_=>none
 | n+1,i,d=>Dl N r0 b c a (B4 r0 b c a n) (fun d=>Cs N r0 b d c a N) i d
def Fi (r0:LA→O R) (b:Int) (f:LA) (g:Nat) (c:Bool) (a:LA) (k0:Int→Int→LA→O R) (q1:Int→LA→O R) (o h:Int) (p:LA):O R :=
 (cond (decide (h<o)) (cond (Ae h g) (cond (ble 2 ((f.drop ((h.toNat)*2)).length)) (cond ((!c)||(A6 ((f.drop ((h.toNat)*2)).take 2))) (cond ((beq (((f.drop ((h.toNat)*2)).take 2).length) 2)&&((ble 2 2)&&(!false))) (As .i64 (setCells [(.int .i64 0),(.int .i64 0)] 0 ((f.drop ((h.toNat)*2)).take 2)) fun an=>Ar N 1 1048576 [(.int .i64 an)] 1 false true fun ao=>cond (ao==true) (As .i64 ((setCells [(.int .i64 0),(.int .i64 0)] 0 ((f.drop ((h.toNat)*2)).take 2)).drop 1) fun ap=>Ar N (-1048576) 1048576 [(.int .i64 ap)] 1 false true fun aq=>Ab N (cond true aq false) 3 b 4 3 p fun ar=>k0 o (wrap .i64 (h+1)) ar) (Ab N false 3 b 4 3 p fun au=>k0 o (wrap .i64 (h+1)) au)) none) none) none) none) (q1 1 p))
def B5 (r0:LA→O R) (b:Int) (f:LA) (g:Nat) (c:Bool) (a:LA):Nat→Int→Int→LA→O R
 | 0,_,_,_=>none
 | n+1,o,h,p=>Fi N r0 b f g c a (B5 r0 b f g c a n) (B4 N r0 b c a N) o h p
def Hc (r0:LA→O R) (q0:LA→Nat→Int→Int→LA→O R) (a:LA) (c:Bool) (b:Int) (l:LA):O R :=
 (Aw 2 (a.drop 4) fun az av=>Ab N (decide ((av:Int)≤8)) 3 b 4 8 l fun aw=>Aw 2 (a.drop 4) fun f g=>q0 f g (g:Int) 0 aw)
def Dx:=(Af fun N a c b l r0=>Hc (R:=R) N r0 (fun f g=>B5 N r0 b f g c a N) a c b l).1
theorem Pi (a c b l r0):(@Dx R N a c b l r0)=(Hc N r0 (fun f g=>B5 N r0 b f g c a N) a c b l):=by rw[Dx,(Af _).2]
def Rk:Hints:={ H:=(hK 3 (hS (hK 1 (hS (hP [0,2,4,6,21,22,23] hL) hL)) (hS (hK 1 (hS (hP [0,2,4,6,9] hL) hL)) (hK 1 (hS (hK 1 (hS (hP [0,2,4,6,10,11] hL) hL)) hL))))) }
def Sw:N0:=[Bk N,Dk N]
def Jh (F:KF R):=Hh Tryz.f109 Rk (Sw N) [100000] N F
def IP (b:Int) (d:LA) (c:Bool) (a:LA) (K:St→O R):=fun m j=>K ⟨[(0,(.optr 100000 0)),(2,(iv b)),(4,(op 0)),(6,(iv 3)),(10,(iv m)),(11,(iv j))],[(100000,(bQ 0 d)),(300000,(bP c 0 a))]⟩
def IQ (b:Int) (c:Bool) (a:LA) (K:St→O R):=fun i d=>K ⟨[(0,(.optr 100000 0)),(2,(iv b)),(4,(op 0)),(6,(iv 3)),(9,(iv i))],[(100000,(bQ 0 d)),(300000,(bP c 0 a))]⟩
def IR (b:Int) (f:LA) (g:Nat) (c:Bool) (a:LA) (K:St→O R):=fun o h p=>K ⟨[(0,(.optr 100000 0)),(2,(iv b)),(4,(op 0)),(6,(iv 3)),(21,(.imm f g 2 false c)),(22,(iv o)),(23,(iv h))],[(100000,(bQ 0 p)),(300000,(bP c 0 a))]⟩
theorem CI (F:KF R) (b d c a):∀ n,IP b d c a (Ao (Jh N F (pz 349508) []) n)=(Cs N (Hx F) b d c a n):=D3 fun n e=>(Bn (Fh N (Hx F) b d c a) e:_)
theorem CJ (F:KF R) (b c a):∀ n,IQ b c a (Ao (Jh N F (pz 21828) []) n)=(B4 N (Hx F) b c a n):=D3 fun n e=>(Yq (Dl N (Hx F) b c a) e (Ai5 fun d=>(lW ..).trans (CI ..)):_)
theorem CK (F:KF R) (b f g c a):∀ n,IR b f g c a (Ao (Jh N F (pz 5444) []) n)=(B5 N (Hx F) b f g c a n):=D3 fun n e=>(Yq (Fi N (Hx F) b f g c a) e ((lW ..).trans (CJ ..)):_)
def MK:=Bj N 109 (Sw N) Rk (fun
 | [(.optr 100000 0),(.pagg a c),(.int .i64 b)],[(100000,⟨false,false,true,false,0,l,false,none⟩)]=>some fun _ k=>Dx N a c b l (Hx k)
 | _,_=>none) fun _ _=>by split;intro R F;exact(Bn (Hc N (Hx F) · _ _ _ _) (vP fun f g=>(lW ..).trans (CK ..)):_).trans (Pi ..).symm;trivial
def Pa (r0:LA→O R) (a:Int) (c:Bool) (d h:LA):O R :=
 (As .i64 (d.drop 19) fun l=>cond (l==2) (As .i64 (d.drop 2) fun m=>As .i64 (d.drop 3) fun n=>As .i64 (d.drop 21) fun o=>Ar N m n [(.int .i64 o)] 1 false true fun p=>Ab N p 3 a 21 3 h fun q=>r0 q) (As .i64 (d.drop 21) fun r=>Ab N (r==0) 3 a 21 3 h fun s=>r0 s))
def M8 (r0:LA→O R) (a:Int) (c:Bool) (q1:LA→LA→O R) (g d:LA):O R :=
 (As .i64 (d.drop 20) fun t=>Ar N 1 48 [(.int .i64 t)] 1 false true fun u=>Ab N u 3 a 20 3 g fun i=>As .i64 (d.drop 19) fun v=>cond ((v != 1)==false) (As .i64 (d.drop 20) fun w=>As .i64 (d.drop 12) fun x=>Ab N (cond false true (decide (w≤x))) 3 a 20 3 i fun y=>q1 d y) (Ab N true 3 a 20 3 i fun z=>q1 d z))
def Jc (r0:LA→O R) (a:Int) (c:Bool) (g d:LA):O R:=(M8 N r0 a c (fun d=>Pa N r0 a c d) g d)
def Mj (r0:LA→O R) (q0:LA→LA→O R) (e:LA) (c:Bool) (a:Int) (f:LA):O R :=
 (Aw 22 (e.drop 4) fun b aa=>cond (Ae a aa) (cond (ble 22 ((b.drop ((a.toNat)*22)).length)) (cond ((beq 0 0)&&((beq (((b.drop ((a.toNat)*22)).take 22).length) 22)&&(beq 22 22))) (cond (ble 8 (e.length)) (Cn N (e.take 8) c 3 a f fun ab=>cond (ble 8 (e.length)) (As .i64 (((b.drop ((a.toNat)*22)).take 22).drop 1) fun ac=>Es N (e.take 8) c ac 3 a 1 ab fun ad=>As .i64 (((b.drop ((a.toNat)*22)).take 22).drop 2) fun ae=>Ar N 0 1048576 [(.int .i64 ae)] 1 false true fun af=>Ab N af 3 a 2 3 ad fun ag=>As .i64 (((b.drop ((a.toNat)*22)).take 22).drop 2) fun ah=>As .i64 (((b.drop ((a.toNat)*22)).take 22).drop 3) fun ai=>Ar N ah 1048576 [(.int .i64 ai)] 1 false true fun aj=>Ab N aj 3 a 3 3 ag fun ak=>cond (ble 22 (((b.drop ((a.toNat)*22)).take 22).length)) (Dx N (((b.drop ((a.toNat)*22)).take 22).take 22) c a ak fun al=>As .i64 (((b.drop ((a.toNat)*22)).take 22).drop 5) fun am=>Ar N 0 1048576 [(.int .i64 am)] 1 false true fun an=>Ab N an 3 a 5 3 al fun ao=>As .i64 (((b.drop ((a.toNat)*22)).take 22).drop 6) fun ap=>Ar N 0 1048576 [(.int .i64 ap)] 1 false true fun aq=>Ab N aq 3 a 6 3 ao fun ar=>As .i64 (((b.drop ((a.toNat)*22)).take 22).drop 7) fun au=>Ar N 0 1048576 [(.int .i64 au)] 1 false true fun av=>Ab N av 3 a 7 3 ar fun aw=>As .i64 (((b.drop ((a.toNat)*22)).take 22).drop 2) fun ax=>As .i64 (((b.drop ((a.toNat)*22)).take 22).drop 3) fun ay=>As .i64 (((b.drop ((a.toNat)*22)).take 22).drop 8) fun az=>Ar N ax ay [(.int .i64 az)] 1 false true fun ba=>Ab N ba 3 a 8 3 aw fun bb=>As .i64 (((b.drop ((a.toNat)*22)).take 22).drop 2) fun bc=>As .i64 (((b.drop ((a.toNat)*22)).take 22).drop 3) fun bd=>As .i64 (((b.drop ((a.toNat)*22)).take 22).drop 9) fun be=>Ar N bc bd [(.int .i64 be)] 1 false true fun bf=>Ab N bf 3 a 9 3 bb fun bg=>As .i64 (((b.drop ((a.toNat)*22)).take 22).drop 10) fun bh=>Ar N 0 24 [(.int .i64 bh)] 1 false true fun bi=>Ab N bi 3 a 10 3 bg fun bj=>As .i64 (((b.drop ((a.toNat)*22)).take 22).drop 11) fun bk=>Ar N 0 24 [(.int .i64 bk)] 1 false true fun bl=>Ab N bl 3 a 11 3 bj fun bm=>As .i64 (((b.drop ((a.toNat)*22)).take 22).drop 12) fun bn=>Ar N 0 24 [(.int .i64 bn)] 1 false true fun bo=>Ab N bo 3 a 12 3 bm fun bp=>As .i64 (((b.drop ((a.toNat)*22)).take 22).drop 13) fun bq=>Ar N 0 1048576 [(.int .i64 bq)] 1 false true fun br=>Ab N br 3 a 13 3 bp fun bs=>As .i64 (((b.drop ((a.toNat)*22)).take 22).drop 14) fun bt=>Ar N 0 1048576 [(.int .i64 bt)] 1 false true fun bu=>Ab N bu 3 a 14 3 bs fun bv=>As .i64 (((b.drop ((a.toNat)*22)).take 22).drop 15) fun bw=>Ar N 0 24 [(.int .i64 bw)] 1 false true fun bx=>Ab N bx 3 a 15 3 bv fun bz=>As .i64 (((b.drop ((a.toNat)*22)).take 22).drop 16) fun ca=>Ar N 0 1048576 [(.int .i64 ca)] 1 false true fun cb=>Ab N cb 3 a 16 3 bz fun cc=>As .i64 (((b.drop ((a.toNat)*22)).take 22).drop 17) fun cd=>Ar N 0 1048576 [(.int .i64 cd)] 1 false true fun ce=>Ab N ce 3 a 17 3 cc fun cf=>cond (ble 8 (e.length)) (Aw 1 (((b.drop ((a.toNat)*22)).take 22).drop 18) fun cg ch=>Jf N (e.take 8) c cg ch false c 3 a 18 cf fun ci=>As .i64 (((b.drop ((a.toNat)*22)).take 22).drop 19) fun cj=>Ar N 0 2 [(.int .i64 cj)] 1 false true fun ck=>Ab N ck 3 a 19 12 ci fun j=>As .i64 (((b.drop ((a.toNat)*22)).take 22).drop 19) fun cl=>cond ((cl != 1)==false) (As .i64 (((b.drop ((a.toNat)*22)).take 22).drop 12) fun cm=>Ab N (cond false true (decide (cm>0))) 3 a 19 16 j fun cn=>q0 cn ((b.drop ((a.toNat)*22)).take 22)) (Ab N true 3 a 19 16 j fun co=>q0 co ((b.drop ((a.toNat)*22)).take 22))) none) none) none) none) none) none) none)
def Ji:=(Af fun N e c a f r0=>Mj (R:=R) N r0 (Jc N r0 a c) e c a f).1
theorem Xx (e c a f r0):(@Ji R N e c a f r0)=(Mj N r0 (Jc N r0 a c) e c a f):=by rw[Ji,(Af _).2]
def Zf:Hints:={ H:=(hK 22 (hJ [0,2,6,7] hL (hK 1 (hJ [0,2,6,7] hL hL)))) }
def CL:N0:=[E2 N,Mh N,Dk N,Bk N,MK N,CG N]
def Zg (F:KF R):=Hh Tryz.f66 Zf (CL N) [100000] N F
def XW (a:Int) (c:Bool) (d:LA) (K:St→O R):=fun h=>K ⟨[(0,(.optr 100000 0)),(2,(iv a)),(6,(op 0)),(7,(iv 3))],[(100000,(bQ 0 h)),(300000,(bP c 0 d))]⟩
def XX (a:Int) (c:Bool) (K:St→O R):=fun g d=>K ⟨[(0,(.optr 100000 0)),(2,(iv a)),(6,(op 0)),(7,(iv 3))],[(100000,(bQ 0 g)),(300000,(bP c 0 d))]⟩
theorem ML (F:KF R) (a c d):XW a c d (A0 (Zg N F (pz 1501199875790165) []))=(Pa N (Hx F) a c d):=by kernel_rfl
theorem MM (F:KF R) (a c):XX a c (A0 (Zg N F (pz 93824992236885) []))=(Jc N (Hx F) a c):=(Bn (M8 N (Hx F) a c) (Ai5 fun d=>(jW ..).trans (ML ..)):_)
def b6:=Bj N 66 (CL N) Zf (fun
 | [(.optr 100000 0),(.pagg e c),(.int .i64 a)],[(100000,⟨false,false,true,false,0,f,false,none⟩)]=>some fun _ k=>Ji N e c a f (Hx k)
 | _,_=>none) fun _ _=>by split;intro R F;exact(Bn (Mj N (Hx F) · _ _ _ _) ((jW ..).trans (MM ..)):_).trans (Xx ..).symm;trivial
def Qz (c:LA) (d:Bool) (a:Int) (e:LA) (r0:LA→O R):O R :=
 (Aw 9 (c.drop 5) fun b g=>cond (Ae a g) (cond (ble 9 ((b.drop ((a.toNat)*9)).length)) (cond ((beq 0 0)&&((beq (((b.drop ((a.toNat)*9)).take 9).length) 9)&&(beq 9 9))) (cond (ble 8 (c.length)) (Cn N (c.take 8) d 4 a e fun h=>cond (ble 8 (c.length)) (As .i64 (((b.drop ((a.toNat)*9)).take 9).drop 1) fun i=>Es N (c.take 8) d i 4 a 1 h fun j=>As .i64 (((b.drop ((a.toNat)*9)).take 9).drop 2) fun l=>Ar N 0 1048576 [(.int .i64 l)] 1 false true fun m=>Ab N m 4 a 2 3 j fun n=>As .i64 (((b.drop ((a.toNat)*9)).take 9).drop 2) fun o=>As .i64 (((b.drop ((a.toNat)*9)).take 9).drop 3) fun p=>Ar N 0 o [(.int .i64 p)] 1 false true fun q=>Ab N q 4 a 3 3 n fun r=>As .i64 (((b.drop ((a.toNat)*9)).take 9).drop 2) fun s=>As .i64 (((b.drop ((a.toNat)*9)).take 9).drop 4) fun t=>Ar N 0 s [(.int .i64 t)] 1 false true fun u=>Ab N u 4 a 4 3 r fun v=>As .i64 (((b.drop ((a.toNat)*9)).take 9).drop 5) fun w=>Ar N 0 1048576 [(.int .i64 w)] 1 false true fun x=>Ab N x 4 a 5 3 v fun y=>As .i64 (((b.drop ((a.toNat)*9)).take 9).drop 6) fun z=>Ar N 0 1048576 [(.int .i64 z)] 1 false true fun aa=>Ab N aa 4 a 6 3 y fun f=>cond (ble 2 ((((b.drop ((a.toNat)*9)).take 9).drop 7).length)) (cond ((!d)||(A6 ((((b.drop ((a.toNat)*9)).take 9).drop 7).take 2))) (Km N ((((b.drop ((a.toNat)*9)).take 9).drop 7).take 2) false fun ab=>cond (ab==true) (As .i64 (((b.drop ((a.toNat)*9)).take 9).drop 7) fun ac=>cond ((cond true (decide (ac>0)) false)==true) (As .i64 (((b.drop ((a.toNat)*9)).take 9).drop 7) fun ad=>As .i64 (((b.drop ((a.toNat)*9)).take 9).drop 8) fun ae=>Ab N (cond true (decide (ad≤ae)) false) 4 a 7 3 f fun af=>r0 af) (Ab N false 4 a 7 3 f fun ag=>r0 ag)) (Ab N false 4 a 7 3 f fun ah=>r0 ah)) none) none) none) none) none) none) none)
def Mk:=(Af (@Qz R)).1
theorem Uj:@Mk R=@Qz R:=(Af _).2
def XY:=Bj N 67 [E2 N,Mh N,Dk N,Bk N,SO N] Bg (fun
 | [(.optr 100000 0),(.pagg c d),(.int .i64 a)],[(100000,⟨false,false,true,false,0,e,false,none⟩)]=>some fun _ k=>Mk N c d a e (Hx k)
 | _,_=>none) fun _ _=>by split;intro R F;dsimp only;rw[Uj];kernel_rfl;trivial
def Ve (b:LA) (c:Bool) (a:Int) (e:LA) (r0:LA→O R):O R :=
 (Aw 5 (b.drop 6) fun d f=>cond (Ae a f) (cond (ble 5 ((d.drop ((a.toNat)*5)).length)) (cond ((beq 0 0)&&((beq (((d.drop ((a.toNat)*5)).take 5).length) 5)&&(beq 5 5))) (cond (ble 8 (b.length)) (Cn N (b.take 8) c 5 a e fun g=>cond (ble 8 (b.length)) (As .i64 (((d.drop ((a.toNat)*5)).take 5).drop 1) fun h=>Es N (b.take 8) c h 5 a 1 g fun i=>cond (ble 8 (b.length)) (Aw 1 (((d.drop ((a.toNat)*5)).take 5).drop 2) fun j l=>Cx N (b.take 8) c j l false c 0 1048576 5 a 2 i fun m=>cond (ble 8 (b.length)) (Aw 1 (((d.drop ((a.toNat)*5)).take 5).drop 3) fun n o=>Cx N (b.take 8) c n o false c 0 1048576 5 a 3 m fun p=>cond (ble 8 (b.length)) (Aw 1 (((d.drop ((a.toNat)*5)).take 5).drop 4) fun q r=>Cx N (b.take 8) c q r false c (-1048576) 1048576 5 a 4 p fun s=>r0 s) none) none) none) none) none) none) none) none)
def P9:=(Af (@Ve R)).1
theorem Zh:@P9 R=@Ve R:=(Af _).2
def eh:=Bj N 68 [E2 N,Mh N,Mz N] Bg (fun
 | [(.optr 100000 0),(.pagg b c),(.int .i64 a)],[(100000,⟨false,false,true,false,0,e,false,none⟩)]=>some fun _ k=>P9 N b c a e (Hx k)
 | _,_=>none) fun _ _=>by split;intro R F;dsimp only;rw[Zh];kernel_rfl;trivial
def F9 (r0:LA→O R) (a:Int) (f:LA) (h:Nat) (b:Bool) (k2:Int→Int→LA→O R) (s l:Int) (t:LA):O R :=
 (cond (decide (l<s)) (cond (Ae l h) (cond (ble 3 ((f.drop ((l.toNat)*3)).length)) (cond ((!b)||(A6 ((f.drop ((l.toNat)*3)).take 3))) (cond ((beq (((f.drop ((l.toNat)*3)).take 3).length) 3)&&((ble 3 3)&&(!false))) (As .i64 ((setCells [(.int .i64 0),(.int .i64 0),(.int .i64 0)] 0 ((f.drop ((l.toNat)*3)).take 3)).drop 1) fun x=>As .i64 ((setCells [(.int .i64 0),(.int .i64 0),(.int .i64 0)] 0 ((f.drop ((l.toNat)*3)).take 3)).drop 2) fun y=>Ar N 0 1048576 [(.int .i64 x),(.int .i64 y)] 2 false true fun z=>Ab N z 6 a 3 3 t fun aa=>k2 s (wrap .i64 (l+1)) aa) none) none) none) none) (r0 t))
def Dh (r0:LA→O R) (a:Int) (f:LA) (h:Nat) (b:Bool):Nat→Int→Int→LA→O R
 | 0,_,_,_=>none
 | n+1,s,l,t=>F9 N r0 a f h b (Dh r0 a f h b n) s l t
def Ga (r0:LA→O R) (a:Int) (g:LA) (i:Nat) (b:Bool) (j c d:LA) (k1:Nat→Int→Int→LA→O R) (q2:LA→Nat→Int→Int→LA→O R) (m:Nat) (u o:Int) (r:LA):O R :=
 (cond (decide (o<u)) (cond (Ae o i) (cond (ble 3 ((g.drop ((o.toNat)*3)).length)) (cond ((!b)||(A6 ((g.drop ((o.toNat)*3)).take 3))) (cond ((beq (((g.drop ((o.toNat)*3)).take 3).length) 3)&&((ble 3 3)&&(!false))) (As .i64 (setCells [(.int .i64 0),(.int .i64 0),(.int .i64 0)] 0 ((g.drop ((o.toNat)*3)).take 3)) fun ab=>cond ((ble (m+1) 140737488355328)&&(ble ((m+1)*8) 140737488355328)) (k1 (m+1) u (wrap .i64 (o+1)) ((r.take (m*1))++[(.int .i64 ab)])) none) none) none) none) none) (Aw 22 (c.drop 4) fun bb ac=>Ar N 0 (wrap .i64 ((ac:Int) - 1)) (r.take (m*1)) m false true fun ad=>Ab N ad 6 a 3 12 j fun ae=>Qy N (r.take (m*1)) m false true fun af=>Ab N af 6 a 3 11 ae fun ag=>Aw 3 (d.drop 3) fun f h=>q2 f h (h:Int) 0 ag))
def Di (r0:LA→O R) (a:Int) (g:LA) (i:Nat) (b:Bool) (j c d:LA):Nat→Nat→Int→Int→LA→O R
 | 0,_,_,_,_=>none
 | n+1,m,u,o,r=>Ga N r0 a g i b j c d (Di r0 a g i b j c d n) (fun f h=>Dh N r0 a f h b N) m u o r
def Kn (r0:LA→O R) (a:Int) (b:Bool) (c:LA) (q1:LA→Nat→LA→LA→Nat→Int→Int→LA→O R) (v d:LA):O R :=
 (Aw 3 (d.drop 3) fun bc ah=>Ab N (decide ((ah:Int)≤16)) 6 a 3 8 v fun j=>Aw 3 (d.drop 3) fun g i=>q1 g i j d 0 (i:Int) 0 [])
def Hd (r0:LA→O R) (a:Int) (b:Bool) (c:LA) (v d:LA):O R:=(Kn N r0 a b c (fun g i j d=>Di N r0 a g i b j c d N) v d)
def Jd (r0:LA→O R) (q0:LA→LA→O R) (c:LA) (b:Bool) (a:Int) (q:LA):O R :=
 (Aw 4 (c.drop 7) fun p ai=>cond (Ae a ai) (cond (ble 4 ((p.drop ((a.toNat)*4)).length)) (cond ((beq 0 0)&&((beq (((p.drop ((a.toNat)*4)).take 4).length) 4)&&(beq 4 4))) (cond (ble 8 (c.length)) (Cn N (c.take 8) b 6 a q fun aj=>Aw 1 (((p.drop ((a.toNat)*4)).take 4).drop 1) fun bd ak=>Ar N 1 2 [(.int .i64 (ak:Int))] 1 false true fun al=>Ab N al 6 a 1 4 aj fun am=>Aw 12 (c.drop 3) fun be an=>Aw 1 (((p.drop ((a.toNat)*4)).take 4).drop 1) fun ao ap=>Ar N 0 (wrap .i64 ((an:Int) - 1)) ao ap false b fun aq=>Ab N aq 6 a 1 12 am fun ar=>Aw 1 (((p.drop ((a.toNat)*4)).take 4).drop 1) fun au av=>Qy N au av false b fun aw=>Ab N aw 6 a 1 11 ar fun w=>Ud (((p.drop ((a.toNat)*4)).take 4).drop 2) fun ax=>cond (ax==false) (Aw 3 (((p.drop ((a.toNat)*4)).take 4).drop 3) fun bf ay=>Ab N (cond false true ((ay:Int)==0)) 6 a 3 16 w fun az=>q0 az ((p.drop ((a.toNat)*4)).take 4)) (Ab N true 6 a 3 16 w fun ba=>q0 ba ((p.drop ((a.toNat)*4)).take 4))) none) none) none) none)
def Gv:=(Af fun N c b a q r0=>Jd (R:=R) N r0 (Hd N r0 a b c) c b a q).1
theorem Sz (c b a q r0):(@Gv R N c b a q r0)=(Jd N r0 (Hd N r0 a b c) c b a q):=by rw[Gv,(Af _).2]
def Uk:Hints:={ H:=(hK 6 (hJ [0,2,4,6,7] hL (hK 2 (hS (hK 1 (hS (hP [0,2,4,6,7,8,71,72,73] hL) hL)) (hK 3 (hS (hP [0,2,7,100,101,102] hL) hL)))))),nils:=[(8,1)] }
def Xy:N0:=[E2 N,Dk N,Bk N,eg N]
def Ma (F:KF R):=Hh Tryz.f69 Uk (Xy N) [100000] N F
def Q' (a:Int) (f:LA) (h:Nat) (b:Bool) (K:St→O R):=fun s l t=>K ⟨[(0,(.optr 100000 0)),(2,(iv a)),(7,(iv 6)),(100,(.imm f h 3 false b)),(101,(iv s)),(102,(iv l))],[(100000,(bQ 0 t))]⟩
def RA (a:Int) (g:LA) (i:Nat) (b:Bool) (j c d:LA) (K:St→O R):=fun m u o r=>K ⟨[(0,(.optr 100000 0)),(2,(iv a)),(4,(op 0)),(6,(op 1)),(7,(iv 6)),(8,(.own 300002 0 m)),(71,(.imm g i 3 false b)),(72,(iv u)),(73,(iv o))],[(100000,(bQ 0 j)),(300000,(bP b 0 c)),(300001,(bP b 0 d)),(300002,(bQ 1 r))]⟩
def RB (a:Int) (b:Bool) (c:LA) (K:St→O R):=fun v d=>K ⟨[(0,(.optr 100000 0)),(2,(iv a)),(4,(op 0)),(6,(op 1)),(7,(iv 6))],[(100000,(bQ 0 v)),(300000,(bP b 0 c)),(300001,(bP b 0 d))]⟩
theorem GW (F:KF R) (a f h b):∀ n,Q' a f h b (Ao (Ma N F (pz 357913940) []) n)=(Dh N (Hx F) a f h b n):=D3 fun n e=>(Bn (F9 N (Hx F) a f h b) e:_)
theorem GX (F:KF R) (a g i b j c d):∀ n,RA a g i b j c d (Ao (Ma N F (pz 22369604) []) n)=(Di N (Hx F) a g i b j c d n):=D3 fun n e=>(Yq (Ga N (Hx F) a g i b j c d) e (vP fun f h=>(lW ..).trans (GW ..)):_)
theorem GY (F:KF R) (a b c):RB a b c (A0 (Ma N F (pz 21845) []))=(Hd N (Hx F) a b c):=(Bn (Kn N (Hx F) a b c) (Ah5 fun g i j d=>(lW ..).trans (GX ..)):_)
def SQ:=Bj N 69 (Xy N) Uk (fun
 | [(.optr 100000 0),(.pagg c b),(.int .i64 a)],[(100000,⟨false,false,true,false,0,q,false,none⟩)]=>some fun _ k=>Gv N c b a q (Hx k)
 | _,_=>none) fun _ _=>by split;intro R F;exact(Bn (Jd N (Hx F) · _ _ _ _) ((jW ..).trans (GY ..)):_).trans (Sz ..).symm;trivial
def ET (N:Nat) (r0:Bool→O R) (b:LA) (a:Nat) (d f:Bool) (c:Int) (k0:Int→O R) (g:Int):O R :=
 (cond (decide (g<(a:Int))) (cond (Ae g a) (As .i64 (b.drop ((g.toNat)*1)) fun h=>cond (h==c) (r0 true) (k0 (wrap .i64 (g+1)))) none) (r0 false))
def Q3 (r0:Bool→O R) (b:LA) (a:Nat) (d f:Bool) (c:Int):Nat→Int→O R
 | 0,_=>none
 | n+1,g=>ET N r0 b a d f c (Q3 r0 b a d f c n) g
def ek (N:Nat) (r0:Bool→O R) (q0:Int→O R) (b:LA) (a:Nat) (d f:Bool) (c:Int):O R :=
 (q0 0)
def EU:=(Af fun N b a d f c r0=>ek (R:=R) N r0 (Q3 N r0 b a d f c N) b a d f c).1
theorem mE (b a d f c r0):(@EU R N b a d f c r0)=(ek N r0 (Q3 N r0 b a d f c N) b a d f c):=by rw[EU,(Af _).2]
def rV:Hints:={ H:=(hK 1 (hS (hK 1 (hS (hP [0,1,5] hL) hL)) hL)) }
def Aja (F:KF R):=Hh Tryz.f71 rV [] [] N F
def Ajb (b:LA) (a:Nat) (d f:Bool) (c:Int) (K:St→O R):=fun g=>K ⟨[(0,(.imm b a 1 d f)),(1,(iv c)),(5,(iv g))],[]⟩
theorem vj (F:KF R) (b a d f c):∀ n,Ajb b a d f c (Ao (Aja N F (pz 324) []) n)=(Q3 N (A8 F) b a d f c n):=D3 fun n e=>(Bn (ET N (A8 F) b a d f c) e:_)
def WK:=Bj N 71 [] rV (fun
 | [(.imm b a 1 d f),(.int .i64 c)],[]=>some fun _ k=>EU N b a d f c (A8 k)
 | _,_=>none) fun _ _=>by split;intro R F;exact(Bn (ek N (A8 F) · _ _ _ _ _) ((lW ..).trans (vj ..)):_).trans (mE ..).symm;trivial
def Ml (r0:Nat→LA→O R) (b:Int) (c:Bool) (a:LA) (k0:Nat→Int→LA→O R) (d:Nat) (f:Int) (g:LA):O R :=
 (Aw 12 (a.drop 3) fun p h=>cond (decide (f<(h:Int))) (Aw 12 (a.drop 3) fun i j=>cond (Ae f j) (Aw 1 ((i.drop ((f.toNat)*12)).drop 11) fun l m=>EU N l m false c b fun o=>cond (!o) (cond ((ble (d+1) 140737488355328)&&(ble ((d+1)*8) 140737488355328)) (k0 (d+1) (wrap .i64 (f+1)) ((g.take (d*1))++[(.int .i64 f)])) none) (k0 d (wrap .i64 (f+1)) g)) none) (r0 d g))
def E3 (r0:Nat→LA→O R) (b:Int) (c:Bool) (a:LA):Nat→Nat→Int→LA→O R
 | 0,_,_,_=>none
 | n+1,d,f,g=>Ml N r0 b c a (E3 r0 b c a n) d f g
def S4 (N:Nat) (r0:Nat→LA→O R) (q0:Nat→Int→LA→O R) (a:LA) (c:Bool) (b:Int):O R :=
 (q0 0 0 [])
def Ir:=(Af fun N a c b r0=>S4 (R:=R) N r0 (E3 N r0 b c a N) a c b).1
theorem EV (a c b r0):(@Ir R N a c b r0)=(S4 N r0 (E3 N r0 b c a N) a c b):=by rw[Ir,(Af _).2]
def IS:Hints:={ H:=(hK 2 (hS (hK 1 (hS (hP [1,2,5,6] hL) hL)) hL)),nils:=[(4,1),(5,1)],modes:=[(2,1)] }
def PP:N0:=[WK N]
def j0 (F:KF R):=Hh Tryz.f111 IS (PP N) [] N F
def j1 (b:Int) (c:Bool) (a:LA) (K:St→O R):=fun d f g=>K ⟨[(1,(iv b)),(2,(op 0)),(5,(.own 300001 0 d)),(6,(iv f))],(hq [(bP c 0 a),(bQ 1 g)])⟩
theorem XZ (F:KF R) (b c a):∀ n,j1 b c a (Ao (j0 N F (pz 1348) []) n)=(E3 N (Ca F) b c a n):=D3 fun n e=>(Bn (Ml N (Ca F) b c a) e:_)
def PQ:=Bj N 111 (PP N) IS (fun
 | [(.pagg a c),(.int .i64 b)],[]=>some fun _ k=>Ir N a c b (Ca k)
 | _,_=>none) fun _ _=>by split;intro R F;exact(Bn (S4 N (Ca F) · _ _ _) ((lW ..).trans (XZ ..)):_).trans (EV ..).symm;trivial
def Wu (N:Nat) (r0:Nat→Nat→LA→LA→O R) (b:Nat) (c:Bool) (a d:LA) (k0:Nat→Int→Int→LA→O R) (f:Nat) (i g:Int) (j:LA):O R :=
 (cond (decide (g<i)) (cond (Ae g b) (As .i64 (d.drop (0+((g.toNat)*1))) fun l=>Aw 12 (a.drop 3) fun m o=>cond (Ae l o) (As .i64 ((m.drop ((l.toNat)*12)).drop 1) fun p=>Aw 12 (a.drop 3) fun q r=>cond (Ae l r) (As .i64 ((q.drop ((l.toNat)*12)).drop 2) fun s=>cond ((ble (f+1) 140737488355328)&&(ble ((f+1)*16) 140737488355328)) (k0 (f+1) i (wrap .i64 (g+1)) ((j.take (f*2))++[(.int .i64 p),(.int .i64 s)])) none) none) none) none) (r0 f b j d))
def Ko (r0:Nat→Nat→LA→LA→O R) (b:Nat) (c:Bool) (a d:LA):Nat→Nat→Int→Int→LA→O R
 | 0,_,_,_,_=>none
 | n+1,f,i,g,j=>Wu N r0 b c a d (Ko r0 b c a d n) f i g j
def MN (r0:Nat→Nat→LA→LA→O R) (q0:Nat→LA→Nat→Int→Int→LA→O R) (a:LA) (c:Bool) (h:Int):O R :=
 (cond (ble 8 (a.length)) (Ir N (a.take 8) c h fun b d=>q0 b d 0 (b:Int) 0 []) none)
def IT:=(Af fun N a c h r0=>MN (R:=R) N r0 (fun b d=>Ko N r0 b c a d N) a c h).1
theorem YY (a c h r0):(@IT R N a c h r0)=(MN N r0 (fun b d=>Ko N r0 b c a d N) a c h):=by rw[IT,(Af _).2]
def en:Hints:={ H:=(hK 3 (hS (hK 1 (hS (hP [2,6,7,13,14,15] hL) hL)) hL)),nils:=[(4,2),(5,1),(7,2)],modes:=[(2,2),(2,1)] }
def mF:N0:=[PQ N]
def zy (F:KF R):=Hh Tryz.f70 en (mF N) [] N F
def Z0 (F:KF R):Nat→Nat→LA→LA→O R:=(fun t u v w=>F (.tup [(.own 300000 0 t),(.own 300001 0 u)]) (hq [(bQ 2 v),(bQ 1 w)]))
def Aaa (b:Nat) (c:Bool) (a d:LA) (K:St→O R):=fun f i g j=>K ⟨[(2,(op 0)),(6,(.own 300001 0 b)),(7,(.own 300002 0 f)),(13,(.own 300001 0 b)),(14,(iv i)),(15,(iv g))],(hq [(bP c 0 a),(bQ 1 d),(bQ 2 j)])⟩
theorem oM (F:KF R) (b c a d):∀ n,Aaa b c a d (Ao (zy N F (pz 5444) []) n)=(Ko N (Z0 F) b c a d n):=D3 fun n e=>(Bn (Wu N (Z0 F) b c a d) e:_)
def Aev:=Bj N 70 (mF N) en (fun
 | [(.pagg a c),(.int .i64 h)],[]=>some fun _ k=>IT N a c h (Z0 k)
 | _,_=>none) fun _ _=>by split;intro R F;exact(Bn (MN N (Z0 F) · _ _ _) (vP fun b d=>(lW ..).trans (oM ..)):_).trans (YY ..).symm;trivial
def Qa (N:Nat) (k1:Bool→LA→O R) (r0:Nat→LA→O R) (a:LA) (b:Nat) (d c:Bool) (f:Nat) (k2:Bool→Int→Int→LA→O R) (q:Bool) (o h:Int) (i:LA):O R :=
 (cond (decide (h<o)) (cond (Ae h b) (cond (ble 2 ((a.drop ((h.toNat)*2)).length)) (cond ((!c)||(A6 ((a.drop ((h.toNat)*2)).take 2))) (cond ((beq (((a.drop ((h.toNat)*2)).take 2).length) 2)&&((ble 2 2)&&(!false))) (As .i64 (setCells [(.int .i64 0),(.int .i64 0)] 0 ((a.drop ((h.toNat)*2)).take 2)) fun z=>cond (Ae z f) (As .i64 (i.drop (0+((z.toNat)*1))) fun j=>As .i64 ((setCells [(.int .i64 0),(.int .i64 0)] 0 ((a.drop ((h.toNat)*2)).take 2)).drop 1) fun aa=>cond (Ae aa f) (As .i64 (i.drop (0+((aa.toNat)*1))) fun l=>cond (q==false) (As .i64 (setCells [(.int .i64 0),(.int .i64 0)] 0 ((a.drop ((h.toNat)*2)).take 2)) fun ab=>cond (Ae ab f) (As .i64 (i.drop (0+((ab.toNat)*1))) fun ad=>cond ((cond false true (ad != (Js j l)))==false) (As .i64 ((setCells [(.int .i64 0),(.int .i64 0)] 0 ((a.drop ((h.toNat)*2)).take 2)).drop 1) fun ac=>cond (Ae ac f) (As .i64 (i.drop (0+((ac.toNat)*1))) fun ae=>As .i64 (setCells [(.int .i64 0),(.int .i64 0)] 0 ((a.drop ((h.toNat)*2)).take 2)) fun t=>As .i64 ((setCells [(.int .i64 0),(.int .i64 0)] 0 ((a.drop ((h.toNat)*2)).take 2)).drop 1) fun w=>cond (Ae t f) (cond ((beq 1 1)&&((ble ((0+((t.toNat)*1))+1) (i.length))&&(!false))) (cond (Ae w f) (cond ((beq 1 1)&&((ble ((0+((w.toNat)*1))+1) ((i.set (0+((t.toNat)*1)) (.int .i64 (Js j l))).length))&&(!false))) (k2 (cond false true (ae != (Js j l))) o (wrap .i64 (h+1)) ((i.set (0+((t.toNat)*1)) (.int .i64 (Js j l))).set (0+((w.toNat)*1)) (.int .i64 (Js j l)))) none) none) none) none) none) (As .i64 (setCells [(.int .i64 0),(.int .i64 0)] 0 ((a.drop ((h.toNat)*2)).take 2)) fun u=>As .i64 ((setCells [(.int .i64 0),(.int .i64 0)] 0 ((a.drop ((h.toNat)*2)).take 2)).drop 1) fun x=>cond (Ae u f) (cond ((beq 1 1)&&((ble ((0+((u.toNat)*1))+1) (i.length))&&(!false))) (cond (Ae x f) (cond ((beq 1 1)&&((ble ((0+((x.toNat)*1))+1) ((i.set (0+((u.toNat)*1)) (.int .i64 (Js j l))).length))&&(!false))) (k2 true o (wrap .i64 (h+1)) ((i.set (0+((u.toNat)*1)) (.int .i64 (Js j l))).set (0+((x.toNat)*1)) (.int .i64 (Js j l)))) none) none) none) none)) none) (As .i64 (setCells [(.int .i64 0),(.int .i64 0)] 0 ((a.drop ((h.toNat)*2)).take 2)) fun v=>As .i64 ((setCells [(.int .i64 0),(.int .i64 0)] 0 ((a.drop ((h.toNat)*2)).take 2)).drop 1) fun y=>cond (Ae v f) (cond ((beq 1 1)&&((ble ((0+((v.toNat)*1))+1) (i.length))&&(!false))) (cond (Ae y f) (cond ((beq 1 1)&&((ble ((0+((y.toNat)*1))+1) ((i.set (0+((v.toNat)*1)) (.int .i64 (Js j l))).length))&&(!false))) (k2 true o (wrap .i64 (h+1)) ((i.set (0+((v.toNat)*1)) (.int .i64 (Js j l))).set (0+((y.toNat)*1)) (.int .i64 (Js j l)))) none) none) none) none)) none) none) none) none) none) none) (k1 q i))
def Gw (k1:Bool→LA→O R) (r0:Nat→LA→O R) (a:LA) (b:Nat) (d c:Bool) (f:Nat):Nat→Bool→Int→Int→LA→O R
 | 0,_,_,_,_=>none
 | n+1,q,o,h,i=>Qa N k1 r0 a b d c f (Gw k1 r0 a b d c f n) q o h i
def Qb (N:Nat) (r0:Nat→LA→O R) (a:LA) (b:Nat) (d c:Bool) (f:Nat) (k1:Bool→LA→O R) (q2:Bool→Int→Int→LA→O R) (s:Bool) (r:LA):O R :=
 (cond s (q2 false (b:Int) 0 r) (r0 f r))
def Cy (r0:Nat→LA→O R) (a:LA) (b:Nat) (d c:Bool) (f:Nat):Nat→Bool→LA→O R
 | 0,_,_=>none
 | n+1,s,r=>Qb N r0 a b d c f (Cy r0 a b d c f n) (Gw N (Cy r0 a b d c f n) r0 a b d c f N) s r
def Qc (N:Nat) (r0:Nat→LA→O R) (g:Int) (a:LA) (b:Nat) (d c:Bool) (k0:Nat→Int→LA→O R) (q1:Nat→Bool→LA→O R) (f:Nat) (m:Int) (p:LA):O R :=
 (cond (decide (m<g)) (cond (Ae m f) (cond ((beq 1 1)&&((ble ((0+((m.toNat)*1))+1) (p.length))&&(!false))) (k0 f (wrap .i64 (m+1)) (p.set (0+((m.toNat)*1)) (.int .i64 m))) none) none) (q1 f true p))
def Gy (r0:Nat→LA→O R) (g:Int) (a:LA) (b:Nat) (d c:Bool):Nat→Nat→Int→LA→O R
 | 0,_,_,_=>none
 | n+1,f,m,p=>Qc N r0 g a b d c (Gy r0 g a b d c n) (fun f=>Cy N r0 a b d c f N) f m p
def Z1 (N:Nat) (r0:Nat→LA→O R) (q0:Nat→Int→LA→O R) (g:Int) (a:LA) (b:Nat) (d c:Bool):O R :=
 (cond ((decide (0≤g))&&((decide (g≤g))&&((decide (g≤140737488355328))&&(decide ((g*((8:Nat):Int))≤140737488355328))))) (q0 (g.toNat) 0 (replicate (g.toNat) (.int .i64 0))) none)
def Rl:=(Af fun N g a b d c r0=>Z1 (R:=R) N r0 (Gy N r0 g a b d c N) g a b d c).1
theorem PR (g a b d c r0):(@Rl R N g a b d c r0)=(Z1 N r0 (Gy N r0 g a b d c N) g a b d c):=by rw[Rl,(Af _).2]
def SR:Hints:={ H:=(hK 2 (hS (hK 1 (hS (hP [0,1,5,6] hL) hL)) (hS (hK 1 (hS (hP [1,5,7] (hK 1 (hS (hK 2 (hS (hP [1,5,7,23,24,25] hL) hL)) hL))) hL)) hL))),nils:=[(4,1)],modes:=[(2,1)] }
def CM (F:KF R):=Hh Tryz.f113 SR [] [] N F
def rW (a:LA) (b:Nat) (d c:Bool) (f:Nat) (K:St→O R):=fun q o h i=>K ⟨[(1,(.imm a b 2 d c)),(5,(.own 300000 0 f)),(7,(.bool q)),(23,(.imm a b 2 d c)),(24,(iv o)),(25,(iv h))],(hq [(bQ 1 i)])⟩
def CN (a:LA) (b:Nat) (d c:Bool) (f:Nat) (K:St→O R):=fun s r=>K ⟨[(1,(.imm a b 2 d c)),(5,(.own 300000 0 f)),(7,(.bool s))],(hq [(bQ 1 r)])⟩
def rX (g:Int) (a:LA) (b:Nat) (d c:Bool) (K:St→O R):=fun f m p=>K ⟨[(0,(iv g)),(1,(.imm a b 2 d c)),(5,(.own 300000 0 f)),(6,(iv m))],(hq [(bQ 1 p)])⟩
theorem eo (Q1) (F:KF R) (a b d c f):∀ n,rW a b d c f (Ao (CM N F (pz 22298900) [Q1]) n)=(Gw N (CN a b d c f Q1) (Ca F) a b d c f n):=D3 fun n e=>(Bn (Qa N (CN a b d c f Q1) (Ca F) a b d c f) e:_)
theorem ep (F:KF R) (a b d c f):∀ n,CN a b d c f (Ao (CM N F (pz 5444) []) n)=(Cy N (Ca F) a b d c f n):=D3 fun n e=>(Yq (Qb N (Ca F) a b d c f) e ((lW ..).trans ((eo ..).trans (vO (Gw _ · _ _ _ _ _ _ _) e))):_)
theorem ew (F:KF R) (g a b d c):∀ n,rX g a b d c (Ao (CM N F (pz 1348) []) n)=(Gy N (Ca F) g a b d c n):=D3 fun n e=>(Yq (Qc N (Ca F) g a b d c) e (Ai5 fun f=>(lW ..).trans (ep ..)):_)
def vq:=Bj N 113 [] SR (fun
 | [(.int .i64 g),(.imm a b 2 d c)],[]=>some fun _ k=>Rl N g a b d c (Ca k)
 | _,_=>none) fun _ _=>by split;intro R F;exact(Bn (Z1 N (Ca F) · _ _ _ _ _) ((lW ..).trans (ew ..)):_).trans (PR ..).symm;trivial
def Wv (N:Nat) (r0:Int→O R) (b:LA) (a:Nat) (c d:Bool) (k0:Int→Int→O R) (g f:Int):O R :=
 (cond (decide (f<(a:Int))) (cond (Ae f a) (As .i64 (b.drop ((f.toNat)*1)) fun h=>cond (h==f) (k0 (wrap .i64 (g+1)) (wrap .i64 (f+1))) (k0 g (wrap .i64 (f+1)))) none) (r0 g))
def Kp (r0:Int→O R) (b:LA) (a:Nat) (c d:Bool):Nat→Int→Int→O R
 | 0,_,_=>none
 | n+1,g,f=>Wv N r0 b a c d (Kp r0 b a c d n) g f
def MO (N:Nat) (r0:Int→O R) (q0:Int→Int→O R) (b:LA) (a:Nat) (c d:Bool):O R :=
 (q0 0 0)
def BB:=(Af fun N b a c d r0=>MO (R:=R) N r0 (Kp N r0 b a c d N) b a c d).1
theorem YZ (b a c d r0):(@BB R N b a c d r0)=(MO N r0 (Kp N r0 b a c d N) b a c d):=by rw[BB,(Af _).2]
def ey:Hints:={ H:=(hK 2 (hS (hK 1 (hS (hP [0,3,4] hL) hL)) hL)) }
def Aab (F:KF R):=Hh Tryz.f112 ey [] [] N F
def Aac (b:LA) (a:Nat) (c d:Bool) (K:St→O R):=fun g f=>K ⟨[(0,(.imm b a 1 c d)),(3,(iv g)),(4,(iv f))],[]⟩
theorem oN (F:KF R) (b a c d):∀ n,Aac b a c d (Ao (Aab N F (pz 1348) []) n)=(Kp N (Mw F) b a c d n):=D3 fun n e=>(Bn (Wv N (Mw F) b a c d) e:_)
def Aew:=Bj N 112 [] ey (fun
 | [(.imm b a 1 c d)],[]=>some fun _ k=>BB N b a c d (Mw k)
 | _,_=>none) fun _ _=>by split;intro R F;exact(Bn (MO N (Mw F) · _ _ _ _) ((lW ..).trans (oN ..)):_).trans (YZ ..).symm;trivial
def Mm (r0:Bool→O R) (c:Int) (a:LA) (b:Nat) (i d:Bool) (f:LA) (g:Nat) (j h:Bool) (k0:Nat→Int→LA→O R) (m:Nat) (l:Int) (o:LA):O R :=
 (cond (decide (l<(b:Int))) (EU N f g false h l fun r=>cond (!r) (cond (Ae l b) (cond (ble 2 ((a.drop ((l.toNat)*2)).length)) (cond ((!d)||(A6 ((a.drop ((l.toNat)*2)).take 2))) (cond ((beq (((a.drop ((l.toNat)*2)).take 2).length) 2)&&(ble 2 2)) (cond ((ble (m+1) 140737488355328)&&(ble ((m+1)*16) 140737488355328)) (k0 (m+1) (wrap .i64 (l+1)) ((o.take (m*2))++((setCells [(.int .i64 0),(.int .i64 0)] 0 ((a.drop ((l.toNat)*2)).take 2)).take 2))) none) none) none) none) none) (k0 m (wrap .i64 (l+1)) o)) (Rl N c (o.take (m*2)) m false true fun p s=>BB N (s.take (p*1)) p false true fun t=>Rl N c a b false d fun q u=>BB N (u.take (q*1)) q false true fun v=>r0 (decide (t>v))))
def E4 (r0:Bool→O R) (c:Int) (a:LA) (b:Nat) (i d:Bool) (f:LA) (g:Nat) (j h:Bool):Nat→Nat→Int→LA→O R
 | 0,_,_,_=>none
 | n+1,m,l,o=>Mm N r0 c a b i d f g j h (E4 r0 c a b i d f g j h n) m l o
def S5 (N:Nat) (r0:Bool→O R) (q0:Nat→Int→LA→O R) (c:Int) (a:LA) (b:Nat) (i d:Bool) (f:LA) (g:Nat) (j h:Bool):O R :=
 (q0 0 0 [])
def Pj:=(Af fun N c a b i d f g j h r0=>S5 (R:=R) N r0 (E4 N r0 c a b i d f g j h N) c a b i d f g j h).1
theorem EW (c a b i d f g j h r0):(@Pj R N c a b i d f g j h r0)=(S5 N r0 (E4 N r0 c a b i d f g j h N) c a b i d f g j h):=by rw[Pj,(Af _).2]
def IU:Hints:={ H:=(hK 2 (hS (hK 1 (hS (hP [0,1,2,7,8] hL) hL)) hL)),nils:=[(7,2)] }
def PS:N0:=[WK N,vq N,Aew N]
def j2 (F:KF R):=Hh Tryz.f72 IU (PS N) [] N F
def j3 (c:Int) (a:LA) (b:Nat) (i d:Bool) (f:LA) (g:Nat) (j h:Bool) (K:St→O R):=fun m l o=>K ⟨[(0,(iv c)),(1,(.imm a b 2 i d)),(2,(.imm f g 1 j h)),(7,(.own 300000 0 m)),(8,(iv l))],(hq [(bQ 2 o)])⟩
theorem X_ (F:KF R) (c a b i d f g j h):∀ n,j3 c a b i d f g j h (Ao (j2 N F (pz 1348) []) n)=(E4 N (A8 F) c a b i d f g j h n):=D3 fun n e=>(Bn (Mm N (A8 F) c a b i d f g j h) e:_)
def oO:=Bj N 72 (PS N) IU (fun
 | [(.int .i64 c),(.imm a b 2 i d),(.imm f g 1 j h)],[]=>some fun _ k=>Pj N c a b i d f g j h (A8 k)
 | _,_=>none) fun _ _=>by split;intro R F;exact(Bn (S5 N (A8 F) · _ _ _ _ _ _ _ _ _) ((lW ..).trans (X_ ..)):_).trans (EW ..).symm;trivial
end
end Gx
namespace Gx.Cf
open Go Go.Proofs
section
variable {R:Type}
def Q4 (n N:Nat):Prop:=n<N∧n<4611686018427387904
theorem Ez {j:Nat} (h:j<4611686018427387904):wrap .i64 ((j:Int)+1)=((j+1:Nat):Int):=by rw[wrap_i64 _ (by omega)];omega
theorem rY {l:List Int} {j:Nat} (h:j<l.length) {f:Int→O R}:As .i64 (drop ((Int.toNat (j:Int))*1) (Ap l)) f=f l[j]:=by
 rw[Az1,A0b,Hy h]
theorem Gh {j n:Nat} (h:j<n):decide ((j:Int)<(n:Int))=true:=by simp;omega
theorem H2 {j n:Nat} (h:n≤j):decide ((j:Int)<(n:Int))=false:=by simp;omega
theorem Ju {α:Type} {l:List α} {j:Nat} (h:j<l.length):l.drop j=l[j]::l.drop (j+1):=A0d h
theorem Pk {α:Type} {l:List α} {j:Nat} (h:l.length≤j):l.drop j=[]:=A0k h
theorem IV {N:Nat} {lo hi:Int} {l:List Int} {t o:Bool} {K:Bool→O R} (hs:l.length<4611686018427387904):∀ (m j fuel:Nat),j+m=l.length→m<fuel →
  Gu N K lo hi (Ap l) l.length t o fuel (j:Int)=K ((l.drop j).all (Fe lo hi))
 | 0,j,fuel+1,n,_=>by
  rw[Gu];unfold P8
  rw[H2 (by omega),cf,Pk (by omega)];rfl
 | m+1,j,fuel+1,n,s=>by
  rw[Gu];unfold P8
  have h:j<l.length:=by omega
  rw[Gh h,ct,Aa h,ct,rY h,ct,rY h,Ez (by omega),IV hs m (j+1) fuel (by omega) (by omega),Ju h,A1d]
  unfold Fe
  by_cases e:l[j]<lo
  ·have:¬ lo≤l[j]:=by omega
   simp[e,this]
  ·have:lo≤l[j]:=by omega
   by_cases k:l[j]>hi
   ·have:¬ l[j]≤hi:=by omega
    simp[e,k,this]
   ·have q:l[j]≤hi:=by omega
    simp[e,k,this,q]
theorem Gi {N:Nat} {lo hi:Int} {l:List Int} {n:Nat} {t o:Bool} {K:Bool→O R} (hn:n=l.length) (hs:Q4 l.length N):Ar N lo hi (Ap l) n t o K=K (l.all (Fe lo hi)):=by
 subst hn
 rw[PO];unfold Zy
 have:=IV (R:=R) (N:=N) (lo:=lo) (hi:=hi) (t:=t) (o:=o) (K:=K) hs.2 l.length 0 N (by omega) hs.1
 simpa using this
theorem Dp {N:Nat} {lo hi a:Int} {t o:Bool} {K:Bool→O R} (hN:8≤N):Ar N lo hi [.int .i64 a] 1 t o K=K (Fe lo hi a):=by
 have:=Gi (R:=R) (N:=N) (lo:=lo) (hi:=hi) (l:=[a]) (t:=t) (o:=o) (K:=K) rfl ⟨by simp;omega,by simp⟩
 simpa[Ap] using this
theorem oP {N:Nat} {lo hi a b:Int} {t o:Bool} {K:Bool→O R} (hN:8≤N):Ar N lo hi [.int .i64 a,.int .i64 b] 2 t o K=K (Fe lo hi a&&Fe lo hi b):=by
 have:=Gi (R:=R) (N:=N) (lo:=lo) (hi:=hi) (l:=[a,b]) (t:=t) (o:=o) (K:=K) rfl ⟨by simp;omega,by simp⟩
 simpa[Ap] using this
def asc:List Int→Bool
 | a::b::r=>decide (a<b)&&asc (b::r)
 | _=>true
theorem IW (a b:Int) (r:List Int):asc (a::b::r)=(decide (a<b)&&asc (b::r)):=by rw[asc]
theorem WL (a:Int):asc [a]=true:=by rw[asc];intros;simp_all
theorem pn:asc []=true:=by rw[asc];intros;simp_all
theorem rZ {j:Nat} (h:j+1<4611686018427387904):wrap .i64 (((j+1:Nat):Int) - 1)=(j:Int):=by rw[wrap_i64 _ (by omega)];omega
theorem PT {N:Nat} {l:List Int} {t o:Bool} {K:Bool→O R} (hs:l.length<4611686018427387904):∀ (m j fuel:Nat),j+1+m=l.length→m<fuel →
  Ge N K (Ap l) l.length t o fuel ((j+1:Nat):Int)=K (asc (l.drop j))
 | 0,j,fuel+1,k,_=>by
  rw[Ge];unfold M5
  rw[H2 (by omega),cf,Ju (by omega),Pk (by omega),WL]
 | m+1,j,fuel+1,k,n=>by
  rw[Ge];unfold M5
  have h:j+1<l.length:=by omega
  have h':j<l.length:=by omega
  rw[Gh h,ct,Aa h,ct,rY h,rZ (by omega),Aa h',ct,rY h',Ez (by omega),PT hs m (j+1) fuel (by omega) (by omega),Ju h',Ju h,IW]
  by_cases e:l[j+1]≤l[j]
  ·have:¬ l[j]<l[j+1]:=by omega
   simp[e,this]
  ·have:l[j]<l[j+1]:=by omega
   simp[e,this]
theorem Ys {N:Nat} {l:List Int} {n:Nat} {t o:Bool} {K:Bool→O R} (hn:n=l.length) (hs:Q4 l.length N):Qy N (Ap l) n t o K=K (asc l):=by
 subst hn
 rw[SP];unfold ES
 rcases l with _ | ⟨a,r⟩
 ·have hN:=hs.1
  rcases N with _ | N
  ·simp at hN
  ·rw[Ge];unfold M5;simp[pn]
 ·have:=PT (R:=R) (N:=N) (t:=t) (o:=o) (K:=K) hs.2 r.length 0 N (by simp;omega) (by have:=hs.1;simp at this;omega)
  simpa using this
theorem ez {N:Nat} {v:Int} {l:List Int} {t o:Bool} {K:Bool→O R} (hs:l.length<4611686018427387904):∀ (m j fuel:Nat),j+m=l.length→m<fuel →
  Q3 N K (Ap l) l.length t o v fuel (j:Int)=K ((l.drop j).contains v)
 | 0,j,fuel+1,e,_=>by
  rw[Q3];unfold ET
  rw[H2 (by omega),cf,Pk (by omega)];rfl
 | m+1,j,fuel+1,e,k=>by
  rw[Q3];unfold ET
  have h:j<l.length:=by omega
  rw[Gh h,ct,Aa h,ct,rY h,Ez (by omega),ez hs m (j+1) fuel (by omega) (by omega),Ju h,List.contains_cons,BEq.comm]
  cases n:v==l[j]<;>simp
theorem Z2 {N:Nat} {v:Int} {l:List Int} {n:Nat} {t o:Bool} {K:Bool→O R} (hn:n=l.length) (hs:Q4 l.length N):EU N (Ap l) n t o v K=K (l.contains v):=by
 subst hn
 rw[mE];unfold ek
 have:=ez (R:=R) (N:=N) (v:=v) (t:=t) (o:=o) (K:=K) hs.2 l.length 0 N (by omega) hs.1
 simpa using this
def Hg:Hz→Int
 | none=>0
 | some x=>x.2.1
theorem Jj {c:CaseD} {f:Int→O R}:As .i64 c.av f=f c.hours:=by simp[CaseD.av,Br]
theorem Ajc {c:CaseD} {f:LA→Nat→O R}:Aw 1 (drop 1 c.av) f=f (Ap c.reserve.l) c.reserve.l.length:=by simp[CaseD.av,A2,Ft]
theorem S6 {c:CaseD} {f:LA→Nat→O R}:Aw 3 (drop 2 c.av) f=f (c.buses.l.flatMap BusD.av) c.buses.l.length:=by simp[CaseD.av,A2]
theorem Pl {c:CaseD} {f:LA→Nat→O R}:Aw 12 (drop 3 c.av) f=f (c.lines.l.flatMap LineD.av) c.lines.l.length:=by simp[CaseD.av,A2]
theorem Ef {c:CaseD} {f:LA→Nat→O R}:Aw 22 (drop 4 c.av) f=f (c.units.l.flatMap UnitD.av) c.units.l.length:=by simp[CaseD.av,A2]
theorem BC {c:CaseD} {f:LA→Nat→O R}:Aw 9 (drop 5 c.av) f=f (c.stores.l.flatMap StoreD.av) c.stores.l.length:=by simp[CaseD.av,A2]
theorem WM {c:CaseD} {f:LA→Nat→O R}:Aw 5 (drop 6 c.av) f=f (c.ties.l.flatMap TieD.av) c.ties.l.length:=by simp[CaseD.av,A2]
theorem Ob {c:CaseD} {f:LA→Nat→O R}:Aw 4 (drop 7 c.av) f=f (c.outs.l.flatMap OutD.av) c.outs.l.length:=by simp[CaseD.av,A2]
def Ct (p:Hz):LA:=Arz p 0 0
theorem Ai {N:Nat} {p:Hz} {k i f e:Int} {ok:Bool} {K:LA→O R} (n:e≠0) :
  Ab N ok k i f e (Ct p) K=K (Ct (nd p ok (k,i,f) ⟨e,n⟩)):=by
 rw[Xs];unfold Mf Ja
 rcases p with _ | ⟨⟨a,b,s⟩,q,j⟩
 ·cases ok<;>simp[Ct,Arz,Br,nd,Ep,D9]
 ·have:(q==0)=false:=by simpa using j
  simp[Ct,Arz,Br,nd,this]
def mG (h:Int) (l:List Int) (lo hi:Int) (w:Int×Int×Int) (p:Hz):Hz:=nd (nd p ((l.length:Int)==h) w ⟨4,by decide⟩) (l.all (Fe lo hi)) w ⟨3,by decide⟩
def fA (h:Int) (l:List Int) (w:Int×Int×Int) (p:Hz):Hz:=nd (nd p (l.all (Fe 0 (wrap .i64 (h - 1)))) w ⟨3,by decide⟩) (asc l) w ⟨11,by decide⟩
theorem Dy {N:Nat} {c:CaseD} {p:Hz} {k i f lo hi:Int} {l:List Int} {n:Nat} {t o o1:Bool} {K:LA→O R} (hn:n=l.length) (hs:Q4 l.length N) :
  Cx N c.av o1 (Ap l) n t o lo hi k i f (Ct p) K=K (Ct (mG c.hours l lo hi (k,i,f) p)):=by
 rw[So];unfold O6
 rw[Jj,Ai (by decide),Gi hn hs,Ai (by decide),hn];rfl
theorem Ul {N:Nat} {c:CaseD} {p:Hz} {k i f:Int} {l:List Int} {n:Nat} {t o o1:Bool} {K:LA→O R} (hn:n=l.length) (hs:Q4 l.length N) :
  Jf N c.av o1 (Ap l) n t o k i f (Ct p) K=K (Ct (fA c.hours l (k,i,f) p)):=by
 rw[Xv];unfold Ss
 rw[Jj,Gi hn hs,Ai (by decide),Ys hn hs,Ai (by decide)];rfl
def Y_ (c:CaseD) (b:Int):Bool:=decide (0≤b)&&decide (b<(c.buses.l.length:Int))
theorem Ajd (n:Nat) (b:Int) (h:n<4611686018427387904):Fe 0 (wrap .i64 ((n:Int) - 1)) b=(decide (0≤b)&&decide (b<(n:Int))):=by
 rw[wrap_i64 _ (by omega),Fe]
 congr 1
 simp;omega
theorem H3 {N:Nat} {c:CaseD} {p:Hz} {k i f b:Int} {o1:Bool} {K:LA→O R} (hN:8≤N) (e:c.buses.l.length<4611686018427387904) :
  Es N c.av o1 b k i f (Ct p) K=K (Ct (nd p (Y_ c b) (k,i,f) ⟨12,by decide⟩)):=by
 rw[Zd];unfold Vd
 rw[S6,Dp hN,Ajd _ _ e,Ai (by decide)];rfl
def Pb (f:FracD):Bool:=Fe 1 1048576 f.den&&Fe (-1048576) 1048576 f.num
theorem EX {N:Nat} {f:FracD} {o:Bool} {K:Bool→O R} (hN:8≤N):Km N [.int .i64 f.num,.int .i64 f.den] o K=K (Pb f):=by
 rw[IN];unfold GV
 simp only[A1b,A00,Br,Dp hN]
 unfold Pb
 cases Fe 1 1048576 f.den<;>simp
def Aad (c:UInt8):Bool:=decide (97≤c.toNat)&&decide (c.toNat≤122)
def Awk (c:UInt8):Bool:=Aad c||(decide (48≤c.toNat)&&decide (c.toNat≤57))||decide (c.toNat=95)
def CO (s:Lu):Bool:=decide (1≤s.length)&&(decide (s.length≤16)&&(!(s==[99,111,114,114,101,99,116,105,118,101])&&(Aad (s.getD 0 0)&&s.all Awk)))
theorem Ame {s:Lu} {j:Nat} (h:j<s.length):List.getD s (Int.toNat (j:Int)) 0=s[j]:=by
 rw[Az1,A0e,Az6 h];rfl
theorem ZA {N:Nat} {s:Lu} {K:Bool→O R} (hs:s.length<4611686018427387904):∀ (m j fuel:Nat),j+m=s.length→m<fuel →
  M0 N K s fuel (j:Int)=K ((decide (j≠0)||(decide (s.length=0)||Aad (s.getD 0 0)))&&(s.drop j).all Awk)
 | 0,j,fuel+1,u,_=>by
  rw[M0];unfold Zz
  rw[H2 (by omega),cf,Pk (by omega)]
  by_cases h:j=0
  ·have:s.length=0:=by omega
   simp[this]
  ·simp[h]
 | m+1,j,fuel+1,u,D=>by
  rw[M0];unfold Zz EQ
  have h:j<s.length:=by omega
  rw[Gh h,ct,Aa h,ct,Ez (by omega),ZA hs m (j+1) fuel (by omega) (by omega),Ju h,A1d,Ame h]
  have z:j=0→s.getD 0 0=s[j]:=fun e=>by
   have:=Ame h;rw[←this,e];rfl
  unfold Awk Aad
  by_cases k:j=0
  ·rw[z k]
   have n:decide (s.length=0)=false:=decide_eq_false (by omega)
   have e:((j:Int)==0)=true:=by simp;omega
   simp only[ct,k,ne_eq,not_true_eq_false,decide_false,A3h,n,A0g,show decide (¬ (1=0))=true by decide,A3d,A1n]
   simp only[k] at *
   generalize s[0].toNat=v
   by_cases q:97≤v<;>by_cases t:v≤122<;>simp[q,t,show((97:Int)≤v)↔97≤v by omega,show((v:Int)≤122)↔v≤122 by omega]
  ·have e:((j:Int)==0)=false:=by simp;omega
   simp only[ct,e,k,ne_eq,not_false_eq_true,decide_true,A3d,A1n,show decide (¬ (j+1=0))=true by simp]
   generalize s[j].toNat=v
   generalize (s.drop (j+1)).all _=r
   by_cases q:97≤v<;>by_cases t:v≤122<;>by_cases A:48≤v<;>by_cases B:v≤57<;>by_cases C:v=95 <;>
    simp[q,t,A,B,show((97:Int)≤v)↔97≤v by omega,show((v:Int)≤122)↔v≤122 by omega,show((v:Int)<48)↔¬ 48≤v by omega,show((57:Int)<v)↔¬ v≤57 by omega,show((v:Int) != 95)=!decide (v=95) by (by_cases v=95<;>simp_all<;>omega),C]
theorem vr {N:Nat} {s:Lu} {K:Bool→O R} (hN:64≤N):SM N s K=K (CO s):=by
 rw[ee];unfold WJ ER MF
 unfold CO
 by_cases e:1≤s.length
 ·by_cases j:s.length≤16
  ·have k:=ZA (R:=R) (N:=N) (s:=s) (K:=K) (by omega) s.length 0 N (by omega) (by omega)
   simp only[A00,A2u] at k
   rw[k]
   simp only[e,j,show(decide ((s.length:Int)<1))=false by simp;omega,show(decide ((s.length:Int)>16))=false by simp;omega,decide_true,cond_true,cond_false,beq_self_eq_true]
   have:s.length≠0:=by omega
   cases s==[99,111,114,114,101,99,116,105,118,101]<;>simp[this]
  ·simp[e,j,show((s.length:Int)<1)↔¬ 1≤s.length by omega,show((16:Int)<s.length)↔¬ s.length≤16 by omega]
 ·simp[e,show((s.length:Int)<1)↔¬ 1≤s.length by omega]
def CP (names:List Lu) (k i:Int) (s:Lu) (p:Hz):Hz:=nd (nd p (CO s) (k,i,0) ⟨9,by decide⟩) (names.all fun x=>!(x==s)) (k,i,0) ⟨10,by decide⟩
theorem IX (a:BusD):a.av.length=3:=rfl
theorem Gj (a:LineD):a.av.length=12:=rfl
theorem Oc (a:UnitD):a.av.length=22:=rfl
theorem M9 (a:StoreD):a.av.length=9:=rfl
theorem Xz (a:TieD):a.av.length=5:=rfl
theorem Li (a:OutD):a.av.length=4:=rfl
structure Small (c:CaseD) (N:Nat):Prop where
 n64:64≤N
 res:Q4 c.reserve.l.length N
 bus:Q4 c.buses.l.length N
 lin:Q4 c.lines.l.length N
 uni:Q4 c.units.l.length N
 sto:Q4 c.stores.l.length N
 tie:Q4 c.ties.l.length N
 out:Q4 c.outs.l.length N
 dem:∀ b ∈ c.buses.l,Q4 b.demand.l.length N
 law:∀ b ∈ c.lines.l,Q4 b.away.l.length N
 seg:∀ b ∈ c.units.l,Q4 b.segs.l.length N
 uaw:∀ b ∈ c.units.l,Q4 b.away.l.length N
 tim:∀ b ∈ c.ties.l,Q4 b.imp.l.length N
 tex:∀ b ∈ c.ties.l,Q4 b.exp.l.length N
 tpr:∀ b ∈ c.ties.l,Q4 b.price.l.length N
 oli:∀ b ∈ c.outs.l,Q4 b.lines.l.length N
 omo:∀ b ∈ c.outs.l,Q4 b.moves.l.length N
 omb:∀ b ∈ c.outs.l,b.moves.l.length<8796093022208
 top:c.buses.l.length≤1000000∧c.lines.l.length≤1000000∧c.units.l.length≤1000000∧c.stores.l.length≤1000000∧c.ties.l.length≤1000000∧c.outs.l.length≤1000000
def Dr {α:Type} (f:Nat→α→Hz→Hz):List α→Nat→Hz→Hz
 | [],_,p=>p
 | a::r,j,p=>Dr f r (j+1) (f j a p)
theorem Na {α:Type} {f:Nat→α→Hz→Hz} {x:(Int×Int×Int)×{ e:Int // e≠0 }} (k:∀ j a,f j a (some x)=some x):∀ (l:List α) (j:Nat),Dr f l j (some x)=some x
 | [],_=>rfl
 | a::r,j=>by rw[Dr,k];exact Na k r (j+1)
abbrev e1:{ e:Int // e≠0 }:=⟨1,by decide⟩
abbrev e3:{ e:Int // e≠0 }:=⟨3,by decide⟩
abbrev e4:{ e:Int // e≠0 }:=⟨4,by decide⟩
abbrev e8:{ e:Int // e≠0 }:=⟨8,by decide⟩
abbrev Awl:{ e:Int // e≠0 }:=⟨11,by decide⟩
abbrev Aoc:{ e:Int // e≠0 }:=⟨12,by decide⟩
abbrev Azq:{ e:Int // e≠0 }:=⟨13,by decide⟩
abbrev Axg:{ e:Int // e≠0 }:=⟨16,by decide⟩
def r7 (c:CaseD) (p:Hz):Hz :=
 let p:=nd p (Fe 1 24 c.hours) (0,0,0) e3
 let p:=mG c.hours c.reserve.l 0 1048576 (0,0,1) p
 let p:=nd p (Fe 1 32 (c.buses.l.length:Int)) (0,0,2) e8
 let p:=nd p (decide ((c.lines.l.length:Int)≤64)) (0,0,3) e8
 let p:=nd p (decide ((c.units.l.length:Int)≤16)) (0,0,4) e8
 let p:=nd p (decide ((c.stores.l.length:Int)≤8)) (0,0,5) e8
 let p:=nd p (decide ((c.ties.l.length:Int)≤8)) (0,0,6) e8
 nd p (decide ((c.outs.l.length:Int)≤64)) (0,0,7) e8
def Aod (c:CaseD) (j:Nat) (b:BusD) (p:Hz):Hz :=
 let p:=CP ((c.buses.l.map (·.name)).take j) 1 j b.name p
 let p:=mG c.hours b.demand.l 0 1048576 (1,j,1) p
 nd p (Fe 0 1048576 b.shed) (1,j,2) e3
def mH (c:CaseD) (j:Nat) (x:LineD) (p:Hz):Hz :=
 let p:=CP ((c.lines.l.map (·.name)).take j) 2 j x.name p
 let p:=nd p (Y_ c x.fr) (2,j,1) Aoc
 let p:=nd p (Y_ c x.tl) (2,j,2) Aoc
 let p:=nd p (x.tl != x.fr) (2,j,2) e1
 let p:=nd p (Pb x.re&&decide (x.re.num>0)) (2,j,3) e3
 let p:=nd p (Pb x.smin&&decide (x.smin.num≤0)) (2,j,4) e3
 let p:=nd p (Pb x.smax&&decide (x.smax.num≥0)) (2,j,5) e3
 let p:=nd p (Fe 0 1048576 x.limit) (2,j,6) e3
 let p:=nd p (Fe x.limit 1048576 x.emer) (2,j,7) e3
 fA c.hours x.away.l (2,j,8) p
def b7 (c:CaseD) (j:Nat) (x:StoreD) (p:Hz):Hz :=
 let p:=CP ((c.stores.l.map (·.name)).take j) 4 j x.name p
 let p:=nd p (Y_ c x.bus) (4,j,1) Aoc
 let p:=nd p (Fe 0 1048576 x.capacity) (4,j,2) e3
 let p:=nd p (Fe 0 x.capacity x.initial) (4,j,3) e3
 let p:=nd p (Fe 0 x.capacity x.final) (4,j,4) e3
 let p:=nd p (Fe 0 1048576 x.charge) (4,j,5) e3
 let p:=nd p (Fe 0 1048576 x.discharge) (4,j,6) e3
 nd p (Pb x.eff&&(decide (x.eff.num>0)&&decide (x.eff.num≤x.eff.den))) (4,j,7) e3
def Aoe (c:CaseD) (j:Nat) (x:TieD) (p:Hz):Hz :=
 let p:=CP ((c.ties.l.map (·.name)).take j) 5 j x.name p
 let p:=nd p (Y_ c x.bus) (5,j,1) Aoc
 let p:=mG c.hours x.imp.l 0 1048576 (5,j,2) p
 let p:=mG c.hours x.exp.l 0 1048576 (5,j,3) p
 mG c.hours x.price.l (-1048576) 1048576 (5,j,4) p
theorem CQ (a:SegD):a.av.length=2:=rfl
theorem Od (a:MoveD):a.av.length=3:=rfl
def r8 (s:SegD):Bool:=Fe 1 1048576 s.width&&Fe (-1048576) 1048576 s.price
def b8 (a:Int):List SegD→Int
 | []=>a
 | s::r=>b8 (wrap .i64 (a+s.width)) r
def b9:List SegD→Bool
 | a::b::r=>decide (b.price≥a.price)&&b9 (b::r)
 | _=>true
theorem MP (a b:SegD) (r:List SegD):b9 (a::b::r)=(decide (b.price≥a.price)&&b9 (b::r)):=by rw[b9]
theorem r9 (a:SegD):b9 [a]=true:=by rw[b9];intros;simp_all
theorem Aex:b9 []=true:=by rw[b9];intros;simp_all
def Aof (u:UnitD) (j:Nat) (p:Hz):Hz :=
 let p:=nd p (decide ((u.segs.l.length:Int)≤8)) (3,j,4) e8
 let p:=nd p (u.segs.l.all r8) (3,j,4) e3
 let p:=nd p (b9 u.segs.l) (3,j,4) Awl
 nd p (b8 0 u.segs.l==wrap .i64 (u.max - u.min)) (3,j,4) e4
theorem j4 {u:UnitD} {f:LA→Nat→O R}:Aw 2 (drop 4 u.av) f=f (u.segs.l.flatMap SegD.av) u.segs.l.length:=by simp[UnitD.av,A2]
theorem Avt {u:UnitD} {f:Int→O R}:As .i64 (drop 3 u.av) f=f u.max:=by simp[UnitD.av,Br]
theorem Avu {u:UnitD} {f:Int→O R}:As .i64 (drop 2 u.av) f=f u.min:=by simp[UnitD.av,Br]
theorem xr {l:List SegD} {j:Nat} (h:j<l.length) {f:Int→O R}:As .i64 (drop 1 (drop ((Int.toNat (j:Int))*2) (l.flatMap SegD.av))) f=f l[j].price:=by
 rw[Az1,Be CQ _ _ h];simp[SegD.av,Br]
theorem Aog {l:List SegD} {j:Nat} (h:j<l.length) {f:Int→O R}:As .i64 (drop ((Int.toNat (j:Int))*2) (l.flatMap SegD.av)) f=f l[j].width:=by
 rw[Az1,Be CQ _ _ h];simp[SegD.av,Br]
def r_ (c:CaseD) (j:Nat) (u:UnitD) (p:Hz):Hz :=
 let p:=CP ((c.units.l.map (·.name)).take j) 3 j u.name p
 let p:=nd p (Y_ c u.bus) (3,j,1) Aoc
 let p:=nd p (Fe 0 1048576 u.min) (3,j,2) e3
 let p:=nd p (Fe u.min 1048576 u.max) (3,j,3) e3
 let p:=Aof u j p
 let p:=nd p (Fe 0 1048576 u.noLoad) (3,j,5) e3
 let p:=nd p (Fe 0 1048576 u.rampUp) (3,j,6) e3
 let p:=nd p (Fe 0 1048576 u.rampDown) (3,j,7) e3
 let p:=nd p (Fe u.min u.max u.startRamp) (3,j,8) e3
 let p:=nd p (Fe u.min u.max u.stopRamp) (3,j,9) e3
 let p:=nd p (Fe 0 24 u.upTime) (3,j,10) e3
 let p:=nd p (Fe 0 24 u.downTime) (3,j,11) e3
 let p:=nd p (Fe 0 24 u.startTime) (3,j,12) e3
 let p:=nd p (Fe 0 1048576 u.hotCost) (3,j,13) e3
 let p:=nd p (Fe 0 1048576 u.coldCost) (3,j,14) e3
 let p:=nd p (Fe 0 24 u.hotHours) (3,j,15) e3
 let p:=nd p (Fe 0 1048576 u.reserve) (3,j,16) e3
 let p:=nd p (Fe 0 1048576 u.reservePrice) (3,j,17) e3
 let p:=fA c.hours u.away.l (3,j,18) p
 let p:=nd p (Fe 0 2 u.state) (3,j,19) Aoc
 let p:=nd p (u.state != 1||u.startTime != 0) (3,j,19) Axg
 let p:=nd p (Fe 1 48 u.hours) (3,j,20) e3
 let p:=nd p (u.state != 1||decide (u.hours≤u.startTime)) (3,j,20) e3
 cond (u.state==2) (nd p (Fe u.min u.max u.output) (3,j,21) e3) (nd p (Fe 0 0 u.output) (3,j,21) e3)
def Ar1 (c:CaseD) (m:MoveD):Bool:=decide (0≤m.unit)&&decide (m.unit<(c.units.l.length:Int))
def Aje (m:MoveD):Bool:=Fe 0 1048576 m.up&&Fe 0 1048576 m.down
def Aae (c:CaseD) (o:OutD) (j:Nat) (p:Hz):Hz :=
 let p:=nd p ((o.moves.l.length:Int)==0||o.corr) (6,j,3) Axg
 let p:=nd p (decide ((o.moves.l.length:Int)≤16)) (6,j,3) e8
 let p:=nd p (o.moves.l.all (Ar1 c)) (6,j,3) Aoc
 let p:=nd p (asc (o.moves.l.map (·.unit))) (6,j,3) Awl
 nd p (o.moves.l.all Aje) (6,j,3) e3
theorem Amf {u:OutD} {f:LA→Nat→O R}:Aw 3 (drop 3 u.av) f=f (u.moves.l.flatMap MoveD.av) u.moves.l.length:=by simp[OutD.av,A2]
theorem Awm {u:OutD} {f:Bool→O R}:Ud (drop 2 u.av) f=f u.corr:=by simp[OutD.av,Ary]
def Aey (c:CaseD) (j:Nat) (x:OutD) (p:Hz):Hz :=
 let p:=CP ((c.outs.l.map (·.name)).take j) 6 j x.name p
 let p:=nd p ((x.lines.l.length:Int)==1||(x.lines.l.length:Int)==2) (6,j,1) e4
 let p:=nd p (x.lines.l.all fun n=>decide (0≤n)&&decide (n<(c.lines.l.length:Int))) (6,j,1) Aoc
 let p:=nd p (asc x.lines.l) (6,j,1) Awl
 Aae c x j p
theorem j5 {c:CaseD} {j:Nat} {x:OutD} {y:(Int×Int×Int)×{ e:Int // e≠0 }}:Aey c j x (some y)=some y:=rfl
theorem Auh {u:OutD} {f:LA→Nat→O R}:Aw 1 (drop 1 u.av) f=f (Ap u.lines.l) u.lines.l.length:=by simp[OutD.av,A2,Ft]
def Bq (l:List Lu):LA:=l.map fun s=>.str s
theorem Jv (l:List Lu):(Bq l).length=l.length:=by simp[Bq]
theorem ra {l:List Lu} {i:Nat} (h:i<l.length) {f:Lu→O R}:bU (drop i (Bq l)) f=f l[i]:=by
 rw[Bq,A0d (by simpa using h)];simp[CD]
theorem De {c:CaseD}:take 8 c.av=c.av:=rfl
theorem Hi {c:CaseD}:ble 8 (List.length c.av)=true:=rfl
theorem IY {N:Nat} {c:CaseD} {o:Bool} {K:Nat→LA→O R} (k:c.buses.l.length≤1000000):∀ (m j fuel:Nat),j+m=c.buses.l.length→m<fuel →
  Ke N K o c.av fuel j (j:Int) (Bq ((c.buses.l.take j).map (·.name)))=K c.buses.l.length (Bq (c.buses.l.map (·.name)))
 | 0,j,fuel+1,n,_=>by
  rw[Ke];unfold Wo
  have e:j=c.buses.l.length:=by omega
  rw[S6,H2 (by omega),cf,Az0 (by omega),e]
 | m+1,j,fuel+1,n,u=>by
  rw[Ke];unfold Wo
  have h:j<c.buses.l.length:=by omega
  have q:(ble (j+1) 140737488355328&&ble ((j+1)*16) 140737488355328)=true:=by rw[Ep,Ep];simp;omega
  have s:take (j*1) (Bq ((c.buses.l.take j).map (·.name)))++[.str c.buses.l[j].name]=Bq ((c.buses.l.take (j+1)).map (·.name)):=by
   rw[Az0 (by simp[Jv];omega),A02 h,A15];simp[Bq]
  have t:∀ f:Lu→O R,bU (drop (j*3) (List.flatMap BusD.av c.buses.l)) f=f c.buses.l[j].name:=fun f=>by rw[Be IX _ _ h];simp[BusD.av,CD]
  rw[S6,Gh h,ct,S6,Aa h,ct,Az1,t,q,ct,s,Ez (by omega),IY k m (j+1) fuel (by omega) (by omega)]
theorem Aez {N:Nat} {c:CaseD} {o:Bool} {K:Nat→LA→O R} (hs:Small c N):Ho N c.av o 1 K=K (c.buses.l.map (·.name)).length (Bq (c.buses.l.map (·.name))):=by
 rw[Iq];unfold Kk
 have:=IY (R:=R) (N:=N) (c:=c) (o:=o) (K:=K) hs.top.1 c.buses.l.length 0 N (by omega) hs.bus.1
 simpa[Bq] using this
theorem IZ {N:Nat} {c:CaseD} {o:Bool} {K:Nat→LA→O R} (k:c.lines.l.length≤1000000):∀ (m j fuel:Nat),j+m=c.lines.l.length→m<fuel →
  Kf N K o c.av fuel j (j:Int) (Bq ((c.lines.l.take j).map (·.name)))=K c.lines.l.length (Bq (c.lines.l.map (·.name)))
 | 0,j,fuel+1,n,_=>by
  rw[Kf];unfold Wp
  have e:j=c.lines.l.length:=by omega
  rw[Pl,H2 (by omega),cf,Az0 (by omega),e]
 | m+1,j,fuel+1,n,u=>by
  rw[Kf];unfold Wp
  have h:j<c.lines.l.length:=by omega
  have q:(ble (j+1) 140737488355328&&ble ((j+1)*16) 140737488355328)=true:=by rw[Ep,Ep];simp;omega
  have s:take (j*1) (Bq ((c.lines.l.take j).map (·.name)))++[.str c.lines.l[j].name]=Bq ((c.lines.l.take (j+1)).map (·.name)):=by
   rw[Az0 (by simp[Jv];omega),A02 h,A15];simp[Bq]
  have t:∀ f:Lu→O R,bU (drop (j*12) (List.flatMap LineD.av c.lines.l)) f=f c.lines.l[j].name:=fun f=>by rw[Be Gj _ _ h];simp[LineD.av,CD]
  rw[Pl,Gh h,ct,Pl,Aa h,ct,Az1,t,q,ct,s,Ez (by omega),IZ k m (j+1) fuel (by omega) (by omega)]
theorem mI {N:Nat} {c:CaseD} {o:Bool} {K:Nat→LA→O R} (hs:Small c N):Ho N c.av o 2 K=K (c.lines.l.map (·.name)).length (Bq (c.lines.l.map (·.name))):=by
 rw[Iq];unfold Kk
 have:=IZ (R:=R) (N:=N) (c:=c) (o:=o) (K:=K) hs.top.2.1 c.lines.l.length 0 N (by omega) hs.lin.1
 simpa[Bq] using this
theorem I_ {N:Nat} {c:CaseD} {o:Bool} {K:Nat→LA→O R} (k:c.units.l.length≤1000000):∀ (m j fuel:Nat),j+m=c.units.l.length→m<fuel →
  Kg N K o c.av fuel j (j:Int) (Bq ((c.units.l.take j).map (·.name)))=K c.units.l.length (Bq (c.units.l.map (·.name)))
 | 0,j,fuel+1,n,_=>by
  rw[Kg];unfold Wq
  have e:j=c.units.l.length:=by omega
  rw[Ef,H2 (by omega),cf,Az0 (by omega),e]
 | m+1,j,fuel+1,n,u=>by
  rw[Kg];unfold Wq
  have h:j<c.units.l.length:=by omega
  have q:(ble (j+1) 140737488355328&&ble ((j+1)*16) 140737488355328)=true:=by rw[Ep,Ep];simp;omega
  have s:take (j*1) (Bq ((c.units.l.take j).map (·.name)))++[.str c.units.l[j].name]=Bq ((c.units.l.take (j+1)).map (·.name)):=by
   rw[Az0 (by simp[Jv];omega),A02 h,A15];simp[Bq]
  have t:∀ f:Lu→O R,bU (drop (j*22) (List.flatMap UnitD.av c.units.l)) f=f c.units.l[j].name:=fun f=>by rw[Be Oc _ _ h];simp[UnitD.av,CD]
  rw[Ef,Gh h,ct,Ef,Aa h,ct,Az1,t,q,ct,s,Ez (by omega),I_ k m (j+1) fuel (by omega) (by omega)]
theorem mJ {N:Nat} {c:CaseD} {o:Bool} {K:Nat→LA→O R} (hs:Small c N):Ho N c.av o 3 K=K (c.units.l.map (·.name)).length (Bq (c.units.l.map (·.name))):=by
 rw[Iq];unfold Kk
 have:=I_ (R:=R) (N:=N) (c:=c) (o:=o) (K:=K) hs.top.2.2.1 c.units.l.length 0 N (by omega) hs.uni.1
 simpa[Bq] using this
theorem EY {N:Nat} {c:CaseD} {o:Bool} {K:Nat→LA→O R} (k:c.stores.l.length≤1000000):∀ (m j fuel:Nat),j+m=c.stores.l.length→m<fuel →
  Kh N K o c.av fuel j (j:Int) (Bq ((c.stores.l.take j).map (·.name)))=K c.stores.l.length (Bq (c.stores.l.map (·.name)))
 | 0,j,fuel+1,n,_=>by
  rw[Kh];unfold Wr
  have e:j=c.stores.l.length:=by omega
  rw[BC,H2 (by omega),cf,Az0 (by omega),e]
 | m+1,j,fuel+1,n,u=>by
  rw[Kh];unfold Wr
  have h:j<c.stores.l.length:=by omega
  have q:(ble (j+1) 140737488355328&&ble ((j+1)*16) 140737488355328)=true:=by rw[Ep,Ep];simp;omega
  have s:take (j*1) (Bq ((c.stores.l.take j).map (·.name)))++[.str c.stores.l[j].name]=Bq ((c.stores.l.take (j+1)).map (·.name)):=by
   rw[Az0 (by simp[Jv];omega),A02 h,A15];simp[Bq]
  have t:∀ f:Lu→O R,bU (drop (j*9) (List.flatMap StoreD.av c.stores.l)) f=f c.stores.l[j].name:=fun f=>by rw[Be M9 _ _ h];simp[StoreD.av,CD]
  rw[BC,Gh h,ct,BC,Aa h,ct,Az1,t,q,ct,s,Ez (by omega),EY k m (j+1) fuel (by omega) (by omega)]
theorem fB {N:Nat} {c:CaseD} {o:Bool} {K:Nat→LA→O R} (hs:Small c N):Ho N c.av o 4 K=K (c.stores.l.map (·.name)).length (Bq (c.stores.l.map (·.name))):=by
 rw[Iq];unfold Kk
 have:=EY (R:=R) (N:=N) (c:=c) (o:=o) (K:=K) hs.top.2.2.2.1 c.stores.l.length 0 N (by omega) hs.sto.1
 simpa[Bq] using this
theorem PU {N:Nat} {c:CaseD} {o:Bool} {K:Nat→LA→O R} (k:c.ties.l.length≤1000000):∀ (m j fuel:Nat),j+m=c.ties.l.length→m<fuel →
  Ki N K o c.av fuel j (j:Int) (Bq ((c.ties.l.take j).map (·.name)))=K c.ties.l.length (Bq (c.ties.l.map (·.name)))
 | 0,j,fuel+1,n,_=>by
  rw[Ki];unfold Ws
  have e:j=c.ties.l.length:=by omega
  rw[WM,H2 (by omega),cf,Az0 (by omega),e]
 | m+1,j,fuel+1,n,u=>by
  rw[Ki];unfold Ws
  have h:j<c.ties.l.length:=by omega
  have q:(ble (j+1) 140737488355328&&ble ((j+1)*16) 140737488355328)=true:=by rw[Ep,Ep];simp;omega
  have s:take (j*1) (Bq ((c.ties.l.take j).map (·.name)))++[.str c.ties.l[j].name]=Bq ((c.ties.l.take (j+1)).map (·.name)):=by
   rw[Az0 (by simp[Jv];omega),A02 h,A15];simp[Bq]
  have t:∀ f:Lu→O R,bU (drop (j*5) (List.flatMap TieD.av c.ties.l)) f=f c.ties.l[j].name:=fun f=>by rw[Be Xz _ _ h];simp[TieD.av,CD]
  rw[WM,Gh h,ct,WM,Aa h,ct,Az1,t,q,ct,s,Ez (by omega),PU k m (j+1) fuel (by omega) (by omega)]
theorem rc {N:Nat} {c:CaseD} {o:Bool} {K:Nat→LA→O R} (hs:Small c N):Ho N c.av o 5 K=K (c.ties.l.map (·.name)).length (Bq (c.ties.l.map (·.name))):=by
 rw[Iq];unfold Kk
 have:=PU (R:=R) (N:=N) (c:=c) (o:=o) (K:=K) hs.top.2.2.2.2.1 c.ties.l.length 0 N (by omega) hs.tie.1
 simpa[Bq] using this
theorem PV {N:Nat} {c:CaseD} {o:Bool} {K:Nat→LA→O R} (k:c.outs.l.length≤1000000):∀ (m j fuel:Nat),j+m=c.outs.l.length→m<fuel →
  Kj N K o c.av fuel j (j:Int) (Bq ((c.outs.l.take j).map (·.name)))=K c.outs.l.length (Bq (c.outs.l.map (·.name)))
 | 0,j,fuel+1,n,_=>by
  rw[Kj];unfold Wt
  have e:j=c.outs.l.length:=by omega
  rw[Ob,H2 (by omega),cf,Az0 (by omega),e]
 | m+1,j,fuel+1,n,u=>by
  rw[Kj];unfold Wt
  have h:j<c.outs.l.length:=by omega
  have q:(ble (j+1) 140737488355328&&ble ((j+1)*16) 140737488355328)=true:=by rw[Ep,Ep];simp;omega
  have s:take (j*1) (Bq ((c.outs.l.take j).map (·.name)))++[.str c.outs.l[j].name]=Bq ((c.outs.l.take (j+1)).map (·.name)):=by
   rw[Az0 (by simp[Jv];omega),A02 h,A15];simp[Bq]
  have t:∀ f:Lu→O R,bU (drop (j*4) (List.flatMap OutD.av c.outs.l)) f=f c.outs.l[j].name:=fun f=>by rw[Be Li _ _ h];simp[OutD.av,CD]
  rw[Ob,Gh h,ct,Ob,Aa h,ct,Az1,t,q,ct,s,Ez (by omega),PV k m (j+1) fuel (by omega) (by omega)]
theorem rf {N:Nat} {c:CaseD} {o:Bool} {K:Nat→LA→O R} (hs:Small c N):Ho N c.av o 6 K=K (c.outs.l.map (·.name)).length (Bq (c.outs.l.map (·.name))):=by
 rw[Iq];unfold Kk
 have:=PV (R:=R) (N:=N) (c:=c) (o:=o) (K:=K) hs.top.2.2.2.2.2 c.outs.l.length 0 N (by omega) hs.out.1
 simpa[Bq] using this
theorem Um {N:Nat} {L:List Lu} {k:Int} {n:Nat} {K:LA→O R} (hn:n<L.length) (hs:n<4611686018427387904):∀ (m j fuel:Nat) (p:Hz),j+m=n→m<fuel →
  Db N K k (n:Int) L.length (Bq L) fuel (j:Int) (Ct p)=K (Ct (nd p (((L.take n).drop j).all fun x=>!(x==L[n])) (k,n,0) ⟨10,by decide⟩))
 | 0,j,fuel+1,p,q,_=>by
  rw[Db];unfold H1
  rw[H2 (by omega),cf,Pk (l:=L.take n) (by simp;omega),A3z,MA]
 | m+1,j,fuel+1,p,q,t=>by
  rw[Db];unfold H1
  have h:j<L.length:=by omega
  have s:j<(L.take n).length:=by simp;omega
  rw[Gh (by omega),ct,Aa h,ct,Az1,A0g,A0b,ra h,Aa hn,ct,Az1,A0g,A0b,ra hn,Ai (by decide),Ez (by omega),Um hn hs m (j+1) fuel _ (by omega) (by omega),Ju s,A1d,Aer]
  have e:(L.take n)[j]=L[j]:=by simp
  rw[e]
theorem Dj {N:Nat} {c:CaseD} {L:List Lu} {o:Bool} {p:Hz} {k:Int} {n:Nat} {K:LA→O R} (hN:64≤N) (hL:∀ K:Nat→LA→O R,Ho N c.av o k K=K L.length (Bq L)) (hn:n<L.length) (hs:Q4 n N) :
  Cn N c.av o k (n:Int) (Ct p) K=K (Ct (CP (L.take n) k n L[n] p)):=by
 rw[Xu];unfold Mg
 rw[De,Hi,ct,hL,Aa hn,ct,Az1,A0g,A0b,ra hn,vr hN,Ai (by decide)]
 have:=Um (R:=R) (N:=N) (L:=L) (k:=k) (n:=n) (K:=K) hn hs.2 n 0 N (nd p (CO L[n]) (k,n,0) ⟨9,by decide⟩) (by omega) hs.1
 simpa[CP] using this
theorem MQ {N fuel:Nat} {c:CaseD} {o:Bool} {p:Hz} {K:LA→O R} (hs:Small c N):Bc N K o c.av (fuel+6) 2 (Ct p)=K (Ct
  (nd (nd (nd (nd (nd p (decide ((c.lines.l.length:Int)≤64)) (0,0,3) e8) (decide ((c.units.l.length:Int)≤16)) (0,0,4) e8) (decide ((c.stores.l.length:Int)≤8)) (0,0,5) e8) (decide ((c.ties.l.length:Int)≤8)) (0,0,6) e8) (decide ((c.outs.l.length:Int)≤64)) (0,0,7) e8)):=by
 have most:∀ (k:Nat) (n:Int) (K:Int→O R),k<7→([0,32,64,16,8,8,64]:List Int)[k]?=some n→Sp N (k:Int) K=K n:=by
  intro k n K j q
  rw[e_];unfold jY
  rw[Aa j,ct]
  have e:[(.int .i64 (0:Int)),(.int .i64 (32:Int)),(.int .i64 (64:Int)),(.int .i64 (16:Int)),(.int .i64 (8:Int)),(.int .i64 (8:Int)),(.int .i64 (64:Int))]=Ap [0,32,64,16,8,8,64]:=rfl
  rw[e,Az1,A0g,A0b,Hy (by simpa using j)]
  rw[Az6 (by simpa using j)] at q
  simp only[A2z] at q
  rw[q]
 have m2:∀ K:Int→O R,Sp N 2 K=K 64:=fun K=>most 2 64 K (by omega) rfl
 have m3:∀ K:Int→O R,Sp N 3 K=K 16:=fun K=>most 3 16 K (by omega) rfl
 have m4:∀ K:Int→O R,Sp N 4 K=K 8:=fun K=>most 4 8 K (by omega) rfl
 have m5:∀ K:Int→O R,Sp N 5 K=K 8:=fun K=>most 5 8 K (by omega) rfl
 have m6:∀ K:Int→O R,Sp N 6 K=K 64:=fun K=>most 6 64 K (by omega) rfl
 have s:wrap .i64 (2+1)=3:=rfl
 have w3:wrap .i64 (3+1)=4:=rfl
 have t:wrap .i64 (4+1)=5:=rfl
 have u:wrap .i64 (5+1)=6:=rfl
 have v:wrap .i64 (6+1)=7:=rfl
 rw[Bc];unfold Bx
 rw[show decide ((2:Int)≤6)=true from rfl,ct,Hi,ct,De,mI hs,m2,Ai (by decide),s]
 rw[Bc];unfold Bx
 rw[show decide ((3:Int)≤6)=true from rfl,ct,Hi,ct,De,mJ hs,m3,Ai (by decide),w3]
 rw[Bc];unfold Bx
 rw[show decide ((4:Int)≤6)=true from rfl,ct,Hi,ct,De,fB hs,m4,Ai (by decide),t]
 rw[Bc];unfold Bx
 rw[show decide ((5:Int)≤6)=true from rfl,ct,Hi,ct,De,rc hs,m5,Ai (by decide),u]
 rw[Bc];unfold Bx
 rw[show decide ((6:Int)≤6)=true from rfl,ct,Hi,ct,De,rf hs,m6,Ai (by decide),v]
 rw[Bc];unfold Bx
 rw[show decide ((7:Int)≤6)=false from rfl,cf]
 simp only[A03]
theorem MR {N:Nat} {c:CaseD} {o:Bool} {p:Hz} {K:LA→O R} (hs:Small c N):H0 N c.av o (Ct p) K=K (Ct (r7 c p)):=by
 have hN:=hs.n64
 rw[Ui];unfold Kl
 have:=fun p=>MQ (fuel:=N - 6) (o:=o) (p:=p) (K:=K) hs
 rw[show N - 6+6=N by omega] at this
 simp only[Jj,Dp (show 8≤N by omega),Ai (show(3:Int)≠0 by decide),Ai (show(8:Int)≠0 by decide),Hi,ct,De,Ajc,S6,Dy rfl hs.res,this]
 rfl
theorem GZ {p:Hz} {f:Int→O R}:As .i64 (drop 3 (Ct p)) f=f (Hg p):=by
 rcases p with _ | ⟨⟨a,b,j⟩,e,k⟩<;>simp[Ct,Arz,Br,Hg]
theorem Mb {N:Nat} {i:Int} {u:UnitD} {o:Bool} {p:Hz} {K:LA→O R} (hs:u.segs.l.length<4611686018427387904):∀ (m j fuel:Nat) (a:Int),j+m=u.segs.l.length→m<fuel →
  Cs N K i (Ct p) o u.av fuel a (j:Int)=K (Ct (nd p (b8 a (u.segs.l.drop j)==wrap .i64 (u.max - u.min)) (3,i,4) e4))
 | 0,j,fuel+1,a,n,_=>by
  rw[Cs];unfold Fh
  simp only[j4,Avt,Avu,GZ,Ai (show(4:Int)≠0 by decide)]
  rw[H2 (by omega),Pk (l:=u.segs.l) (by omega),b8,MA]
  rcases p with _ | ⟨x,e,k⟩
  ·simp[Hg]
  ·have:(e != 0)=true:=by simpa using k
   simp[Hg,this,nd]
 | m+1,j,fuel+1,a,n,t=>by
  rw[Cs];unfold Fh
  have h:j<u.segs.l.length:=by omega
  simp only[j4,Avt,Avu,GZ,Ai (show(4:Int)≠0 by decide),Aog h,Aa h]
  rw[Gh h,Ez (by omega),Mb hs m (j+1) fuel _ (by omega) (by omega),Ju h,b8,MA]
  rcases p with _ | ⟨x,e,k⟩
  ·simp[Hg]
  ·have q:(e != 0)=true:=by simpa using k
   have s:(e==0)=false:=by simpa using k
   simp[Hg,q,s,nd]
theorem Un {N:Nat} {i:Int} {u:UnitD} {o:Bool} {K:LA→O R} (hs:Q4 u.segs.l.length N):∀ (m j fuel:Nat) (p:Hz),j+1+m=u.segs.l.length→m<fuel →
  B4 N K i o u.av fuel ((j+1:Nat):Int) (Ct p)=K (Ct (nd (nd p (b9 (u.segs.l.drop j)) (3,i,4) Awl) (b8 0 u.segs.l==wrap .i64 (u.max - u.min)) (3,i,4) e4))
 | 0,j,fuel+1,p,e,_=>by
  rw[B4];unfold Dl
  rw[j4,H2 (by omega),cf,Ju (l:=u.segs.l) (j:=j) (by omega),Pk (l:=u.segs.l) (j:=j+1) (by omega),r9,MA]
  have:=Mb (R:=R) (N:=N) (i:=i) (u:=u) (o:=o) (p:=p) (K:=K) hs.2 u.segs.l.length 0 N 0 (by omega) hs.1
  simpa using this
 | m+1,j,fuel+1,p,e,n=>by
  rw[B4];unfold Dl
  have h:j+1<u.segs.l.length:=by omega
  have h':j<u.segs.l.length:=by omega
  have k:=hs.2
  simp only[j4]
  rw[Gh h,ct,Aa h,ct,xr h,rZ (by omega),Aa h',ct,xr h',Ez (by omega),Ai (by decide),Un hs m (j+1) fuel _ (by omega) (by omega),Ju h',Ju h,MP,Aer]
theorem Uo {N:Nat} {i:Int} {u:UnitD} {o:Bool} {K:LA→O R} (hN:8≤N) (hs:Q4 u.segs.l.length N):∀ (m j fuel:Nat) (p:Hz),j+m=u.segs.l.length→m<fuel →
  B5 N K i (u.segs.l.flatMap SegD.av) u.segs.l.length o u.av fuel (u.segs.l.length:Int) (j:Int) (Ct p) =
   K (Ct (nd (nd (nd p ((u.segs.l.drop j).all r8) (3,i,4) e3) (b9 u.segs.l) (3,i,4) Awl) (b8 0 u.segs.l==wrap .i64 (u.max - u.min)) (3,i,4) e4))
 | 0,j,fuel+1,p,k,_=>by
  rw[B5];unfold Fi
  rw[H2 (by omega),cf,Pk (l:=u.segs.l) (by omega),A3z,MA]
  rcases e:u.segs.l with _ | ⟨b,r⟩
  ·rw[Aex,MA]
   have l2:=Mb (R:=R) (N:=N) (i:=i) (u:=u) (o:=o) (p:=p) (K:=K) hs.2 u.segs.l.length 0 N 0 (by omega) hs.1
   rcases N with _ | N
   ·omega
   ·rw[B4];unfold Dl
    rw[j4,e]
    simp only[A2g,A2u]
    rw[show decide ((1:Int)<0)=false by decide,cf]
    rw[e] at l2
    simpa using l2
  ·have:=Un (R:=R) (N:=N) (i:=i) (u:=u) (o:=o) (K:=K) hs r.length 0 N p (by rw[e];simp;omega) (by have:=hs.1;rw[e] at this;simp at this;omega)
   rw[e] at this
   simpa using this
 | m+1,j,fuel+1,p,k,s=>by
  rw[B5];unfold Fi
  have h:j<u.segs.l.length:=by omega
  have n:=hs.2
  rw[Gh h,ct,Aa h,ct,Az1,Be CQ _ _ h,Ju h,A1d,Ez (by omega)]
  have b1:ble 2 (List.length (u.segs.l[j].av++List.flatMap SegD.av (drop (j+1) u.segs.l)))=true:=by rw[Ep,Az2,CQ];simp
  have q:take 2 (u.segs.l[j].av++List.flatMap SegD.av (drop (j+1) u.segs.l))=u.segs.l[j].av:=A2k (CQ _)
  rw[b1,ct,q,CQ]
  simp only[SegD.av,setCells,D9,A1o,A1y,A54,A1b,A00,A2q,Az5,A2g,Br,Ep,zo,A6,Nat.reduceAdd,decide_true,A19,A24,A2c,cond_true,A0g,Az3,Dp hN,Ai (show(3:Int)≠0 by decide),Uo hN hs m (j+1) fuel _ (show j+1+m=_ by omega) (show m<fuel by omega)]
  unfold r8
  rw[Aer,Aer]
  cases Fe 1 1048576 u.segs.l[j].width<;>rfl
theorem EF {N:Nat} {p:Hz} {j:Nat} {u:UnitD} {o:Bool} {K:LA→O R} (hN:8≤N) (hs:Q4 u.segs.l.length N) :
  Dx N u.av o (j:Int) (Ct p) K=K (Ct (Aof u j p)):=by
 rw[Pi];unfold Hc
 simp only[j4,Ai (show(8:Int)≠0 by decide)]
 have:=Uo (R:=R) (N:=N) (i:=j) (u:=u) (o:=o) (K:=K) hN hs u.segs.l.length 0 N (nd p (decide ((u.segs.l.length:Int)≤8)) (3,j,4) e8) (by omega) hs.1
 simpa[Aof] using this
theorem X0 {N:Nat} {i:Int} {l:List MoveD} {o:Bool} {K:LA→O R} (hN:8≤N) (hs:l.length<4611686018427387904):∀ (m j fuel:Nat) (p:Hz),j+m=l.length→m<fuel →
  Dh N K i (l.flatMap MoveD.av) l.length o fuel (l.length:Int) (j:Int) (Ct p)=K (Ct (nd p ((l.drop j).all Aje) (6,i,3) e3))
 | 0,j,fuel+1,p,e,_=>by
  rw[Dh];unfold F9
  rw[H2 (by omega),cf,Pk (by omega),A3z,MA]
 | m+1,j,fuel+1,p,e,n=>by
  rw[Dh];unfold F9
  have h:j<l.length:=by omega
  rw[Gh h,ct,Aa h,ct,Az1,Be Od _ _ h,Ju h,A1d,Ez (by omega)]
  have b1:ble 3 (List.length (l[j].av++List.flatMap MoveD.av (drop (j+1) l)))=true:=by rw[Ep,Az2,Od];simp
  have k:take 3 (l[j].av++List.flatMap MoveD.av (drop (j+1) l))=l[j].av:=A2k (Od _)
  rw[b1,ct,k,Od]
  simp only[MoveD.av,setCells,D9,A1o,A1y,A54,A1b,A00,A2q,Az5,A2g,Br,Ep,zo,A6,Nat.reduceAdd,decide_true,A19,A24,A2c,cond_true,A0g,Az3,oP hN,Ai (show(3:Int)≠0 by decide),X0 hN hs m (j+1) fuel _ (show j+1+m=_ by omega) (show m<fuel by omega)]
  rw[Aer];rfl
theorem X1 {N:Nat} {c:CaseD} {i:Int} {u:OutD} {o:Bool} {p:Hz} {K:LA→O R} (hN:8≤N) (k:c.units.l.length≤1000000) (hs:Q4 u.moves.l.length N) (n:u.moves.l.length<8796093022208):∀ (m j fuel:Nat),j+m=u.moves.l.length→m<fuel →
  Di N K i (u.moves.l.flatMap MoveD.av) u.moves.l.length o (Ct p) c.av u.av fuel j (u.moves.l.length:Int) (j:Int) (Ap ((u.moves.l.take j).map (·.unit))) =
   K (Ct (nd (nd (nd p (u.moves.l.all (Ar1 c)) (6,i,3) Aoc) (asc (u.moves.l.map (·.unit))) (6,i,3) Awl) (u.moves.l.all Aje) (6,i,3) e3))
 | 0,j,fuel+1,q,_=>by
  rw[Di];unfold Ga
  have s:j=u.moves.l.length:=by omega
  rw[H2 (by omega),cf,A0b,Az0 (by simp[Dw];omega),Az0 (show u.moves.l.length≤j by omega)]
  rw[Ef,Gi (by simp;omega) (by simpa using hs),Ai (by decide),Ys (by simp;omega) (by simpa using hs),Ai (by decide),Amf]
  have:=X0 (R:=R) (N:=N) (i:=i) (l:=u.moves.l) (o:=o) (K:=K) hN hs.2 u.moves.l.length 0 N (nd (nd p (u.moves.l.all (Ar1 c)) (6,i,3) Aoc) (asc (u.moves.l.map (·.unit))) (6,i,3) Awl) (by omega) hs.1
  have e:(u.moves.l.map (·.unit)).all (Fe 0 (wrap .i64 ((c.units.l.length:Int) - 1)))=u.moves.l.all (Ar1 c):=by
   rw[List.all_map];congr 1;funext m;exact Ajd _ _ (by omega)
  rw[e]
  simpa using this
 | m+1,j,fuel+1,q,A=>by
  rw[Di];unfold Ga
  have h:j<u.moves.l.length:=by omega
  have b1:ble 3 (List.length (u.moves.l[j].av++List.flatMap MoveD.av (drop (j+1) u.moves.l)))=true:=by rw[Ep,Az2,Od];simp
  have t:take 3 (u.moves.l[j].av++List.flatMap MoveD.av (drop (j+1) u.moves.l))=u.moves.l[j].av:=A2k (Od _)
  have v:(decide (j≤140737488355327)&&decide ((j+1)*8≤140737488355328))=true:=by simp;omega
  have z:take (j*1) (Ap ((u.moves.l.take j).map (·.unit)))++[.int .i64 u.moves.l[j].unit]=Ap ((u.moves.l.take (j+1)).map (·.unit)):=by
   rw[Az0 (by simp[Dw];omega),A02 h,A15,←SC];rfl
  rw[Gh h,ct,Aa h,ct,Az1,Be Od _ _ h,Ez (by omega),b1,ct,t,Od]
  simp only[MoveD.av,setCells,D9,A1o,A1y,A54,A1b,A2q,Az5,A2g,Br,Ep,zo,A6,Nat.reduceAdd,Nat.reduceLeDiff,decide_true,A19,A24,A2c,cond_true,A0g,Az3,v,z,X1 hN k hs n m (j+1) fuel (show j+1+m=_ by omega) (show m<fuel by omega)]
theorem ST {N:Nat} {c:CaseD} {p:Hz} {o:Bool} {j:Nat} {K:LA→O R} (hs:Small c N) (h:j<c.ties.l.length) :
  P9 N c.av o (j:Int) (Ct p) K=K (Ct (Aoe c j c.ties.l[j] p)):=by
 have hN:=hs.n64
 have hN8:8≤N:=by omega
 have e:=hs.tie
 have z:=hs.top
 have s:c.ties.l[j] ∈ c.ties.l:=A0l h
 have A:=hs.tim _ s;have t:=hs.tex _ s;have u:=hs.tpr _ s
 have q:=@Dj R N c (c.ties.l.map (·.name)) o (k:=5) (n:=j) (hN:=hN) (hL:=fun K=>rc hs) (hn:=by simpa using h) (hs:=⟨by have:=e.1;omega,by have:=e.2;omega⟩)
 have v:(c.ties.l.map (·.name))[j]'(by simpa using h)=c.ties.l[j].name:=by simp
 rw[v] at q
 rw[Zh];unfold Ve 
 rw[WM,Aa h,ct,Az1,Be Xz _ _ h]
 generalize c.ties.l[j]=b at *
 have b1:ble 5 (List.length (b.av++List.flatMap TieD.av (drop (j+1) c.ties.l)))=true:=by rw[Ep,Az2,Xz];simp
 have B:take 5 (b.av++List.flatMap TieD.av (drop (j+1) c.ties.l))=b.av:=A2k (Xz b)
 rw[b1,ct,B,Xz]
 simp only[De,q,TieD.av,A1b,A00,Br,A2,Ft,Ep,zo,decide_true,A19,cond_true]
 simp only[H3 hN8 (show c.buses.l.length<4611686018427387904 by omega),Dy rfl A,Dy rfl t,Dy rfl u]
 rfl
theorem MS {N:Nat} {c:CaseD} {p:Hz} {o:Bool} {j:Nat} {K:LA→O R} (hs:Small c N) (h:j<c.stores.l.length) :
  Mk N c.av o (j:Int) (Ct p) K=K (Ct (b7 c j c.stores.l[j] p)):=by
 have hN:=hs.n64
 have hN8:8≤N:=by omega
 have e:=hs.sto
 have t:=hs.top
 have v:c.stores.l[j] ∈ c.stores.l:=A0l h
 skip
 have q:=@Dj R N c (c.stores.l.map (·.name)) o (k:=4) (n:=j) (hN:=hN) (hL:=fun K=>fB hs) (hn:=by simpa using h) (hs:=⟨by have:=e.1;omega,by have:=e.2;omega⟩)
 have s:(c.stores.l.map (·.name))[j]'(by simpa using h)=c.stores.l[j].name:=by simp
 rw[s] at q
 rw[Uj];unfold Qz 
 rw[BC,Aa h,ct,Az1,Be M9 _ _ h]
 generalize c.stores.l[j]=b at *
 have b1:ble 9 (List.length (b.av++List.flatMap StoreD.av (drop (j+1) c.stores.l)))=true:=by rw[Ep,Az2,M9];simp
 have u:take 9 (b.av++List.flatMap StoreD.av (drop (j+1) c.stores.l))=b.av:=A2k (M9 b)
 rw[b1,ct,u,M9]
 simp only[De,q,StoreD.av,A1b,A00,A4s,A2q,Az5,A2g,Br,Ep,zo,A6,Nat.reduceAdd,decide_true,A19,A24,cond_true,A0g,Az3]
 simp only[H3 hN8 (show c.buses.l.length<4611686018427387904 by omega),Dp hN8,Ai (show(3:Int)≠0 by decide),EX hN8]
 unfold b7;cases Pb b.eff<;>cases decide (b.eff.num>0)<;>rfl
theorem RC {N:Nat} {c:CaseD} {p:Hz} {o:Bool} {j:Nat} {K:LA→O R} (hs:Small c N) (h:j<c.lines.l.length) :
  Jg N c.av o (j:Int) (Ct p) K=K (Ct (mH c j c.lines.l[j] p)):=by
 have hN:=hs.n64
 have hN8:8≤N:=by omega
 have e:=hs.lin
 have t:=hs.top
 have u:c.lines.l[j] ∈ c.lines.l:=A0l h
 have v:=hs.law _ u
 have q:=@Dj R N c (c.lines.l.map (·.name)) o (k:=2) (n:=j) (hN:=hN) (hL:=fun K=>mI hs) (hn:=by simpa using h) (hs:=⟨by have:=e.1;omega,by have:=e.2;omega⟩)
 have s:(c.lines.l.map (·.name))[j]'(by simpa using h)=c.lines.l[j].name:=by simp
 rw[s] at q
 rw[Xw];unfold Mi Jb M7 O8 M6 O7
 rw[Pl,Aa h,ct,Az1,Be Gj _ _ h]
 generalize c.lines.l[j]=b at *
 have b1:ble 12 (List.length (b.av++List.flatMap LineD.av (drop (j+1) c.lines.l)))=true:=by rw[Ep,Az2,Gj];simp
 have z:take 12 (b.av++List.flatMap LineD.av (drop (j+1) c.lines.l))=b.av:=A2k (Gj b)
 rw[b1,ct,z,Gj]
 simp only[De,q,LineD.av,A1b,A00,A4s,A2q,Az5,A2g,Br,A2,Ft,Ep,zo,A6,Nat.reduceAdd,Nat.reduceLeDiff,decide_true,A19,A24,cond_true,A0g]
 simp only[H3 hN8 (show c.buses.l.length<4611686018427387904 by omega),Dp hN8,Ai (show(1:Int)≠0 by decide),Ai (show(3:Int)≠0 by decide),EX hN8,Ul rfl v]
 unfold mH;rw[show(b.fr != b.tl)=(b.tl != b.fr) by simp[bne,BEq.comm (a:=b.fr)]];cases Pb b.re<;>cases Pb b.smin<;>cases Pb b.smax<;>rfl
end
end Gx.Cf
