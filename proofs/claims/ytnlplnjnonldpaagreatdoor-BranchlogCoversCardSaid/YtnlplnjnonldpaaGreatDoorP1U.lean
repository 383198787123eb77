/- A part of the proof; each theorem says what it holds. -/
import Derived.ProofKit
import Derived.OpenShut
import Derived.ChangeOld
import Derived.Below
import Derived.Lib.LaidTab
import Derived.Test.YtnlplnjnonldpaaGreatDoorProg
import Derived.Shelf.Strings.Repeat
import Derived.Shelf.Strings.Split
import Derived.Shelf.Strings.Cut
import Derived.Shelf.Strconv.AtoiAll
import Derived.Shelf.Strconv.Itoa3
import Derived.Shelf.LaysM
import Derived.Shelf.LaysC
import Derived.Lib.RepeatB
import Derived.OwnWalk
import Derived.Laws.AppendOwnNone
import Derived.Lib.LazyBuf
import Derived.Test.YtnlplnjnonldpaaGreatDoorP0U
set_option linter.unusedVariables false
set_option linter.defProp false
set_option linter.unusedSimpArgs false
open Nat (ble beq)
open List (take drop replicate)
open Go.IntKind (wrap)
namespace Gx
open Go
theorem J3:∀ {l:List Nat} {b:Nat},Hq l b=true↔b ∈ l
  | [],b=>by simp[Hq]
  | i::r,b=>by
    rw[Hq]
    cases hi:beq i b with
    | true=>have:=Ak0 hi;subst this;simp
    | false => have := Ug hi; simp only [cond_false, Alb]; rw [J3]; constructor
               · exact fun h=>.inr h
               · rintro(h | h)
                 · exact absurd h.symm this
                 · exact h
theorem Qw:∀ {l:List Nat},IS l=true→l.Nodup
 | [],_=>Ao6
 | i::r,h=>by
  rw[IS] at h;simp at h
  refine Alp.2 ⟨fun b=>?_,Qw h.2⟩
  rw[J3.2 b] at h;simp at h
theorem Y_ {g:A7} {ids:List Nat}:∀ {l:List Nat},gW g ids l=true→∀ b ∈ l,∀ x,Fg g b=some x→b ∈ ids
 | [],_,b,j,_,_=>by simp at j
 | i::r,h,b,j,x,q=>by
  rw[gW] at h;simp at h
  rcases Alb.1 j with e | j
  ·subst e
   rcases h.1 with k | k
   ·exact J3.1 k
   ·rw[q] at k;simp at k
  ·exact Y_ h.2 b j x q
theorem sO:∀ {l:List Nat},xa l=true→∀ b ∈ l,Gq≤b→Jz b<100000
 | [],_,b,j,_=>by simp at j
 | i::r,h,b,j,hn=>by
  rw[xa] at h;simp at h
  rcases Alb.1 j with e | j
  ·subst e
   have:ble Gq b=true:=by simpa using hn
   rw[this] at h;simpa using h.1
  ·exact sO h.2 b j hn
theorem Wo (g:A7):∀ c:LA,(Iw g c).length=c.length
 | []=>rfl
 | x::r=>by rw[Iw,Ak8,Ak8,Wo g r]
section
variable {R:Type} {r:R} {Z:Start} {nt:Nat} {J J':Bool→Nat→Prop} {β β':B5} {st:St} {h h':Ap} {a:Act} {w w':World} {ids:List Nat}
def K3 (g:A7) (x:Blk):Blk:={ x with cells:=cond x.pure x.cells (Iw g x.cells) }
theorem Q' {g:A7}:∀ {ids:List Nat},(ids.map Jz).Nodup→∀ c y,Ai (Wk g ids) c=some y→∃ b x,b ∈ ids∧Jz b=c∧Fg g b=some x∧y=K3 g x
 | [],_,c,y,j=>by simp[Wk,Ai] at j
 | b::r,hn,c,y,j=>by
  rw[Ak9,Alp] at hn
  rw[Wk] at j
  split at j
  ·rename_i x z
   rw[Ad] at j
   by_cases e:c=Jz b
   ·rw[if_pos e] at j;simp at j
    exact⟨b,x,by simp,e.symm,z,j.symm⟩
   ·rw[if_neg e] at j
    obtain⟨k,x',q,s,u,v⟩:=Q' hn.2 c y j
    exact⟨k,x',by simp[q],s,u,v⟩
  ·obtain⟨k,x',q,s,u,v⟩:=Q' hn.2 c y j
   exact⟨k,x',by simp[q],s,u,v⟩
theorem Wp {g:A7}:∀ {ids:List Nat},(ids.map Jz).Nodup→∀ b x,b ∈ ids→Fg g b=some x→Ai (Wk g ids) (Jz b)=some (K3 g x)
 | [],_,b,x,j,_=>by simp at j
 | s::r,hn,b,x,j,k=>by
  rw[Ak9,Alp] at hn
  rw[Wk]
  by_cases e:b=s
  ·subst e
   rw[k]
   simp only
   rw[Ad,if_pos rfl];rfl
  ·have q:b ∈ r:=by simpa[e] using j
   have ne:Jz b≠Jz s:=fun h=>hn.1 (by rw[←h];exact Als.2 ⟨b,q,rfl⟩)
   split
   ·rw[Ad,if_neg ne];exact Wp hn.2 b x q k
   ·exact Wp hn.2 b x q k
def gt (ids:List Nat) (c:Nat):Option Nat:=ids.find? fun b=>beq (Jz b) c
theorem Kd (hn:(ids.map Jz).Nodup) {b:Nat} (j:b ∈ ids):gt ids (Jz b)=some b:=by
 induction ids with
 | nil=>simp at j
 | cons i r k =>
  rw[Ak9,Alp] at hn
  unfold gt at k ⊢
  rw[List.find?_cons]
  by_cases e:b=i
  ·subst e;simp
  ·have q:b ∈ r:=by simpa[e] using j
   have ne:Jz i≠Jz b:=fun h=>hn.1 (by rw[h];exact Als.2 ⟨b,q,rfl⟩)
   rw[IE ne];exact k hn.2 q
def Ad8 (g:A7) (ids:List Nat) (l:List Nat):Prop:=∀ b ∈ l,∀ x,Fg g b=some x→b ∈ ids
theorem yj {b:Nat}:Fg (Ai h) b=(Ai h b).bind fun x=>cond x.dead none (some x):=rfl
theorem RA {b:Nat} {x y:Blk} (k:Ai h b=some x) (e:Fg (Ai h) b=some y):y=x∧x.dead=false:=by
 rw[yj,k] at e
 cases j:x.dead with
 | true=>simp[j] at e
 | false=>simp[j] at e;exact⟨e.symm,rfl⟩
mutual
theorem Rep.clean (hn:(ids.map Jz).Nodup):∀ {x:AV} {v:Value},Ad8 (Ai h) ids (F9 x)→Rep J β h w x v →
  Rep J (fun c=>(gt ids c).bind β) (Wk (Ai h) ids) w (Wj (Ai h) x) v
 | .own b off n,v,hm,hr=>by
  rw[Rep] at hr
  obtain⟨x,A,cap,⟨hx,hmp⟩,h1,h2,h3⟩:=hr
  rw[Wj]
  cases hv:Fg (Ai h) b with
  | none=>simp only;rw[Rep];trivial
  | some y =>
   obtain⟨rfl,hd⟩:=RA hx hv
   have hb:=hm b (by simp[F9]) _ hv
   simp only
   rw[Rep]
   refine⟨K3 (Ai h) y,A,cap,⟨Wp hn b y hb hv,hmp⟩,h1,h2,?_⟩
   rcases h3 with h3 | ⟨k,o,h4,h5⟩
   ·exact .inl h3
   ·refine .inr ⟨k,o,h4,?_⟩
    rcases h5 with h5 | ⟨h5,h6,h7⟩
    ·simp[hd] at h5
    ·refine .inr ⟨by rw[Kd hn hb];exact h5,h6,?_⟩
     have:(K3 (Ai h) y).cells.length=y.cells.length:=by
      unfold K3;cases y.pure
      ·simp;exact Wo _ _
      ·rfl
     rw[this];exact h7
 | .optr b off,v,hm,hr=>by
  rw[Rep] at hr
  obtain⟨x,k,o,⟨hx,hmp⟩,h1,h2⟩:=hr
  rw[Wj]
  cases hv:Fg (Ai h) b with
  | none=>simp only;rw[Rep];trivial
  | some y =>
   obtain⟨rfl,hd⟩:=RA hx hv
   have hb:=hm b (by simp[F9]) _ hv
   simp only
   rw[Rep]
   refine⟨K3 (Ai h) y,k,o,⟨Wp hn b y hb hv,hmp⟩,h1,?_⟩
   rcases h2 with h2 | h2
   ·simp[hd] at h2
   ·exact .inr (by rw[Kd hn hb];exact h2)
 | .omap b,v,hm,hr=>by
  rw[Rep] at hr
  obtain⟨x,k,⟨hx,hmp⟩,h2⟩:=hr
  rw[Wj]
  cases hv:Fg (Ai h) b with
  | none=>simp only;rw[Rep];trivial
  | some y =>
   obtain⟨rfl,hd⟩:=RA hx hv
   have hb:=hm b (by simp[F9]) _ hv
   simp only
   rw[Rep]
   refine⟨K3 (Ai h) y,k,⟨Wp hn b y hb hv,hmp⟩,?_⟩
   rcases h2 with h2 | h2
   ·simp[hd] at h2
   ·exact .inr (by rw[Kd hn hb];exact h2)
 | .agg c,v,hm,hr=>by
  rw[Rep] at hr
  obtain⟨cs,h1,h2⟩:=hr
  rw[Wj,Rep]
  exact⟨cs,h1,Reps.clean hn (by simpa[F9] using hm) h2⟩
 | .tup c,v,hm,hr=>by
  rw[Rep] at hr
  obtain⟨cs,h1,h2⟩:=hr
  rw[Wj,Rep]
  exact⟨cs,h1,Reps.clean hn (by simpa[F9] using hm) h2⟩
 | .fn f c,v,hm,hr=>by
  rw[Rep] at hr
  obtain⟨cs,h1,h2⟩:=hr
  rw[Wj,Rep]
  exact⟨cs,h1,Reps.clean hn (by simpa[F9] using hm) h2⟩
 | .pagg c o,v,hm,hr=>by show Rep J _ _ w (.pagg c o) v;rw[Rep] at hr ⊢;exact hr
 | .undef,v,hm,hr=>by show Rep J _ _ w (.undef) v;rw[Rep] at hr ⊢;exact hr
 | .imm c n sz t o,v,hm,hr=>by show Rep J _ _ w (.imm c n sz t o) v;rw[Rep] at hr ⊢;exact hr
 | .iptr c o,v,hm,hr=>by show Rep J _ _ w (.iptr c o) v;rw[Rep] at hr ⊢;exact hr
 | .int k n,v,hm,hr=>by show Rep J _ _ w (.int k n) v;rw[Rep] at hr ⊢;exact hr
 | .bool b,v,hm,hr=>by show Rep J _ _ w (.bool b) v;rw[Rep] at hr ⊢;exact hr
 | .str s,v,hm,hr=>by show Rep J _ _ w (.str s) v;rw[Rep] at hr ⊢;exact hr
 | .nsl,v,hm,hr=>by show Rep J _ _ w (.nsl) v;rw[Rep] at hr ⊢;exact hr
 | .nilptr,v,hm,hr=>by show Rep J _ _ w (.nilptr) v;rw[Rep] at hr ⊢;exact hr
 | .nilfn,v,hm,hr=>by show Rep J _ _ w (.nilfn) v;rw[Rep] at hr ⊢;exact hr
theorem Reps.clean (hn:(ids.map Jz).Nodup):∀ {c:List AV} {cs:List Value},Ad8 (Ai h) ids (Hp c)→Reps J β h w c cs →
  Reps J (fun c=>(gt ids c).bind β) (Wk (Ai h) ids) w (Iw (Ai h) c) cs
 | [],cs,hm,hr=>by rw[Reps] at hr;rw[Iw,Reps];exact hr
 | x::r,cs,hm,hr=>by
  rw[Reps] at hr
  obtain⟨u,us,h1,h2,h3⟩:=hr
  rw[Iw,Reps]
  exact⟨u,us,h1,Rep.clean hn (fun b hb=>hm b (by simp[Hp,hb])) h2,Reps.clean hn (fun b hb=>hm b (by simp[Hp,hb])) h3⟩
end
theorem X3 {g:A7} {K:List Nat}:∀ {s:F8} {i:Nat},Fn (YS g K s) i=if Hq K i=true then Wj g (Fn s i) else .undef
 | [],i=>by
  simp only[YS,Fn]
  show AV.undef=if Hq K i=true then AV.undef else AV.undef
  split<;>rfl
 | (t,v)::r,i=>by
  rw[YS,Fn]
  cases b:Hq K t with
  | true =>
   simp only[cond_true,Fn]
   cases hi:beq t i with
   | true =>
    have:=Ak0 hi;subst this
    simp[b]
   | false=>simp only[cond_false];exact X3
  | false =>
   simp only[cond_false]
   rw[X3]
   cases hi:beq t i with
   | true =>
    have:=Ak0 hi;subst this
    simp[b]
   | false=>rfl
theorem gv {K:List Nat}:∀ {s:F8} {i:Nat},Hq K i=true→∀ b ∈ F9 (Fn s i),b ∈ gV K s
 | [],i,_,b,e=>by simp[Fn,F9] at e
 | (t,v)::r,i,j,b,e=>by
  rw[Fn] at e
  rw[gV]
  cases hi:beq t i with
  | true =>
   have:=Ak0 hi;subst this
   rw[hi] at e
   rw[j];simp at e ⊢;exact .inl e
  | false =>
   rw[hi] at e
   have:=gv j b e
   cases Hq K t
   ·exact this
   ·simp;exact .inr this
theorem Y' {g:A7}:∀ {ids:List Nat} {b:Nat} {x:Blk},b ∈ ids→g b=some x→x.pure=false→∀ c ∈ Hp x.cells,c ∈ Jy g ids
 | [],b,x,j,_,_,_,_=>by simp at j
 | i::r,b,x,j,k,q,c,s=>by
  rw[Jy]
  by_cases e:b=i
  ·subst e;rw[k];simp only[q,cond_false];exact Ak2.2 (.inl s)
  ·exact Ak2.2 (.inr (Y' (by simpa[e] using j) k q c s))
theorem ZA:∀ {c:LA} {j:Nat} {x:AV},c[j]?=some x→∀ b ∈ F9 x,b ∈ Hp c
 | [],j,x,e,_,_=>by simp at e
 | y::r,j,x,e,b,k=>by
  rw[Hp]
  cases j with
  | zero=>simp at e;subst e;exact Ak2.2 (.inl k)
  | succ j=>exact Ak2.2 (.inr (ZA (by simpa using e) b k))
theorem bZ {g:A7}:∀ {c:LA} {j:Nat} {y:AV},(Iw g c)[j]?=some y→∃ x,c[j]?=some x∧y=Wj g x
 | [],j,y,b=>by simp[Iw] at b
 | x::r,j,y,b=>by
  rw[Iw] at b
  cases j with
  | zero=>simp at b;exact⟨x,by simp,b.symm⟩
  | succ j=>obtain⟨x',e,k⟩:=bZ (c:=r) (j:=j) (by simpa using b);exact⟨x',by simpa using e,k⟩
theorem yk {b:Nat} (e:b<Gq):Jz b=b:=by
 unfold Jz
 have:ble Gq b=false:=by
  cases h:ble Gq b with
  | false=>rfl
  | true=>have:=Nat.le_of_ble_eq_true h;omega
 rw[this];rfl
theorem sP {K roots:List Nat} {st':St} (I:Inv Z nt J β st a w) (hh:clean K roots st=some st'):∃ β',Inv Z nt J β' st' a w:=by
 unfold clean at hh
 obtain⟨hc,h1⟩:_∧_:=uc hh
 simp only[Ak1] at hc
 obtain⟨c1,c2,c3,c4⟩:=hc
 generalize hids:X1 (Ai st.h) (Wi (Ai st.h) (gV K st.s++roots))=ids at *
 simp at h1
 have hn:=Qw c1
 have blk:∀ c y,Ai (Wk (Ai st.h) ids) c=some y→∃ b x,b ∈ ids∧Jz b=c∧Ai st.h b=some x∧x.dead=false∧y=K3 (Ai st.h) x:=by
  intro c y D
  obtain⟨b,x,G,L,S,T⟩:=Q' hn c y D
  have z:Ai st.h b=some x∧x.dead=false:=C1 (fun _ _ h=>h) S
  exact⟨b,x,G,L,z.1,z.2,T⟩
 have F:∀ x:Blk,(K3 (Ai st.h) x).cells.length=x.cells.length:=fun x=>by
  unfold K3;cases x.pure
  ·simp;exact Wo _ _
  ·rfl
 refine⟨fun c=>(gt ids c).bind β,?_⟩
 subst h1
 refine⟨⟨I.sim.jlt,I.sim.jft,I.sim.gl,fun c y D hd hm=>?_,fun c y D hd hm=>by
   obtain⟨b,x,A,rfl,z,e,rfl⟩:=blk c y D
   obtain⟨G,L,k,ob,S,T,g5,g6⟩:=I.sim.mblk b x z e hm
   have:(K3 (Ai st.h) x).cells=x.cells:=by unfold K3;rw[G];rfl
   exact⟨G,L,k,ob,by simp only[Kd hn A,Alj];exact S,T,by rw[ObjIs,show(K3 (Ai st.h) x).sz=x.sz from rfl,this];exact g5,g6⟩,?_⟩,⟨fun i v hv=>?_,fun i hi=>?_⟩,I.tmps,I.defers,I.os,I.tape,I.output,I.size,I.frame,?_,I.jsub,I.jup,I.sizes,I.zlt,I.zge,?_⟩
 ·obtain⟨b,x,A,rfl,z,e,rfl⟩:=blk c y D
  rcases I.sim.blk b x z e hm with⟨G,L⟩ | ⟨k,o,cs,ty,fr,G,L,S,T,g5,g6,g7⟩
  ·refine .inl ⟨by simp only[Kd hn A,Alj];exact G,?_⟩
   have:=F x;rw[L] at this;simpa using this
  ·refine .inr ⟨k,o,cs,ty,fr,by simp only[Kd hn A,Alj];exact G,L,S,by rw[F];exact T,⟨fun hp=>?_,fun hp j q hj=>?_⟩,g6,g7⟩
   ·have C:x.pure=true:=hp
    have:(K3 (Ai st.h) x).cells=x.cells:=by unfold K3;rw[C];rfl
    rw[this];exact g5.1 C
   ·have C:x.pure=false:=hp
    have:(K3 (Ai st.h) x).cells=Iw (Ai st.h) x.cells:=by unfold K3;rw[C];rfl
    rw[this] at hj
    obtain⟨q',hq,rfl⟩:=bZ hj
    obtain⟨u,hu,hr,ho⟩:=g5.2 C j q' hq
    exact⟨u,hu,Rep.clean hn (fun U M x' O=>Y_ c3 U (Y' A z C U (ZA hq U M)) x' O) hr,ho⟩
 ·intro c c' y y' k o o' D hy' hd hd' hs V X
  obtain⟨b,x,A,rfl,z,e,rfl⟩:=blk c y D
  obtain⟨U,x',M,rfl,O,hxd',rfl⟩:=blk c' y' hy'
  simp only[Kd hn A,Alj] at V
  simp only[Kd hn M,Alj] at X
  rw[I.sim.sep b U x x' k o o' z O e hxd' hs V X]
 ·rw[X3]
  split
  ·rename_i hk
   exact Rep.clean hn (fun b A x z=>Y_ c2 b (gv hk b A) x z) (I.ss.slot i v hv)
  ·rw[Rep];trivial
 ·rw[X3,I.ss.out i hi]
  split
  ·rfl
  ·rfl
 ·rintro k ⟨c,y,o,D,hd,hs,V⟩ hk
  obtain⟨b,x,A,rfl,z,e,rfl⟩:=blk c y D
  simp only[Kd hn A,Alj] at V
  exact I.wr k ⟨b,x,o,z,e,hs,V⟩ hk
 ·intro c x0 y h0 D hd
  obtain⟨b,x,A,rfl,z,e,rfl⟩:=blk c y D
  have hlt:=I.zlt _ _ h0
  have hge:=I.zge _ _ h0
  have hbo:Jz b=b:=by
   by_cases hnb:Gq≤b
   ·have:=sO c4 b A hnb;omega
   ·exact yk (by omega)
  rw[hbo] at h0
  obtain⟨⟨e1,em⟩,e2,e3,e4⟩:=I.outs b x0 x h0 z e
  refine⟨⟨?_,em⟩,e2,by rw[F];exact e3,e4⟩
  simp only[Kd hn A,Alj];rw[hbo];exact e1
end
end Gx
namespace Gx
open Go
section
variable {R:Type}
theorem Ak {α β:Type} (b:Bool) (x y:Option α) (f:α→Option β):(cond b x y).bind f=cond b (x.bind f) (y.bind f):=by cases b<;>rfl
theorem Uu {R':Type} (P:Program) (t:TypeId) (c:LA) (o:Bool) (k:Bool→Option R') (f:R'→O R):(Uq P t c o k).bind f=Uq P t c o fun o=>(k o).bind f:=by
 unfold Uq;simp only[Ak,An0]
theorem Qx (P:Program) (t:TypeId) (c:LA) (org:Bool) (k:AV→O R):IM P t c org k=(IM P t c org some).bind k:=by
 unfold IM
 split<;>simp[Akv,Ak,Uu]<;>rfl
theorem vG (P:Program) (t:TypeId) (c:LA) (k:AV→O R):bJ P t c k=(bJ P t c some).bind k:=by
 unfold bJ
 split<;>simp[Akv,Ak]
theorem b7 (n:Nat) (k:AV→O R):∀ (c:LA) (i:Nat),DH n k c i=(DH n some c i).bind k
 | [],_=>rfl
 | v::r,i=>by rw[DH,DH,Ak,b7 n k r (i+1)];rfl
theorem b8 (P:Program) (t:TypeId) (c:LA) (off:Nat) (k:AV→O R):IN P t c off k=(IN P t c off some).bind k:=by
 unfold IN
 split
 ·simp[Akv,Ak]
 ·simp[Akv,Ak]
 ·exact b7 ..
 ·rfl
theorem DV (P:Program) (g:A7) (t:TypeId) (p:AV) (k:AV→O R):gP P g t p k=(gP P g t p some).bind k:=by
 unfold gP
 split
 ·exact Qx ..
 ·rw[Akv]
  congr 1;funext x
  rw[Ak,←Qx,←b8]
 ·rfl
theorem GS (P:Program) (t:TypeId) (x i:AV) (k:AV→O R):Qo P t x i k=(Qo P t x i some).bind k:=by
 unfold Qo
 split<;>simp[Akv,Ak]
theorem GT (P:Program) (t:TypeId) (x:AV) (f:Nat) (k:AV→O R):Qp P t x f k=(Qp P t x f some).bind k:=by
 unfold Qp
 simp only[Akv,Ak]
 congr 1;funext p;congr 1;funext n;congr 1
 split<;>rfl
theorem b9 (P:Program) (t:TypeId) (x:AV) (f:Nat) (k:AV→O R):YG P t x f k=(YG P t x f some).bind k:=by
 unfold YG
 rw[Akv]
 congr 1;funext p
 split
 ·exact Qx ..
 ·exact vG ..
 ·rfl
theorem b_ (P:Program) (t:TypeId) (x i:AV) (k:AV→O R):YH P t x i k=(YH P t x i some).bind k:=by
 unfold YH
 split
 ·simp[Ak]
 ·simp only[Akv,Ak,←Qx];rfl
 ·simp only[Akv,Ak,←b8];rfl
 ·rfl
theorem Uv {α:Type} (lo hi mx:Option AV) (n:Nat) (f:Nat→Nat→α) (k:α→O R):(Ur lo hi mx n fun l h=>k (f l h))=(Ur lo hi mx n fun l h=>some (f l h)).bind k:=by
 unfold Ur
 simp[Akv,Ak]
theorem cA (P:Program) (g:A7) (t:TypeId) (x:AV) (lo hi mx:Option AV) (k:AV→O R):YI P g t x lo hi mx k=(YI P g t x lo hi mx some).bind k:=by
 unfold YI
 split
 ·rw[Ak,←Uv];rfl
 ·rw[Akv];congr 1;funext _;exact Uv lo hi mx 0 (fun _ _=>AV.nsl) k
 ·rw[Akv];congr 1;funext _;rw[Ak,←Uv];rfl
 ·rw[Akv];congr 1;funext _;rw[Akv];congr 1;funext _;rw[Ak,←Uv];rfl
 ·simp only[Akv,Ak];rfl
 ·rfl
theorem yl (P:Program) (t:TypeId) (op:BinOp) (x y:AV) (k:AV→O R):y9 P t op x y k=(y9 P t op x y some).bind k:=by
 unfold y9
 split
 ·split<;>simp[Ak]
 ·split<;>simp[Ak]
 ·split<;>simp[Ak]
 ·rfl
def pr (v:AV) (u:D3):Option (AV×D3):=some (v,u)
theorem sQ (P:Program) (g:A7) (t:TypeId) (p v:AV) (k:AV→D3→O R):YJ P g t p v k=(YJ P g t p v pr).bind fun q=>k q.1 q.2:=by
 unfold YJ
 split
 ·simp only[Akv,Ak]
  congr 1;funext x;congr 1;funext n;congr 1;congr 1
  split<;>simp[Ak,pr]
 ·rfl
theorem RB (P:Program) (c:LA) (org:Bool):∀ (L:List (Nat×TypeId)) (b:LA) (k:LA→O R),SP P c org L b k=(SP P c org L b some).bind k
 | [],b,k=>rfl
 | (off,t)::L,b,k=>by
  rw[SP,SP,Ak]
  congr 1
  rw[Qx,Qx (k:=fun v=>SP P c org L (b++[v]) some),Akv]
  congr 1;funext v
  exact RB P c org L _ k
theorem cB (P:Program) (co:Bool) (t:TypeId) (v:AV) (k:AV→O R):YL P co t v k=(YL P co t v some).bind k:=by
 unfold YL
 split
 ·rename_i c org
  rw[RB,RB (k:=fun l=>cond (beq c.length l.length) (some (AV.agg l)) none),Akv]
  congr 1;funext l
  rw[Ak];rfl
 ·rfl
theorem nz (P:Program) (g:A7) (d:Nat) (t:TypeId) (v:AV) (k:AV→D3→O R):rk P g d t v k=(rk P g d t v pr).bind fun q=>k q.1 q.2:=by
 unfold rk
 split<;>simp[Akv,Ak,pr]
theorem ZB (P:Program) (g:A7) (d:Nat) (t:TypeId) (len:Nat) (ps:List (Nat×AV)) (k:AV→D3→O R):Oh P g d t len ps k=(Oh P g d t len ps pr).bind fun q=>k q.1 q.2:=by
 unfold Oh
 split<;>simp[Akv,Ak,pr,AU]
theorem ei (P:Program) (g:A7) (d:Nat) (t:TypeId) (len:Nat) (ps:List (Nat×AV)) (k:AV→D3→O R):Qq P g d t len ps k=(Qq P g d t len ps pr).bind fun q=>k q.1 q.2:=by
 unfold Qq
 split<;>simp[Akv,Ak,pr]
theorem ym (P:Program) (t:TypeId) (co:Bool) (d:Nat) (v:AV) (k:AV→D3→O R):ya P t co d v k=(ya P t co d v pr).bind fun q=>k q.1 q.2:=by
 unfold ya
 split<;>simp[Ak,pr]
theorem vH (P:Program) (d:Nat) (t:TypeId) (l c:AV) (k:AV→D3→O R):ng P d t l c k=(ng P d t l c pr).bind fun q=>k q.1 q.2:=by
 unfold ng
 split<;>simp[Akv,Ak,pr]
theorem qE (P:Program) (g:A7) (d:Nat) (t tx:TypeId) (s x:AV) (k:AV→D3→O R):MM P g d t tx s x k=(MM P g d t tx s x pr).bind fun q=>k q.1 q.2:=by
 unfold MM QR
 split<;>simp[Akv,Ak,pr,Uu]
theorem cC {α:Type} (b:IntKind):∀ (n:Nat) (c:LA) (f:LA→Option α) (k:α→O R),QT b n c (fun l=>(f l).bind k)=(QT b n c f).bind k
 | 0,_,_,_=>rfl
 | n+1,c,f,k=>by
  simp only[QT,Akv]
  congr 1;funext x;congr 1;funext v
  exact cC b n _ (fun l=>f (.int b v::l)) k
theorem sR (P:Program) (e sz b off n:Nat) (y:Blk) (new:LA×Nat×Bool) (k:AV→D3→O R):YM P e sz b off n y new k=(YM P e sz b off n y new pr).bind fun q=>k q.1 q.2:=by
 unfold YM
 split
 ·rw[Ak,←cC];rfl
 ·rfl
theorem vI (P:Program) (g:A7) (t:TypeId) (s x:AV) (k:AV→D3→O R):nh P g t s x k=(nh P g t s x pr).bind fun q=>k q.1 q.2:=by
 unfold nh QR
 split
 ·simp only[Akv,Ak,Uu,←sR];rfl
 ·simp[Akv,Ak,pr,Uu]
 ·rfl
theorem qF (P:Program) (g:A7) (d:Nat) (t:TypeId) (k:AV→D3→O R):ML P g d t k=(ML P g d t pr).bind fun q=>k q.1 q.2:=by
 unfold ML
 split<;>simp[Ak,pr]
theorem sS (P:Program) (g:A7) (t:TypeId) (s:AV) (k:AV→D3→O R):YN P g t s k=(YN P g t s pr).bind fun q=>k q.1 q.2:=by
 unfold YN
 split<;>simp[Akv,Ak,pr]
theorem vJ (P:Program) (g:A7) (d:Nat) (src dst:TypeId) (x:AV) (k:AV→D3→O R):ni P g d src dst x k=(ni P g d src dst x pr).bind fun q=>k q.1 q.2:=by
 unfold ni
 split
 ·split<;>simp[Ak,pr]
 ·split
  ·split<;>simp[pr]
  ·split
   ·split<;>simp[Akv,pr]
   ·rfl
  ·rfl
 ·split
  ·rw[Ak,Akv];simp only[Ak];rfl
  ·rfl
  ·rfl
 ·rfl
theorem sT (P:Program) (g:A7) (d:Nat) (src dst:TypeId) (x:AV) (k:AV→D3→O R):YO P g d src dst x k=(YO P g d src dst x pr).bind fun q=>k q.1 q.2:=by
 unfold YO
 split
 ·split
  ·simp only[Akv,Ak];rfl
  ·rfl
 ·split
  ·simp only[Akv,Ak];rfl
  ·rfl
 ·exact vJ ..
theorem ek (g:A7) (x:AV) (k:AV→D3→O R):Qr g x k=(Qr g x pr).bind fun q=>k q.1 q.2:=by
 unfold Qr
 split
 ·rfl
 ·simp only[Akv,Ak];rfl
 ·rfl
theorem en (P:Program) (g:A7) (t:TypeId) (x n:AV) (k:AV→D3→O R):Qs P g t x n k=(Qs P g t x n pr).bind fun q=>k q.1 q.2:=by
 unfold Qs
 split
 ·rw[Ak];rfl
 ·simp only[Akv]
  congr 1;funext y;congr 1;funext q
  split
  ·simp only[Akv,Ak];rfl
  ·rfl
 ·rfl
theorem RC {R':Type} {f:R'→O R} {s1:TypeId→LA→LA→(Bool→Option R')→Option R'} {s2:TypeId→LA→LA→(Bool→O R)→O R} (hs:∀ t x y k,(s1 t x y k).bind f=s2 t x y fun b=>(k b).bind f) {x y:LA} :
  ∀ (l:List (Nat×TypeId)) (k:Bool→Option R'),(AL s1 x y l k).bind f=AL s2 x y l fun b=>(k b).bind f
 | [],k=>rfl
 | (o,t)::r,k=>by
  rw[AL,AL,hs]
  congr 1;funext b
  exact RC hs r _
theorem MT {R':Type} {f:R'→O R} (P:Program):∀ (d:Nat) (t:TypeId) (x y:LA) (k:Bool→Option R'),(eg P d t x y k).bind f=eg P d t x y fun b=>(k b).bind f
 | 0,t,x,y,k=>rfl
 | d+1,t,x,y,k=>by
  rw[eg,eg]
  split<;>simp only[Akv,Ak,An0]
  ·congr 1;funext sz;rw[RC (MT P d)]
  ·congr 1;funext s;congr 1;funext sz;rw[RC (MT P d)]
theorem vK (P:Program) (t:TypeId) (op:BinOp) (x y:AV) (k:AV→O R):na P t op x y k=(na P t op x y some).bind k:=by
 unfold na
 split
 ·rw[Akv]
  congr 1;funext s
  rw[Ak]
  congr 1
  split
  ·rw[MT];rfl
  ·rw[MT];rfl
  ·rfl
 ·exact yl ..
theorem gw (P:Program) (g:A7) (t:TypeId) (op:BinOp) (x y:AV) (k:AV→O R):np P g t op x y k=(np P g t op x y some).bind k:=by
 unfold np
 split
 ·rw[Ak];congr 1;split<;>rfl
 ·exact vK ..
theorem gy (c x y:AV) (k:AV→O R):nr c x y k=(nr c x y some).bind k:=by
 unfold nr
 split<;>first | rfl | (rw[Ak];rfl)
theorem sU (P:Program) (g:A7) (co:Bool) (d:Nat) (t:TypeId) (k:AV→D3→O R):YK P g co d t k=(YK P g co d t pr).bind fun q=>k q.1 q.2:=by
 unfold YK
 split
 ·rw[Akv];rfl
 ·exact nz ..
 ·rfl
theorem gz:∀ (T:List (Nat×Tw)) (f:Nat) (args:LA) (h:Ap) (k:AV→Ap→O R),SQ T f args h k=(SQ T f args h fun v h'=>some (v,h')).bind fun p=>k p.1 p.2
 | [],f,args,h,k=>rfl
 | (g,t)::r,f,args,h,k=>by
  rw[SQ,SQ]
  cases beq g f
  ·exact gz r f args h k
  ·exact t.eq args h k
theorem vL (E:Env) (g:A7) (d f:Nat) (args:LA) (k:AV→D3→O R):nq E g d f args k=(nq E g d f args pr).bind fun q=>k q.1 q.2:=by
 unfold nq
 rw[Akv]
 congr 1;funext q
 simp only[Ak,An0]
 congr 1
 rw[gz,gz (R:=AV×D3),Akv]
 congr 1;funext p
 simp only[Ak,An0,pr,Alj]
theorem lk (d:Nat) (o:Option AV) (k:AV→D3→O R):Wh d o k=(Wh d o pr).bind fun q=>k q.1 q.2:=by
 unfold Wh
 split<;>rfl
theorem sV (P:Program) (g:A7) (t:TypeId) (m x y:AV) (k:AV→D3→O R):YP P g t m x y k=(YP P g t m x y pr).bind fun q=>k q.1 q.2:=by
 unfold YP
 split<;>simp[Ak,Akv,pr]
theorem sW (P:Program) (d:Nat) (t:TypeId) (x:AV) (k:AV→D3→O R):YQ P d t x k=(YQ P d t x pr).bind fun q=>k q.1 q.2:=by
 unfold YQ
 split<;>rfl
theorem vM (g:A7) (it:AV) (b:Bool) (k:AV→D3→O R):nm g it b k=(nm g it b pr).bind fun q=>k q.1 q.2:=by
 unfold nm
 split
 ·rw[Akv];congr 1;funext x
  rw[Ak];congr 1
  split
  ·rename_i s p _
   cases decide (p<(s.length:Int))<;>rfl
  ·rfl
 ·rfl
theorem hI (P:Program) (g:A7) (t:TypeId) (m x:AV) (c:Bool) (k:AV→O R):nk P g t m x c k=(nk P g t m x c some).bind k:=by
 unfold nk
 split<;>simp[Ak,Akv]
theorem yn (E:Env) (g:A7) (d:Nat) (v:Operand→AV) (o:Op) (k:AV→D3→O R):ld E g d v o k=(ld E g d v o pr).bind fun q=>k q.1 q.2:=by
 unfold ld
 split
 ·rfl
 ·rfl
 ·rw[gy,gy (k:=fun r=>pr r []),Akv];rfl
 ·rw[Ak,←qF,←sU]
 ·rw[cB,cB (k:=fun u=>rk E.P g d _ u pr),Akv];congr 1;funext u;exact nz ..
 ·rw[QX,QX,Akv];congr 1;funext x;exact ym ..
 ·rw[Ak,←ei,←ZB]
 ·rw[DV,DV (k:=fun r=>pr r []),Akv];rfl
 ·exact sQ ..
 ·split<;>rfl
 ·rw[gw,gw (k:=fun r=>pr r []),Akv];rfl
 ·rw[Akv];rfl
 ·exact sT ..
 ·rw[Ak];rfl
 ·exact vH ..
 ·rw[cA,cA (k:=fun r=>pr r []),Akv];rfl
 ·rw[GT,GT (k:=fun r=>pr r []),Akv];rfl
 ·rw[b9,b9 (k:=fun r=>pr r []),Akv];rfl
 ·rw[GS,GS (k:=fun r=>pr r []),Akv];rfl
 ·rw[b_,b_ (k:=fun r=>pr r []),Akv];rfl
 ·exact lk ..
 ·exact sV ..
 ·rw[hI,hI (k:=fun r=>pr r []),Akv];rfl
 ·exact sW ..
 ·exact vM ..
 ·split
  ·rw[Akv];rfl
  ·rfl
 ·split
  ·split
   ·rw[Akv];rfl
   ·rfl
  ·split
   ·exact qE ..
   ·rfl
  ·split
   ·exact vI ..
   ·rfl
  ·split
   ·exact sS ..
   ·rfl
  ·split
   ·rw[Akv];rfl
   ·simp only[Akv];rfl
   ·rfl
  ·split
   ·rw[Akv];rfl
   ·simp only[Akv];rfl
   ·rfl
  ·split
   ·exact ek ..
   ·rfl
  ·split
   ·exact en ..
   ·rfl
  ·split
   ·rw[Ak,←vL,Ak];congr 1;congr 1
    split<;>rfl
   ·rfl
  ·rfl
 ·rfl
end
end Gx
namespace Gx
open Go
theorem AX:∀ {l j:List Nat} {b:Nat},b ∈ bM l j↔b ∈ l∨b ∈ j
 | [],j,b=>by simp[bM]
 | i::r,j,b=>by
  rw[bM]
  cases k:Hq j i with
  | true =>
   simp only[cond_true]
   rw[AX]
   have:=J3.1 k
   constructor
   ·rintro(h | h)
    ·exact .inl (by simp[h])
    ·exact .inr h
   ·rintro(h | h)
    ·rcases Alb.1 h with e | h
     ·subst e;exact .inr this
     ·exact .inl h
    ·exact .inr h
  | false =>
   simp only[cond_false]
   rw[AX]
   simp only[Alb]
   constructor
   ·rintro(h | h | h)
    ·exact .inl (.inr h)
    ·exact .inl (.inl h)
    ·exact .inr h
   ·rintro((h | h) | h)
    ·exact .inr (.inl h)
    ·exact .inl h
    ·exact .inr (.inr h)
theorem X4 {g g':A7}:∀ {l:List Nat},(∀ b ∈ l,g' b=g b)→Jy g' l=Jy g l
 | [],_=>rfl
 | i::r,h=>by
  rw[Jy,Jy,h i (by simp),X4 (fun b e=>h b (by simp[e]))]
theorem TB {g:A7}:∀ {a b:List Nat},Jy g (a++b)=Jy g a++Jy g b
 | [],b=>rfl
 | i::r,b=>by rw[Alh,Jy,Jy,TB,Ami]
theorem sX {g g':A7} {ids:List Nat} (h:∀ b ∈ Wi g ids,g' b=g b):Wi g' ids=Wi g ids:=by
 have j:∀ b ∈ ids,g' b=g b:=fun b e=>h b (AX.2 (.inl (Ak2.2 (.inl e))))
 have e1:Jy g' ids=Jy g ids:=X4 j
 have k:∀ b ∈ Jy g ids,g' b=g b:=fun b e=>h b (AX.2 (.inl (Ak2.2 (.inr (by rw[TB];exact Ak2.2 (.inl e))))))
 unfold Wi
 rw[e1,X4 (l:=ids++Jy g ids) (fun b e=>by
  rcases Ak2.1 e with e | e
  ·exact j b e
  ·exact k b e)]
section
variable {R:Type} {E:Env} {ops:Array Oper} {o p:Oper} {st Ad7 st2:St}
theorem cD {v v':Operand→AV} {parts:Array (Nat×Operand)} (h:∀ q ∈ parts.toList,v' q.2=v q.2):(parts.toList.map fun q=>(q.1,v' q.2))=(parts.toList.map fun q=>(q.1,v q.2)) :=
 Anq (fun q hq=>by rw[h q hq])
theorem vN {g:A7} {d:Nat} {v v':Operand→AV} {op:Op} {k:AV→D3→O R} (h:∀ x ∈ op.operands.toList,v' x=v x):ld E g d v' op k=ld E g d v op k:=by
  unfold ld
  cases op
  case build t parts =>
    simp only
    rw[cD (v:=v) (v':=v') (fun q hq=>h q.2 (by simp[Op.operands];exact⟨q.1,by simpa using hq⟩))]
  case buildSlice t n parts =>
    simp only
    rw[cD (v:=v) (v':=v') (fun q hq=>h q.2 (by simp[Op.operands];exact⟨q.1,by simpa using hq⟩))]
  case slice t x lo hi mx =>
    simp only
    have e:v' x=v x:=h x (by simp[Op.operands])
    have u:lo.map v'=lo.map v:=by
      cases lo with
      | none=>rfl
      | some y=>simp;exact h y (by simp[Op.operands])
    have z:hi.map v'=hi.map v:=by
      cases hi with
      | none=>rfl
      | some y=>simp;exact h y (by simp[Op.operands])
    have A:mx.map v'=mx.map v:=by
      cases mx with
      | none=>rfl
      | some y=>simp;exact h y (by simp[Op.operands])
    rw[e,u,z,A]
  case makeMap t rr =>
    simp only
    have e:rr.map v'=rr.map v:=by
      cases rr with
      | none=>rfl
      | some y=>simp;exact h y (by simp[Op.operands])
    rw[e]
  case makeFunc f first caps =>
    cases f<;>try rfl
    simp only
    have:(first.toList++caps.toList).map v'=(first.toList++caps.toList).map v:=Anq (fun x s=>h x (by simp[Op.operands];simpa using s))
    rw[this]
  case call c =>
    have j:∀ x ∈ c.args.toList,v' x=v x:=fun x s=>h x (by
      simp only[Op.operands,Call.operands,Array.toList_append]
      exact Ak2.2 (.inr s))
    have C:c.args.toList.map v'=c.args.toList.map v:=Anq j
    simp only
    cases D:c.callee with
    | value f =>
      have F:v' f=v f:=h f (by simp[Op.operands,Call.operands,D])
      simp only[F,C]
    | invoke a b=>rfl
    | builtin b =>
      cases b<;>try rfl
      all_goals
        simp only
        split
        · first
            | (rename_i e u
               simp only[e,Alb,Aop,or_false,forall_eq_or_imp,forall_eq] at j
               simp only[j])
            | (rename_i e
               simp only[e,Alb,Aop,or_false,forall_eq_or_imp,forall_eq] at j
               simp only[j])
        all_goals first
          | rfl
          | (rename_i e
             simp only[e,Alb,Aop,or_false,forall_eq_or_imp,forall_eq] at j
             simp only[j])
  all_goals first
    | rfl
    | (simp[Op.operands] at h;simp[h])
end
end Gx
namespace Gx
open Go
section
variable {R:Type} {E:Env} {ops:Array Oper} {o p:Oper} {st Ad7 st2 st3:St}
def xg (ops:Array Oper) (o:Oper):List Nat:=match MN ops o with | some p=>[p.1] | none=>[]
def Zu (o:Oper) (s:F8):LA:=o.op.operands.toList.map (ev s)
def qG (h:Ap) (F:List Nat):A7:=fun b=>cond (Hq F b) (Ai h b) none
def Aju (o:Oper):Nat:=o.dst.getD 50000
def Qg (E:Env) (ops:Array Oper) (o:Oper) (st:St):Option (AV×D3×Foot) :=
  (DK ops st.s o).bind fun wanted=>cond wanted
    ((ld E (qG st.h (T6 st.h o.op (Zu o st.s))) (Aju o) (ev st.s) o.op pr).bind fun q =>
      cond (OT (Aju o) (T6 st.h o.op (Zu o st.s)) st.h q.2) (some (q.1,q.2,{ r:=xg ops o++QV o.op.operands.toList,w:=o.dst,f:=T6 st.h o.op (Zu o st.s),u:=q.2.map (·.1) })) none)
    (some (.tup [],[],{ r:=xg ops o,w:=o.dst,f:=[],u:=[] }))
def after (E:Env) (o:Oper) (st:St) (q:AV×D3×Foot):St:={ s:=ut E.nt st.s o.dst q.1,h:=Aj q.2.1 st.h }
theorem MU (k:St→Foot→O R):rp E ops o st k=(Qg E ops o st).bind fun q=>k (after E o st q) q.2.2:=by
 unfold rp Qg
 rw[Akv]
 congr 1;funext t
 rw[Ak]
 congr 1
 rw[yn,Akv]
 congr 1;funext q
 rw[Ak]
 rfl
theorem hY:∀ {l:List Operand} {t:Nat},Operand.tmp t ∈ l→t ∈ QV l
 | [],t,h=>by simp at h
 | x::r,t,h=>by
  rcases Alb.1 h with e | h'
  ·subst e;simp[QV]
  ·have b:=hY h'
   cases x<;>simp[QV]<;>first | exact .inr b | exact b
theorem cE {d:Nat} {F:List Nat} {h e:Ap}:∀ {ups:D3},(∀ b ∈ ups.map (·.1),Ai e b=Ai h b)→OT d F e ups=OT d F h ups
 | [],_=>rfl
 | (b,_)::r,hh=>by rw[OT,OT,hh b (by simp),cE (fun c j=>hh c (by simp at j ⊢;exact .inr j))]
theorem O_ {s s2:F8} (h:∀ t ∈ xg ops o,Fn s2 t=Fn s t):DK ops s2 o=DK ops s o:=by
 unfold DK
 cases b:o.guard with
 | none=>rfl
 | some q =>
  obtain⟨j,want⟩:=q
  simp only
  cases e:(ops[j]?).bind (·.dst) with
  | none=>rfl
  | some t =>
   have:Fn s2 t=Fn s t:=h t (by simp[xg,MN,b,e])
   simp only[this]
theorem JB {q:AV×D3×Foot} (A:Qg E ops o st=some q) (hr:∀ t ∈ q.2.2.r,Fn st2.s t=Fn st.s t) (e:∀ b,b ∈ q.2.2.f∨b ∈ q.2.2.u→Ai st2.h b=Ai st.h b):Qg E ops o st2=some q:=by
 have I:=A
 unfold Qg at A
 obtain⟨t,v,z⟩:=ub A
 cases t with
 | false =>
  simp at z;subst z
  unfold Qg
  rw[O_ (s:=st.s) hr,v];rfl
 | true =>
  rw[cond_true] at z
  obtain⟨x,K,L⟩:=ub z
  obtain⟨M,F⟩:=uc L
  simp at F;subst F
  simp only at hr e
  have G:∀ y ∈ o.op.operands.toList,ev st2.s y=ev st.s y:=fun y O=>by
   cases y with
   | tmp t=>exact hr t (Ak2.2 (.inr (hY O)))
   | const _=>rfl
   | global _=>rfl
   | func _=>rfl
  have j:Zu o st2.s=Zu o st.s:=Anq G
  have hF:T6 st2.h o.op (Zu o st.s)=T6 st.h o.op (Zu o st.s):=by
   unfold T6 at e ⊢
   cases C:x9 o.op with
   | true =>
    rw[C] at e
    cases D:x_ o.op with
    | true=>rfl
    | false=>rw[D] at e;exact sX (fun b k=>e b (.inl k))
   | false=>rfl
  have S:qG st2.h (T6 st.h o.op (Zu o st.s))=qG st.h (T6 st.h o.op (Zu o st.s)):=by
   funext b
   unfold qG
   cases k:Hq (T6 st.h o.op (Zu o st.s)) b with
   | false=>rfl
   | true=>simp only[cond_true];exact e b (.inl (J3.1 k))
  unfold Qg
  rw[O_ (s:=st.s) (fun t v=>hr t (Ak2.2 (.inl v))),v]
  simp only[Alj,cond_true]
  rw[j,hF,S,vN G,K]
  simp only[Alj]
  rw[cE (h:=st.h) (fun b k=>e b (.inr k)),M]
  rfl
theorem MV:∀ {ups:D3} {b:Nat},A3 ups b=true↔b ∈ ups.map (·.1)
 | [],b=>by simp[A3]
 | (i,_)::r,b=>by
  rw[A3]
  cases hi:beq i b with
  | true=>have:=Ak0 hi;subst this;simp
  | false =>
   have ne:=Ug hi
   simp only[cond_false]
   rw[MV]
   simp only[Ak9,Alb]
   constructor
   ·exact fun h=>.inr h
   ·rintro(h | h)
    ·exact absurd h.symm ne
    ·exact h
theorem xh {q:AV×D3×Foot} (e:Qg E ops o st=some q):q.2.2.w=o.dst∧q.2.2.u=q.2.1.map (·.1):=by
 unfold Qg at e
 obtain⟨t,s,b⟩:=ub e
 cases t with
 | false=>simp at b;subst b;simp
 | true =>
  rw[cond_true] at b
  obtain⟨x,v,k⟩:=ub b
  obtain⟨y,j⟩:=uc k
  simp at j;subst j;simp
theorem Ga:∀ (ups:D3) {h e:Ap},(∀ b,Ai e b=Ai h b)→∀ b,Ai (Aj ups e) b=Ai (Aj ups h) b
 | [],_,_,hh,b=>hh b
 | (i,some x)::r,h,e,hh,b=>Ga r (fun c=>by rw[Ad,Ad,hh c]) b
 | (i,none)::r,h,e,hh,b=>by
  rw[Aj,Aj]
  refine Ga r (fun c=>?_) b
  rw[hh i]
  split
  ·rw[Ad,Ad,hh c]
  ·exact hh c
theorem sY {q:AV×D3×Foot} (h:Eqv st st2):Eqv (after E o st q) (after E o st2 q):=by
 refine⟨fun t=>?_,fun b=>?_⟩
 ·unfold after;simp only;rw[Md,Md,h.1 t]
 ·exact(Ga q.2.1 (fun b=>(h.2 b).symm) b).symm
theorem Pc {i:Nat} {y:Blk}:∀ (ups:D3) {h:Ap},A3 ups i=false→∀ b,Ai (Aj ups (Dp h i y)) b=if b=i then some y else Ai (Aj ups h) b
 | [],h,_,b=>Ad h i y b
 | (j,some x)::r,h,hi,b=>by
  rw[A3] at hi
  cases e:beq j i with
  | true=>rw[e] at hi;simp at hi
  | false =>
   rw[e] at hi
   have ne:=Ug e
   rw[Aj,Aj,Ga r (h:=Dp (Dp h j x) i y) (fun c=>by
    rw[Ad,Ad,Ad,Ad]
    by_cases e1:c=j
    ·subst e1;simp[ne]
    ·simp[e1]) b]
   exact Pc r hi b
 | (j,none)::r,h,hi,b=>by
  rw[A3] at hi
  cases e:beq j i with
  | true=>rw[e] at hi;simp at hi
  | false =>
   rw[e] at hi
   have ne:=Ug e
   rw[Aj,Aj,Ad,if_neg ne]
   split
   ·rename_i x k
    rw[Ga r (h:=Dp (Dp h j { x with dead:=true,pure:=true,cells:=[] }) i y) (fun c=>by
     rw[Ad,Ad,Ad,Ad]
     by_cases e1:c=j
     ·subst e1;simp[ne]
     ·simp[e1]) b]
    exact Pc r hi b
   ·exact Pc r hi b
theorem R6:∀ (u1 u2:D3) (h:Ap),(∀ b,A3 u1 b=true→A3 u2 b=false)→∀ b,Ai (Aj u2 (Aj u1 h)) b=Ai (Aj u1 (Aj u2 h)) b
 | [],u2,h,_,b=>rfl
 | (i,some x)::r,u2,h,e,b=>by
  rw[Aj,Aj]
  have hi:A3 u2 i=false:=e i (by simp[A3])
  rw[R6 r u2 (Dp h i x) (fun c j=>e c (by rw[A3,j];cases beq i c<;>rfl)) b]
  refine Ga r (fun c=>?_) b
  rw[Pc u2 hi,Ad]
 | (i,none)::r,u2,h,e,b=>by
  rw[Aj,Aj]
  have hi:A3 u2 i=false:=e i (by simp[A3])
  rw[B9 u2 h i hi]
  split
  ·rename_i x k
   rw[R6 r u2 _ (fun c j=>e c (by rw[A3,j];cases beq i c<;>rfl)) b]
   refine Ga r (fun c=>?_) b
   rw[Pc u2 hi,Ad]
  ·exact R6 r u2 h (fun c j=>e c (by rw[A3,j];cases beq i c<;>rfl)) b
theorem hZ:∀ {a l:List Nat},ro a l=true→∀ b ∈ a,b ∉ l
 | [],l,_,b,j=>by simp at j
 | i::r,l,h,b,j=>by
  rw[ro] at h;simp at h
  rcases Alb.1 j with e | j
  ·subst e;intro k;rw[J3.2 k] at h;simp at h
  ·exact hZ h.2 b j
theorem h_ {q:AV×D3×Foot} {t:Nat} (h:o.dst≠some t):Fn (after E o st q).s t=Fn st.s t:=by
 unfold after;simp only;rw[Md,if_neg (fun hh=>h hh.1)]
theorem iA {q:AV×D3×Foot} {b:Nat} (h:b ∉ q.2.1.map (·.1)):Ai (after E o st q).h b=Ai st.h b:=by
 unfold after;simp only
 rw[B9]
 cases hi:A3 q.2.1 b with
 | false=>rfl
 | true=>exact absurd (MV.1 hi) h
theorem oA {w:Option Nat} {l:List Nat} (h:Ah4 w l=false):∀ t ∈ l,w≠some t:=by
 intro t b e
 subst e
 rw[Ah4,J3.2 b] at h;cases h
theorem Aic {k e:AV×D3×Foot} (z:Qg E ops p st=some k) (A:Qg E ops o (after E p st k)=some e) (hi:bO k.2.2 e.2.2=true) :
  Qg E ops o st=some e∧Qg E ops p (after E o st e)=some k∧Eqv (after E p (after E o st e) k) (after E o (after E p st k) e):=by
 unfold bO at hi
 simp only[Ak1,Aof] at hi
 obtain⟨⟨⟨⟨i1,i2⟩,i3⟩,i4⟩,i5⟩:=hi
 obtain⟨C,u1⟩:=xh z
 obtain⟨D,u2⟩:=xh A
 have v:=hZ i4
 have F:=hZ i5
 have a1:Qg E ops o st=some e:=JB A (fun t y=>(h_ (by rw[←C];exact oA i1 t y)).symm) (fun b j=>(iA (fun s=>by
  rw[←u1] at s
  exact v b s (by rcases j with j | j<;>simp[j]))).symm)
 have a2:Qg E ops p (after E o st e)=some k:=JB z (fun t y=>h_ (by rw[←D];exact oA i2 t y)) (fun b j=>iA (fun s=>by
  rw[←u2] at s
  rcases j with j | j
  ·exact F b s j
  ·exact v b j (by simp[s])))
 refine⟨a1,a2,fun t=>?_,fun b=>?_⟩
 ·unfold after;simp only
  rw[Md,Md,Md,Md]
  by_cases e1:p.dst=some t∧t<E.nt
  ·by_cases q:o.dst=some t∧t<E.nt
   ·exfalso
    rw[C,D,e1.1,q.1] at i3
    simp at i3
   ·rw[if_pos e1,if_neg q,if_pos e1]
  ·by_cases q:o.dst=some t∧t<E.nt
   ·rw[if_neg e1,if_pos q,if_pos q]
   ·rw[if_neg e1,if_neg q,if_neg q,if_neg e1]
 ·unfold after;simp only
  refine(R6 k.2.1 e.2.1 st.h (fun c G=>?_) b).symm
  cases I:A3 e.2.1 c with
  | false=>rfl
  | true =>
   have m1:c ∈ k.2.2.u:=by rw[u1];exact MV.1 G
   have m2:c ∈ e.2.2.u:=by rw[u2];exact MV.1 I
   exact absurd (by simp[m2]) (v c m1)
def RunF (E:Env) (ops:Array Oper) (fp:Nat→Foot):List (Nat×Oper)→St→St→Prop
 | [],st,e=>Eqv st e
 | (i,o)::r,st,e=>∃ q,Qg E ops o st=some q∧q.2.2=fp i∧RunF E ops fp r (after E o st q) e
theorem RunF.congr {fp:Nat→Foot}:∀ {l:List (Nat×Oper)} {st st2 e:St},RunF E ops fp l st e→Eqv st st2→RunF E ops fp l st2 e
 | [],st,st2,e,h,j=>j.symm.trans h
 | (i,o)::r,st,st2,e,h,j=>by
  rw[RunF] at h ⊢
  obtain⟨q,k,s,u⟩:=h
  exact⟨q,JB k (fun t _=>(j.1 t).symm) (fun b _=>(j.2 b).symm),s,RunF.congr u (sY j)⟩
theorem RunF.pull {fp:Nat→Foot} {i:Nat} {o:Oper} {B:List (Nat×Oper)}:∀ {A:List (Nat×Oper)} {st e:St},RunF E ops fp (A++(i,o)::B) st e→(∀ jp ∈ A,bO (fp jp.1) (fp i)=true) →
  ∃ q,Qg E ops o st=some q∧q.2.2=fp i∧RunF E ops fp (A++B) (after E o st q) e
 | [],st,e,h,_=>h
 | (j,p)::A,st,e,h,hA=>by
  rw[Alh,RunF] at h
  obtain⟨b,v,k,y⟩:=h
  obtain⟨s,z,u,C⟩:=RunF.pull y (fun jp D=>hA jp (by simp[D]))
  have hi:bO b.2.2 s.2.2=true:=by rw[k,u];exact hA (j,p) (by simp)
  obtain⟨a1,a2,a3⟩:=Aic v z hi
  refine⟨s,a1,u,?_⟩
  rw[Alh,RunF]
  exact⟨b,a2,k,RunF.congr C a3.symm⟩
end
end Gx
namespace Gx
open Go
def N':Nat→List Oper→List (Nat×Oper)
 | _,[]=>[]
 | n,o::r=>(n,o)::N' (n+1) r
theorem gD:∀ {l:List Oper} {n:Nat} {p:Nat×Oper},p ∈ N' n l↔n≤p.1∧l[p.1 - n]?=some p.2
 | [],n,p=>by simp[N']
 | o::r,n,p=>by
  rw[N',Alb,gD]
  constructor
  ·rintro(rfl | ⟨k,j⟩)
   ·simp
   ·refine⟨by omega,?_⟩
    rw[show p.1 - n=(p.1 - (n+1))+1 by omega];simpa using j
  ·rintro⟨k,j⟩
   by_cases e:p.1=n
   ·left
    rw[e] at j;simp at j
    obtain⟨a,b⟩:=p
    simp at e j;subst e j;rfl
   ·right
    refine⟨by omega,?_⟩
    rw[show p.1 - n=(p.1 - (n+1))+1 by omega] at j;simpa using j
theorem iB:∀ (l:List Oper) (n:Nat),(N' n l).Pairwise (fun a b=>a.1<b.1)
 | [],n=>List.Pairwise.nil
 | o::r,n=>by
  rw[N']
  refine Aob.2 ⟨fun p e=>?_,iB r (n+1)⟩
  have:=(gD.1 e).1
  show n<p.1;omega
section
variable {R:Type} {r:R} {Z:Start} {E:Env} {ops:Array Oper}
def RunL (E:Env) (ops:Array Oper):List Oper→List Foot→St→St→Prop
 | [],[],st,e=>st=e
 | o::l,f::fs,st,e=>∃ st' q,Eqv st st'∧Qg E ops o st'=some q∧q.2.2=f∧RunL E ops l fs (after E o st' q) e
 | _,_,_,_=>False
theorem sZ:∀ {l:List Oper} {st:St} {tr:List Foot} {k:St→List Foot→O R},gU E ops l st tr k=some r→∃ fs e,k e (fs.reverse++tr)=some r∧RunL E ops l fs st e
 | [],st,tr,k,h=>⟨[],st,by simpa[gU] using h,rfl⟩
 | o::l,st,tr,k,h=>by
  rw[gU] at h
  obtain⟨st',b,h⟩:=gq h
  rw[MU] at h
  obtain⟨q,j,s⟩:=ub h
  obtain⟨fs,e,u,v⟩:=sZ s
  exact⟨q.2.2::fs,e,by simpa using u,st',q,b,j,rfl,v⟩
theorem RunL.length:∀ {l:List Oper} {fs:List Foot} {st e:St},RunL E ops l fs st e→fs.length=l.length
 | [],[],_,_,_=>rfl
 | [],_::_,_,_,h=>h.elim
 | _::_,[],_,_,h=>h.elim
 | o::l,f::fs,st,e,⟨_,q,_,_,_,h⟩=>by simp[RunL.length h]
theorem RunL.runF {fp:Nat→Foot}:∀ {l:List Oper} {fs:List Foot} {n:Nat} {st e:St},RunL E ops l fs st e→(∀ (j:Nat) (f:Foot),fs[j]?=some f→fp (n+j)=f)→RunF E ops fp (N' n l) st e
 | [],[],n,st,e,h,_=>by subst h;exact Eqv.refl _
 | [],_::_,_,_,_,h,_=>h.elim
 | _::_,[],_,_,_,h,_=>h.elim
 | o::l,f::fs,n,st,e,⟨st',q,k,s,u,v⟩,b=>by
  rw[N']
  refine RunF.congr ?_ k.symm
  rw[RunF]
  refine⟨q,s,by rw[u];exact(b 0 f (by simp)).symm,RunL.runF v (fun j g y=>?_)⟩
  have:=b (j+1) g (by simpa using y)
  rwa [show n+(j+1)=n+1+j by omega] at this
theorem cF {f:Foot} {anc:List Nat}:∀ {seen:List Foot} {i:Nat},ST f anc i seen=true→∀ (j:Nat) (g:Foot),seen[j]?=some g→(i+j) ∈ anc∨bO g f=true
 | [],i,_,j,g,b=>by simp at b
 | x::r,i,h,j,g,b=>by
  rw[ST] at h;simp only[Ak1,Bool.or_eq_true] at h
  cases j with
  | zero =>
   simp at b;subst b
   rcases h.1 with e | e
   ·exact .inl (J3.1 e)
   ·exact .inr e
  | succ j =>
   have:=cF h.2 j g (by simpa using b)
   rwa [show i+1+j=i+(j+1) by omega] at this
theorem iC:∀ {fs:List Foot} {az9:List (List Nat)} {seen:List Foot},MO fs az9 seen=true→∀ (i:Nat) (f:Foot),fs[i]?=some f →
  ∃ a,az9[i]?=some a∧∀ (j:Nat) (g:Foot),(seen++fs)[j]?=some g→j<seen.length+i→j ∈ a∨bO g f=true
 | [],az9,seen,_,i,f,b=>by simp at b
 | x::r,[],seen,h,i,f,b=>by simp[MO] at h
 | x::r,a::az9,seen,h,i,f,b=>by
  rw[MO] at h;simp only[Ak1] at h
  cases i with
  | zero =>
   simp at b;subst b
   refine⟨a,by simp,fun j g e k=>?_⟩
   rw[Alo,if_pos (by omega)] at e
   simpa using cF h.1 j g e
  | succ i =>
   obtain⟨q,s,u⟩:=iC h.2 i f (by simpa using b)
   refine⟨q,by simpa using s,fun j g e k=>u j g ?_ (by simp;omega)⟩
   simpa using e
theorem Zv:∀ {l:List Oper} {b:List (List Nat)} {i:Nat},i<b.length→(F2 l b)[i]?=b[i]?
 | [],b,i,_=>rfl
 | o::r,b,i,hi=>by
  rw[F2,AR,Zv (by simp;omega),Alo,if_pos hi]
theorem DW:∀ {l:List Oper} {b:List (List Nat)} {i:Nat} {a:List Nat},(F2 l b)[i]?=some a→b.length≤i→∃ o,l[i - b.length]?=some o ∧
  ∀ k ∈ a,k ∈ DL o∨∃ j u,j ∈ DL o∧j<i∧(F2 l b)[j]?=some u∧k ∈ u
 | [],b,i,a,h,hi=>by
  rw[F2,Aml hi] at h;cases h
 | o::r,b,i,a,h,hi=>by
  by_cases e:i=b.length
  ·subst e
   rw[F2,AR,Zv (by simp)] at h
   simp only[List.getElem?_concat_length,Alx] at h
   refine⟨o,by simp,fun k q=>?_⟩
   rw[←h,AX] at q
   replace q:=q.resolve_right (by simp)
   rcases Ak2.1 q with q | q
   ·exact .inl q
   ·right
    obtain⟨j,z,q⟩:=List.mem_flatMap.1 q
    cases v:b[j]? with
    | none=>rw[v] at q;simp at q
    | some u =>
     rw[v] at q;simp at q
     have s:j<b.length:=(Ak4.1 v).1
     exact⟨j,u,z,s,by rw[Zv s];exact v,q⟩
  ·rw[F2,AR] at h
   obtain⟨o',y,A⟩:=DW h (by simp;omega)
   refine⟨o',?_,fun k q=>?_⟩
   ·simp at y
    rw[show i - b.length=(i - (b.length+1))+1 by omega];simpa using y
   ·rw[F2,AR];exact A k q
theorem TC:∀ {l:List Oper} {n i:Nat} {o:Oper},V7 n l=true→l[i]?=some o→∀ e ∈ o.after,IU e=true→e.on<n+i
 | [],n,i,o,_,hi,_,_,_=>by simp at hi
 | x::r,n,i,o,h,hi,e,b,j=>by
  rw[V7] at h;simp only[Ak1] at h
  cases i with
  | zero =>
   simp at hi;subst hi
   have:=Ams.1 h.1 e (by simpa using b)
   rw[j] at this;simpa using this
  | succ i =>
   have:=TC h.2 (by simpa using hi) e b j
   omega
theorem oB (e:Edge):Region.binds .any e=IU e:=by
 unfold Region.binds IU
 cases e.ground<;>rfl
theorem vO {listed:Array Bool} (hclosed:∀ (j:Nat) (o:Oper),ops[j]?=some o→listed.getD j true=true→∀ k ∈ DL o,listed.getD k false=true) :
  ∀ (i:Nat) (a:List Nat) (o:Oper),(F2 ops.toList [])[i]?=some a→ops[i]?=some o→(∀ k ∈ DL o,listed.getD k false=true)→∀ k ∈ a,listed.getD k false=true:=by
 intro i
 induction i using Nat.strongRecOn with
 | _ i C =>
  intro a o D F y k G
  obtain⟨o',s,I⟩:=DW D (by simp)
  simp at s
  rw[F] at s;simp at s;subst s
  rcases I k G with u | ⟨j,K,u,L,z,M⟩
  ·exact y k u
  ·have e:=y j u
   obtain⟨oj,q,_⟩:=DW z (by simp)
   simp at q
   have v:listed.getD j true=true:=by
    rw[Amu] at e ⊢
    cases A:listed[j]? with
    | none=>rw[A] at e;simp at e
    | some b=>rw[A] at e;simpa using e
   exact C j L K oj z q (hclosed j oj q v) k M
def Ta (ops:Array Oper) (listed:Array Bool):List (Nat×Oper):=(N' 0 ops.toList).filter fun p=>!listed.getD p.1 true
theorem JC (listed:Array Bool):(Ta ops listed).Pairwise (fun a b=>a.1<b.1):=(iB _ _).filter _
theorem AY {listed:Array Bool} {p:Nat×Oper}:p ∈ Ta ops listed↔ops[p.1]?=some p.2∧listed.getD p.1 true=false:=by
 unfold Ta
 rw[Amy,gD]
 simp
theorem s5 {listed:Array Bool} {i:Nat} {o:Oper} {A B:List (Nat×Oper)} (h:Ta ops listed=A++(i,o)::B):Ta ops (listed.setIfInBounds i true)=A++B:=by
 have hi:(i,o) ∈ Ta ops listed:=by rw[h];simp
 have b:=(AY.1 hi).2
 have k:i<listed.size:=by
  rw[Amu] at b
  rcases An7 i listed.size with q | q
  ·exact q
  ·rw[Alk q] at b;simp at b
 have u:Ta ops (listed.setIfInBounds i true)=(Ta ops listed).filter fun p=>!beq p.1 i:=by
  unfold Ta
  rw[List.filter_filter]
  congr 1;funext p
  by_cases e:p.1=i
  ·rw[e];simp[k]
  ·rw[getD_set_ne true (fun v=>e v.symm),IE e];simp
 rw[u,h,List.filter_append,Amg]
 have hs:=JC (ops:=ops) listed
 rw[h] at hs
 have j:=Ao7.1 hs
 have hB:=Aob.1 j.2.1
 have e1:A.filter (fun p=>!beq p.1 i)=A:=Anp.2 (fun p s=>by
  have:p.1<i:=j.2.2 p s (i,o) (by simp)
  rw[IE (by omega)];rfl)
 have y:B.filter (fun p=>!beq p.1 i)=B:=Anp.2 (fun p s=>by
  have:i<p.1:=hB.1 p s
  rw[IE (by omega)];rfl)
 rw[e1,y];simp
theorem yo (hC:QZ E) {Q:Exit→Act→World→Prop} {fp:Nat→Foot} {e:St} (hfw:V7 0 ops.toList=true)
  (S:∀ (i j:Nat) (o:Oper),ops[i]?=some o→j<i→∃ a,(F2 ops.toList [])[i]?=some a∧(j ∈ a∨bO (fp j) (fp i)=true))
  (hQ:∀ a' w' J' β',Inv Z E.nt J' β' e a' w'→Q .normal a' w') :
  ∀ (fuel:Nat) (listed:Array Bool) {st:St} {a:Act} {w:World} {J:Bool→Nat→Prop} {β:B5},listed.size=ops.size→(Ta ops listed).length=fuel →
   (∀ (j:Nat) (o:Oper),ops[j]?=some o→listed.getD j true=true→∀ k ∈ DL o,listed.getD k false=true) →
   RunF E ops fp (Ta ops listed) st e→Inv Z E.nt J β st a w→wpAny E.P .any ops Q fuel listed a w:=by
 intro fuel
 have fin:∀ (listed:Array Bool) {st:St} {a:Act} {w:World} {J:Bool→Nat→Prop} {β:B5},Ta ops listed=[]→RunF E ops fp (Ta ops listed) st e→Inv Z E.nt J β st a w→Region.ready .any ops listed=[]∧Q .normal a w:=by
  intro listed st a w J β hr u I
  refine⟨List.eq_nil_iff_forall_not_mem.2 (fun i hi=>?_),?_⟩
  ·obtain⟨T,o,C,_⟩:=mem_ready.1 hi
   have:(i,o) ∈ Ta ops listed:=AY.2 ⟨C,T⟩
   rw[hr] at this;simp at this
  ·rw[hr,RunF] at u
   exact hQ _ _ J β (I.eqv u)
 induction fuel with
 | zero =>
  intro listed st a w J β _ v _ u I
  exact fin listed (Aoo.1 v) u I
 | succ fuel ih =>
  intro listed st a w J β U v hclosed u I
  refine⟨fun V=>?_,fun i hi=>?_⟩
  ·
   cases y:Ta ops listed with
   | nil=>rw[y] at v;simp at v
   | cons p r =>
    exfalso
    have hp:p ∈ Ta ops listed:=by rw[y];simp
    obtain⟨z,hl⟩:=AY.1 hp
    have hs:=JC (ops:=ops) listed
    rw[y] at hs
    have X:=(Aob.1 hs).1
    have:p.1 ∈ Region.ready .any ops listed:=mem_ready.2 ⟨hl,p.2,z,fun G M hb=>by
     rw[oB] at hb
     have D:=TC hfw (i:=p.1) (o:=p.2) (by simpa using z) G M hb
     simp at D
     have Y:G.on<ops.size:=by have:=(Amb.1 z).1;omega
     cases O:listed.getD G.on true with
     | true =>
      rw[Amu] at O ⊢
      rw[Array.getElem?_eq_getElem (by omega)] at O ⊢
      simpa using O
     | false =>
      have hm:(G.on,ops[G.on]) ∈ Ta ops listed:=AY.2 ⟨by simp[Y],O⟩
      rw[y] at hm
      rcases Alb.1 hm with e1 | e1
      ·have:G.on=p.1:=by rw[←e1]
       omega
      ·have:=X _ e1
       simp at this;omega⟩
    rw[V] at this;simp at this
  ·obtain⟨hl,o,z,hall⟩:=mem_ready.1 hi
   have hmem:(i,o) ∈ Ta ops listed:=AY.2 ⟨z,hl⟩
   obtain⟨A,B,hAB⟩:=List.append_of_mem hmem
   have L:∀ k ∈ DL o,listed.getD k false=true:=by
    intro k hk
    unfold DL at hk
    obtain⟨G,M,rfl⟩:=Als.1 hk
    obtain⟨T,C⟩:=Amy.1 M
    exact hall G (by simpa using T) (by rw[oB];exact C)
   have hs:=JC (ops:=ops) listed
   rw[hAB] at hs
   have hs':=Ao7.1 hs
   rw[hAB] at u
   obtain⟨q,g1,g2,g3⟩:=u.pull (fun jp hjp=>by
    have D:jp.1<i:=hs'.2.2 jp hjp (i,o) (by simp)
    obtain⟨an,T,C⟩:=S i jp.1 o z D
    rcases C with C | C
    ·exfalso
     have:=vO hclosed i an o T z L jp.1 C
     have hjm:jp ∈ Ta ops listed:=by rw[hAB];simp[hjp]
     have h3:=(AY.1 hjm).2
     rw[Amu] at this h3
     cases O:listed[jp.1]? with
     | none=>rw[O] at this;simp at this
     | some b=>rw[O] at this h3;simp at this h3;rw[this] at h3;cases h3
    ·exact C)
   have hone:rp E ops o st (fun s f=>some (s,f))=some (after E o st q,q.2.2):=by rw[MU,g1];rfl
   obtain⟨st',f,h4,h5⟩:=gp (K:=wpAny E.P .any ops Q fuel (listed.setIfInBounds i true)) (Q:=Q) hC I hone
   simp only[Alx,Apc] at h4
   obtain⟨rfl,rfl⟩:=h4
   have D:i<listed.size:=by rw[U];exact(Amb.1 z).1
   have:=h5 (fun a' w' J' β' I'=>ih (listed.setIfInBounds i true) (by simp[U]) (by
     rw[s5 hAB];rw[hAB] at v;simp at v ⊢;omega) (fun j oj F hj k hk=>?_) (by rw[s5 hAB];exact g3) I')
   ·unfold wpOp
    rw[z]
    simp only
    split
    ·rename_i hw;rw[if_pos hw] at this;exact .inl this
    ·rename_i hw;rw[if_neg hw] at this;exact this
   ·by_cases e1:j=i
    ·subst e1
     rw[z] at F;simp at F;subst F
     exact getD_set_true (L k hk)
    ·rw[getD_set_ne true (fun e'=>e1 e'.symm)] at hj
     exact getD_set_true (hclosed j oj F hj k hk)
end
end Gx
namespace Gx
open Go
section
variable {R:Type} {r:R} {Z:Start} {E:Env}
theorem lm (hC:QZ E) (V:E.P.follows .mixedOrders=true) {roots:List Nat} {id:Nat} {ops:Array Oper} {draw:Bool} {st:St} {k:St→O R} {a:Act} {w:World} {J:Bool→Nat→Prop} {β:B5} {Q:Exit→Act→World→Prop}
  (I:Inv Z E.nt J β st a w) (hh:DM E roots ops draw st k=some r) (hQ:∀ st' v w' J' β',Inv Z E.nt J' β' st' v w'→k st'=some r→Q .normal v w'):(Code.region id ops draw).wp E.P Q a w:=by
 unfold DM at hh
 have done:∀ {st':St} {tr:List Foot} {v:Act} {w':World} {J':Bool→Nat→Prop} {β':B5},Inv Z E.nt J' β' st' v w' →
   cond (!draw||(V7 0 ops.toList&&MO tr.reverse (F2 ops.toList []) [])) ((clean (st'.s.map (·.1)) roots st').bind k) none=some r→Q .normal v w':=by
  intro st' tr v w' J' β' I' h'
  obtain⟨_,G⟩:=uc h'
  obtain⟨st2,K,T⟩:=ub G
  obtain⟨β2,I2⟩:=sP I' K
  exact hQ _ _ _ _ _ I2 T
 cases draw with
 | false=>exact wp_region_list (gr hC _ I hh (fun st' X v w' J' β' I' h'=>done I' h'))
 | true =>
  obtain⟨fs,e,G,K⟩:=sZ hh
  obtain⟨U,T⟩:=uc G
  simp at U
  obtain⟨L,A⟩:=U
  have C:=K.length
  refine wp_region_any V ?_
  have I':Inv Z E.nt J β st a w.drew:=I.step (Step.drew I.sim) (fun b x Y hn=>by rw[Y] at hn;cases hn)
  have q:Ta ops (Array.replicate ops.size false)=N' 0 ops.toList:=by
   unfold Ta
   refine Anp.2 (fun p hp=>?_)
   have:=(gD.1 hp).2
   have y:p.1<ops.size:=by
    simp at this
    exact(Amb.1 this).1
   simp[y]
  have D:(N' 0 ops.toList).length=ops.size:=by
   have:∀ (l:List Oper) (n:Nat),(N' n l).length=l.length:=by
    intro l
    induction l with
    | nil=>intro n;rfl
    | cons o r ih=>intro n;simp[N',ih]
   rw[this];simp
  have F:RunF E ops (fun i=>fs.getD i { r:=[],w:=none,f:=[],u:=[] }) (N' 0 ops.toList) st e:=K.runF (fun j f z=>by simp[z])
  refine yo hC (fp:=fun i=>fs.getD i { r:=[],w:=none,f:=[],u:=[] }) (e:=e) L (fun i j o M S=>?_) (fun v w' J' β' Ie=>done (tr:=fs.reverse++[]) Ie G) ops.size _ (by simp) (by rw[q,D]) (fun j o M z=>?_) (by rw[q];exact F) I'
  ·have hi:i<fs.length:=by rw[C];simpa using(Amb.1 M).1
   obtain⟨an,g1,g2⟩:=iC A i fs[i] (Aky hi)
   refine⟨an,g1,?_⟩
   have z:j<fs.length:=by omega
   have:=g2 j fs[j] (by simp[z]) (by simpa using S)
   simpa[hi,z] using this
  ·exfalso
   have y:j<ops.size:=(Amb.1 M).1
   simp[y] at z
end
end Gx
namespace Gx
open Go
theorem TD (ρ:Nat→Nat):∀ c:LA,(Uf ρ c).length=c.length
 | []=>rfl
 | x::r=>by rw[Uf,Ak8,Ak8,TD ρ r]
theorem K4 (ρ:Nat→Nat) (x:Blk):(Xw ρ x).cells.length=x.cells.length:=by
 unfold Xw;cases x.pure
 ·simp;exact TD _ _
 ·rfl
theorem oC {ρ:Nat→Nat}:∀ {c:LA} {j:Nat} {y:AV},(Uf ρ c)[j]?=some y→∃ x,c[j]?=some x∧y=N_ ρ x
 | [],j,y,b=>by simp[Uf] at b
 | x::r,j,y,b=>by
  rw[Uf] at b
  cases j with
  | zero=>simp at b;exact⟨x,by simp,b.symm⟩
  | succ j=>obtain⟨x',e,k⟩:=oC (c:=r) (j:=j) (by simpa using b);exact⟨x',by simpa using e,k⟩
section
variable {R:Type} {r:R} {J J':Bool→Nat→Prop} {β β':B5} {h h':Ap} {w w':World} {ids:List Nat} {ρ:Nat→Nat}
theorem Me {g:A7}:∀ {ids:List Nat},(ids.map ρ).Nodup→∀ c y,Ai (sub g ρ ids) c=some y→∃ b x,b ∈ ids∧ρ b=c∧g b=some x∧y=Xw ρ x
 | [],_,c,y,j=>by simp[sub,Ai] at j
 | b::r,hn,c,y,j=>by
  rw[Ak9,Alp] at hn
  rw[sub] at j
  split at j
  ·rename_i x z
   rw[Ad] at j
   by_cases e:c=ρ b
   ·rw[if_pos e] at j;simp at j
    exact⟨b,x,by simp,e.symm,z,j.symm⟩
   ·rw[if_neg e] at j
    obtain⟨k,x',q,s,u,v⟩:=Me hn.2 c y j
    exact⟨k,x',by simp[q],s,u,v⟩
  ·obtain⟨k,x',q,s,u,v⟩:=Me hn.2 c y j
   exact⟨k,x',by simp[q],s,u,v⟩
theorem X5 {g:A7}:∀ {ids:List Nat},(ids.map ρ).Nodup→∀ b x,b ∈ ids→g b=some x→Ai (sub g ρ ids) (ρ b)=some (Xw ρ x)
 | [],_,b,x,j,_=>by simp at j
 | s::r,hn,b,x,j,k=>by
  rw[Ak9,Alp] at hn
  rw[sub]
  by_cases e:b=s
  ·subst e
   rw[k]
   simp only
   rw[Ad,if_pos rfl]
  ·have q:b ∈ r:=by simpa[e] using j
   have ne:ρ b≠ρ s:=fun h=>hn.1 (by rw[←h];exact Als.2 ⟨b,q,rfl⟩)
   split
   ·rw[Ad,if_neg ne];exact X5 hn.2 b x q k
   ·exact X5 hn.2 b x q k
def Aan (ρ:Nat→Nat) (ids:List Nat) (c:Nat):Option Nat:=ids.find? fun b=>beq (ρ b) c
theorem Aao (hn:(ids.map ρ).Nodup) {b:Nat} (j:b ∈ ids):Aan ρ ids (ρ b)=some b:=by
 induction ids with
 | nil=>simp at j
 | cons i r k =>
  rw[Ak9,Alp] at hn
  unfold Aan at k ⊢
  rw[List.find?_cons]
  by_cases e:b=i
  ·subst e;simp
  ·have q:b ∈ r:=by simpa[e] using j
   have ne:ρ i≠ρ b:=fun h=>hn.1 (by rw[h];exact Als.2 ⟨b,q,rfl⟩)
   rw[IE ne];exact k hn.2 q
def GU (ρ:Nat→Nat) (ids:List Nat) (β:B5):B5:=fun c=>(Aan ρ ids c).bind β
theorem Gb (hn:(ids.map ρ).Nodup) {b:Nat} (e:b ∈ ids):GU ρ ids β (ρ b)=β b:=by
 unfold GU;rw[Aao hn e];rfl
mutual
theorem Rep.ren (hn:(ids.map ρ).Nodup):∀ {x:AV} {v:Value},(∀ b ∈ F9 x,b ∈ ids)→Rep J β h w x v→Rep J (GU ρ ids β) (sub (Ai h) ρ ids) w (N_ ρ x) v
 | .own b off n,v,hm,hr=>by
  rw[Rep] at hr
  obtain⟨x,A,cap,⟨hx,hmp⟩,h1,h2,h3⟩:=hr
  have hb:=hm b (by simp[F9])
  rw[N_,Rep]
  refine⟨Xw ρ x,A,cap,⟨X5 hn b x hb hx,hmp⟩,h1,h2,?_⟩
  rw[K4,Gb hn hb]
  exact h3
 | .optr b off,v,hm,hr=>by
  rw[Rep] at hr
  obtain⟨x,k,o,⟨hx,hmp⟩,h1,h2⟩:=hr
  have hb:=hm b (by simp[F9])
  rw[N_,Rep]
  refine⟨Xw ρ x,k,o,⟨X5 hn b x hb hx,hmp⟩,h1,?_⟩
  rw[Gb hn hb]
  exact h2
 | .omap b,v,hm,hr=>by
  rw[Rep] at hr
  obtain⟨x,k,⟨hx,hmp⟩,h2⟩:=hr
  have hb:=hm b (by simp[F9])
  rw[N_,Rep]
  refine⟨Xw ρ x,k,⟨X5 hn b x hb hx,hmp⟩,?_⟩
  rw[Gb hn hb]
  exact h2
 | .agg c,v,hm,hr=>by
  rw[Rep] at hr
  obtain⟨cs,h1,h2⟩:=hr
  rw[N_,Rep]
  exact⟨cs,h1,Reps.ren hn (by simpa[F9] using hm) h2⟩
 | .tup c,v,hm,hr=>by
  rw[Rep] at hr
  obtain⟨cs,h1,h2⟩:=hr
  rw[N_,Rep]
  exact⟨cs,h1,Reps.ren hn (by simpa[F9] using hm) h2⟩
 | .fn f c,v,hm,hr=>by
  rw[Rep] at hr
  obtain⟨cs,h1,h2⟩:=hr
  rw[N_,Rep]
  exact⟨cs,h1,Reps.ren hn (by simpa[F9] using hm) h2⟩
 | .pagg c o,v,hm,hr=>by show Rep J _ _ w (.pagg c o) v;rw[Rep] at hr ⊢;exact hr
 | .undef,v,hm,hr=>by show Rep J _ _ w (.undef) v;rw[Rep] at hr ⊢;exact hr
 | .imm c n sz t o,v,hm,hr=>by show Rep J _ _ w (.imm c n sz t o) v;rw[Rep] at hr ⊢;exact hr
 | .iptr c o,v,hm,hr=>by show Rep J _ _ w (.iptr c o) v;rw[Rep] at hr ⊢;exact hr
 | .int k n,v,hm,hr=>by show Rep J _ _ w (.int k n) v;rw[Rep] at hr ⊢;exact hr
 | .bool b,v,hm,hr=>by show Rep J _ _ w (.bool b) v;rw[Rep] at hr ⊢;exact hr
 | .str s,v,hm,hr=>by show Rep J _ _ w (.str s) v;rw[Rep] at hr ⊢;exact hr
 | .nsl,v,hm,hr=>by show Rep J _ _ w (.nsl) v;rw[Rep] at hr ⊢;exact hr
 | .nilptr,v,hm,hr=>by show Rep J _ _ w (.nilptr) v;rw[Rep] at hr ⊢;exact hr
 | .nilfn,v,hm,hr=>by show Rep J _ _ w (.nilfn) v;rw[Rep] at hr ⊢;exact hr
theorem Reps.ren (hn:(ids.map ρ).Nodup):∀ {c:List AV} {cs:List Value},(∀ b ∈ Hp c,b ∈ ids)→Reps J β h w c cs→Reps J (GU ρ ids β) (sub (Ai h) ρ ids) w (Uf ρ c) cs
 | [],cs,hm,hr=>by rw[Reps] at hr;rw[Uf,Reps];exact hr
 | x::r,cs,hm,hr=>by
  rw[Reps] at hr
  obtain⟨u,us,h1,h2,h3⟩:=hr
  rw[Uf,Reps]
  exact⟨u,us,h1,Rep.ren hn (fun b hb=>hm b (by simp[Hp,hb])) h2,Reps.ren hn (fun b hb=>hm b (by simp[Hp,hb])) h3⟩
end
theorem SimH.ren (S:SimH J β h w) (hn:(ids.map ρ).Nodup) (L:∀ b ∈ Jy (Ai h) ids,b ∈ ids):SimH J (GU ρ ids β) (sub (Ai h) ρ ids) w:=by
 refine⟨S.jlt,S.jft,S.gl,fun c y C D M=>?_,fun c y C D M=>by
   obtain⟨b,x,s,rfl,z,rfl⟩:=Me hn c y C
   obtain⟨A,F,k,ob,O,T,K,U⟩:=S.mblk b x z D M
   have:(Xw ρ x).cells=x.cells:=by unfold Xw;rw[A];rfl
   exact⟨A,F,k,ob,by rw[Gb hn s];exact O,T,by rw[ObjIs,show(Xw ρ x).sz=x.sz from rfl,this];exact K,U⟩,?_⟩
 ·obtain⟨b,x,s,rfl,z,rfl⟩:=Me hn c y C
  rcases S.blk b x z D M with⟨A,F⟩ | ⟨k,o,cs,ty,fr,A,F,O,T,K,U,g7⟩
  ·refine .inl ⟨by rw[Gb hn s];exact A,?_⟩
   have:=K4 ρ x;rw[F] at this;simpa using this
  ·refine .inr ⟨k,o,cs,ty,fr,by rw[Gb hn s];exact A,F,O,by rw[K4];exact T,⟨fun V=>?_,fun V j q hj=>?_⟩,U,g7⟩
   ·have e:x.pure=true:=V
    have:(Xw ρ x).cells=x.cells:=by unfold Xw;rw[e];rfl
    rw[this];exact K.1 e
   ·have e:x.pure=false:=V
    have:(Xw ρ x).cells=Uf ρ x.cells:=by unfold Xw;rw[e];rfl
    rw[this] at hj
    obtain⟨q',hq,rfl⟩:=oC hj
    obtain⟨u,hu,hr,ho⟩:=K.2 e j q' hq
    exact⟨u,hu,Rep.ren hn (fun G v=>L G (Y' s z e G (ZA hq G v))) hr,ho⟩
 ·intro c c' y y' k o o' C X D hd' hs hβ I
  obtain⟨b,x,s,rfl,z,rfl⟩:=Me hn c y C
  obtain⟨G,x',v,rfl,hx',rfl⟩:=Me hn c' y' X
  rw[Gb hn s] at hβ
  rw[Gb hn v] at I
  rw[S.sep b G x x' k o o' z hx' D hd' hs hβ I]
theorem qH (hn:(ids.map ρ).Nodup) {k:Nat} (j:rx (GU ρ ids β) (sub (Ai h) ρ ids) k):rx β h k:=by
 obtain⟨c,y,o,q,s,hs,e⟩:=j
 obtain⟨b,x,u,rfl,v,rfl⟩:=Me hn c y q
 rw[Gb hn u] at e
 exact⟨b,x,o,v,s,hs,e⟩
end
end Gx
namespace Gx
open Go
theorem M8 {ids:List Nat}:∀ {l:List Nat},GL ids l=true→∀ b ∈ l,b ∈ ids
 | [],_,b,e=>by simp at e
 | i::r,h,b,e=>by
  rw[GL] at h
  simp at h
  rcases Alb.1 e with rfl | e
  ·exact J3.1 h.1
  ·exact M8 h.2 b e
theorem Wq {d:Nat}:∀ {l:List Nat} {base b:Nat},b ∈ l→base≤H4 d (Au base l) b∧H4 d (Au base l) b<base+l.length
 | [],base,b,e=>by simp at e
 | i::r,base,b,e=>by
  rw[Au,H4]
  cases hi:beq i b with
  | true=>simp
  | false =>
   have j:=Ug hi
   have k:b ∈ r:=by
    rcases Alb.1 e with h | h
    ·exact absurd h.symm j
    ·exact h
   have:=Wq (d:=d) (base:=base+1) k
   simp only[cond_false,Ak8]
   omega
theorem s6 {free ids:List Nat} {b:Nat} (h:AS free b=true):Wl free ids b=b:=by unfold Wl;rw[h];rfl
theorem qI {free ids:List Nat} {b:Nat} (h:AS free b=false) (e:b ∈ ids):300000≤Wl free ids b:=by
 unfold Wl Aad;rw[h]
 exact(Wq (Amy.2 ⟨e,by simp[h]⟩)).1
theorem iD {b:Nat}:gX b=true↔100000≤b∧b<200000:=by unfold gX;simp
theorem cG {free ids:List Nat} {b c:Nat} (j:b ∈ ids) (k:100000≤c∧c<200000) (e:Wl free ids b=c):b=c:=by
 cases hr:AS free b with
 | true=>rw[s6 hr] at e;exact e
 | false=>have:=qI hr j;omega
theorem AZ {ρ:Nat→Nat} {K:List Nat}:∀ {s:F8} {i:Nat},Fn (Aae ρ K s) i=if Hq K i=true then N_ ρ (Fn s i) else .undef
 | [],i=>by
  show AV.undef=if Hq K i=true then N_ ρ .undef else AV.undef
  simp[N_]
 | (t,v)::r,i=>by
  rw[Aae]
  by_cases e:t=i
  ·subst e
   cases b:Hq K t with
   | true=>simp[Fn]
   | false=>simp only[cond_false];rw[AZ];simp[b]
  ·have j:beq t i=false:=IE e
   cases b:Hq K t with
   | true=>simp only[cond_true,Fn,j,cond_false];exact AZ
   | false=>simp only[cond_false,Fn,j];exact AZ
theorem s7 {g:A7} {l:List Nat} {b:Nat} (h:b ∈ X1 g l):∃ x,g b=some x∧x.dead=false:=by
 unfold X1 at h
 obtain⟨_,e⟩:=Amy.1 h
 unfold Fg at e
 cases j:g b with
 | none=>simp[j] at e
 | some x =>
  cases k:x.dead with
  | false=>exact⟨x,rfl,k⟩
  | true=>simp[j,k] at e
section
variable {Z:Start} {nt:Nat} {J:Bool→Nat→Prop} {β:B5} {st st':St} {a:Act} {w:World}
def AV.isz:AV→Nat
 | .imm _ _ s _ _=>s
 | _=>0
theorem Mf {live:List Nat}:∀ (nils:List (Nat×Nat)) {st:St} {J:Bool→Nat→Prop} {β:B5},Inv Z nt J β st a w→DN live nils st=some st'→∃ J' β',Inv Z nt J' β' st' a w
 | [],st,J,β,I,hh=>by simp[DN] at hh;subst hh;exact⟨J,β,I⟩
 | (t,sz)::r,st,J,β,I,hh=>by
  rw[DN] at hh
  cases z:ble 1000000 sz with
  | true =>
   rw[z,cond_true] at hh
   split at hh
   ·rename_i O hs
    refine Mf r (J:=J) (β:=β) (st:={ s:=QQ st.s t (.imm [] 0 (sz - 1000000) false false),h:=st.h }) ?_ hh
    refine { I with ss:=⟨fun i v k=>?_,fun i hi=>?_⟩ }
    ·rw[Mb]
     by_cases e:i=t
     ·subst e
      have:=I.ss.slot i v k
      rw[hs,Rep] at this
      subst this
      rw[if_pos rfl,Rep,RepC]
      exact⟨by simp,none,0,rfl,Akw _,fun _=>rfl,.inl rfl⟩
     ·rw[if_neg e];exact I.ss.slot i v k
    ·rw[Mb]
     by_cases e:i=t
     ·subst e
      have:=I.ss.out i hi
      rw[hs] at this;cases this
     ·rw[if_neg e];exact I.ss.out i hi
   ·rename_i b off n O hs
    obtain⟨⟨v',ups,org⟩,C,S⟩:=ub hh
    by_cases D:∃ v,a.tmps[t]?=some v
    ·obtain⟨v0,F⟩:=D
     have hr:=I.ss.slot t v0 F
     rw[hs] at hr
     obtain⟨J1,A,q,_⟩:=IX I.sim (fun b x T=>⟨x,T,rfl⟩) C hr
     have I1:=I.step A (fun c x u hn=>by
      exfalso
      unfold OS at C
      obtain⟨y,K,j⟩:=ub C
      obtain⟨_,j⟩:=uc j
      simp at j
      obtain⟨_,j,_⟩:=j
      subst j
      simp only[Aj,Ad] at u
      unfold Fg at K
      obtain⟨y0,G,_⟩:=ub K
      by_cases e:c=b
      ·subst e;rw[hn] at G;cases G
      ·rw[if_neg e,hn] at u;cases u)
     refine Mf r (J:=J1) (β:=β) (st:={ s:=QQ st.s t v',h:=Aj ups st.h }) ?_ S
     have L:∃ c,v'=.imm c n (v'.isz) false org:=by
      unfold OS at C
      obtain⟨y,K,j⟩:=ub C
      obtain⟨_,j⟩:=uc j
      simp at j
      obtain⟨j,_,U⟩:=j
      subst j U
      exact⟨_,rfl⟩
     refine { I1 with ss:=⟨fun i v k=>?_,fun i hi=>?_⟩ }
     ·rw[Mb]
      by_cases e:i=t
      ·subst e
       rw[if_pos rfl]
       rw[F] at k;simp at k;subst k
       obtain⟨c,V⟩:=L
       rw[V] at q ⊢
       rw[Rep];exact q
      ·rw[if_neg e];exact I1.ss.slot i v k
     ·rw[Mb]
      by_cases e:i=t
      ·subst e
       have:=I.ss.out i hi
       rw[hs] at this;cases this
      ·rw[if_neg e];exact I1.ss.out i hi
    ·exfalso
     have:=I.ss.out t (by
      cases h:a.tmps[t]? with
      | none=>simp at h;omega
      | some v=>exact absurd ⟨v,h⟩ D)
     rw[hs] at this;cases this
   ·exact Mf r I hh
  | false =>
   rw[z,cond_false] at hh
   split at hh
   ·rename_i O hs
    cases M:Ai st.h (nid t+15) with
    | some x=>simp[M] at hh
    | none =>
     simp[M] at hh
     have A:=Step.newNone I.sim (d:=nid t+15) (x:=Fo sz) M rfl
     have I1:=I.step A (fun b x u hn=>by
      rw[Ad] at u
      by_cases e:b=nid t+15
      ·subst e;unfold nid Gq;omega
      ·rw[if_neg e,hn] at u;cases u)
     refine Mf r (J:=J) (β:=fun b=>if b=nid t+15 then none else β b) (st:={ s:=QQ st.s t (.own (nid t+15) 0 0),h:=Dp st.h (nid t+15) (Fo sz) }) ?_ hh
     refine { I1 with ss:=⟨fun i v k=>?_,fun i hi=>?_⟩ }
     ·rw[Mb]
      by_cases e:i=t
      ·subst e
       rw[if_pos rfl,Rep]
       have:=I.ss.slot i v k
       rw[hs,Rep] at this
       subst this
       exact⟨Fo sz,none,0,⟨by rw[Ad,if_pos rfl],rfl⟩,rfl,Akw _,.inl rfl⟩
      ·rw[if_neg e];exact I1.ss.slot i v k
     ·rw[Mb]
      by_cases e:i=t
      ·subst e
       have:=I.ss.out i hi
       rw[hs] at this;cases this
      ·rw[if_neg e];exact I1.ss.out i hi
   ·exact Mf r I hh
theorem JD {E:Env} {live roots:List Nat} (I:Inv Z nt J β st a w) (hh:GM E live roots st=some st'):∃ J' β',Inv Z nt J' β' st' a w:=by
 unfold GM at hh
 obtain⟨s1,z,A⟩:=ub hh
 obtain⟨J1,β1,I1⟩:=Mf _ I z
 obtain⟨q,u⟩:=uc A
 simp at q u
 subst u
 obtain⟨hn,hs,hi,_⟩:=q
 have hn:=Qw hn
 have j:∀ b ∈ Jy (Ai s1.h) (X1 (Ai s1.h) (Wi (Ai s1.h) (gV live s1.s++roots))),b ∈ X1 (Ai s1.h) (Wi (Ai s1.h) (gV live s1.s++roots)):=M8 hi
 refine⟨J1,GU _ _ β1,{ I1 with sim:=I1.sim.ren hn j,ss:=⟨fun i v C=>?_,fun i hi=>?_⟩,wr:=fun k D=>I1.wr k (qH hn D),outs:=fun b x0 x h0 F G=>?_ }⟩
 ·rw[AZ]
  cases K:Hq live i with
  | false=>simp[Rep]
  | true =>
   simp only[if_true]
   exact Rep.ren hn (fun b L=>M8 hs b (gv K b L)) (I1.ss.slot i v C)
 ·rw[AZ,I1.ss.out i hi];simp[N_]
 ·obtain⟨M,x',e,y,O,rfl⟩:=Me hn b x F
  have:=cG e ⟨I1.zge b x0 h0,I1.zlt b x0 h0⟩ y
  subst this
  obtain⟨⟨e1,em⟩,S,e3,e4⟩:=I1.outs M x0 x' h0 O G
  refine⟨⟨?_,em⟩,S,by rw[K4];exact e3,e4⟩
  have:=Gb (β:=β1) hn e
  rw[y] at this
  rw[this];exact e1
end
end Gx
namespace Gx
open Go
section
variable {R:Type} {r:R} {Z:Start} {E:Env}
theorem s8 (hC:QZ E) (F:E.P.follows .mixedOrders=true) {roots:List Nat} {N:Nat}:∀ (c:Code) {H:Hint} {kn:St→O R} {kx:Nat→St→O R} {kr:St→O R} {st:St} {a:Act} {w:World} {J:Bool→Nat→Prop} {β:B5} {Q:Exit→Act→World→Prop},
  Inv Z E.nt J β st a w→Dq E roots N c H kn kx kr st=some r →
  (∀ st' b w' J' β',Inv Z E.nt J' β' st' b w'→kn st'=some r→Q .normal b w') →
  (∀ id st' b w' J' β',Inv Z E.nt J' β' st' b w'→kx id st'=some r→Q (.exit id) b w') →
  (∀ st' b w' J' β',Inv Z E.nt J' β' st' b w'→kr st'=some r→Q .ret b w')→c.wp E.P Q a w:=by
 intro c
 induction c with
 | skip=>intro H kn kx kr st a w J β Q I hh hn e hr;exact wp_skip (hn _ _ _ _ _ I hh)
 | region id ops draw=>intro H kn kx kr st a w J β Q I hh hn e hr;exact lm hC F I hh hn
 | seq x y s q =>
  intro H kn kx kr st a w J β Q I hh hn e hr
  rw[Dq] at hh
  refine wp_seq (s I hh (fun st' b w' J' β' I' h'=>?_) (fun id st' b w' J' β' I' h'=>e id st' b w' J' β' I' h') (fun st' b w' J' β' I' h'=>hr st' b w' J' β' I' h'))
  unfold rq at h'
  cases u:H.isJoin with
  | true =>
   rw[u,cond_true,Ry] at h'
   obtain⟨s2,v,z⟩:=ub h'
   obtain⟨J2,β2,I2⟩:=JD I' v
   exact q I2 z hn e hr
  | false=>rw[u] at h';exact q I' h' hn e hr
 | cond c x y s q =>
  intro H kn kx kr st a w J β Q I hh hn e hr
  rw[Dq] at hh
  split at hh
  ·rename_i t G
   have D:=A5 I.ss c
   rw[G,Rep] at D
   refine wp_cond D ?_
   cases t with
   | true=>exact s I hh hn e hr
   | false=>exact q I hh hn e hr
  ·simp at hh
 | block id c A =>
  intro H kn kx kr st a w J β Q I hh hn e hr
  rw[Dq] at hh
  refine wp_block (A I hh (fun st' b w' J' β' I' h'=>hn _ _ _ _ _ I' h') (fun j st' b w' J' β' I' h'=>?_) (fun st' b w' J' β' I' h'=>hr _ _ _ _ _ I' h'))
  cases u:beq j id with
  | true =>
   rw[u] at h'
   have:=Ak0 u
   subst this
   simp only[Exit.inBlock,if_true]
   exact hn _ _ _ _ _ I' h'
  | false =>
   rw[u] at h'
   simp only[Exit.inBlock]
   rw[if_neg (Ug u)]
   exact e _ _ _ _ _ _ I' h'
 | loop c A =>
  intro H kn kx kr st a w J β Q I hh hn e hr
  rw[Dq,Ry] at hh
  refine wp_loop_rounds N ?_
  have key:∀ (n:Nat) {st:St} {a:Act} {w:World} {J:Bool→Nat→Prop} {β:B5},Inv Z E.nt J β st a w→GN (GM E H.live roots) (fun k st=>Dq E roots N c H.a k kx kr st) n st=some r→Code.rounds E.P c Q n a w:=by
   intro n
   induction n with
   | zero=>intro st a w J β I h';simp[GN] at h'
   | succ n C =>
    intro st a w J β I h'
    rw[GN] at h'
    rw[rounds_succ]
    refine A I h' (fun st' b w' J' β' I' h''=>?_) (fun id st' b w' J' β' I' h''=>e _ _ _ _ _ _ I' h'') (fun st' b w' J' β' I' h''=>hr _ _ _ _ _ I' h'')
    obtain⟨s2,v,z⟩:=ub h''
    obtain⟨J2,β2,I2⟩:=JD I' v
    exact C I2 z
  obtain⟨s2,v,z⟩:=ub hh
  obtain⟨J2,β2,I2⟩:=JD I v
  exact key N I2 z
 | exit id=>intro H kn kx kr st a w J β Q I hh hn e hr;exact wp_exit (e _ _ _ _ _ _ I hh)
 | ret=>intro H kn kx kr st a w J β Q I hh hn e hr;exact wp_ret (hr _ _ _ _ _ I hh)
 | rangeFunc=>intro H kn kx kr st a w J β Q I hh;simp[Dq] at hh
 | scope=>intro H kn kx kr st a w J β Q I hh;simp[Dq] at hh
 | label=>intro H kn kx kr st a w J β Q I hh;simp[Dq] at hh
 | goto=>intro H kn kx kr st a w J β Q I hh;simp[Dq] at hh
 | refuse=>intro H kn kx kr st a w J β Q I hh;simp[Dq] at hh
end
end Gx
namespace Gx
open Go
structure FDone (Z:Start) (J:Bool→Nat→Prop) (β:B5) (h:Ap) (w:World):Prop where
 sim:SimH J β h w
 os:w.os=Z.w.os
 tape:w.tape=Z.w.tape
 output:w.output=Z.w.output
 size:Z.w.heap.size≤w.heap.size
 frame:∀ k,k<Z.w.heap.size→¬ rx Z.β Z.h k→w.heap[k]?=Z.w.heap[k]?
 wr:∀ k,rx β h k→k<Z.w.heap.size→rx Z.β Z.h k
 jsub:∀ o k,Z.J o k→J o k
 jup:∀ o k,J o k→Z.J o k∨rx Z.β Z.h k∨Z.w.heap.size≤k
 sizes:∀ k,At Z.w k≤At w k
 outs:∀ b x0 x,Ai Z.h b=some x0→Ai h b=some x→x.dead=false→(β b=Z.β b∧x.mp=x0.mp)∧x.sz=x0.sz∧(x0.mp=false→x.cells.length=x0.cells.length)∧x0.dead=false
 live:∀ b x,Ai h b=some x→x.dead=false
def ri (P:Program) (f:Nat) (args:LA) (h:Ap) (res:AV) (h':Ap):Prop :=
 ∀ (J:Bool→Nat→Prop) (β:B5) (w:World) (vs:List Value),SimH J β h w→Reps J β h w args vs →
  Calls P f vs.toArray w fun e w'=>∃ vc J' β',e=.returned vc∧FDone ⟨J,β,h,w⟩ J' β' h' w'∧Rep J' β' h' w' res vc
def iE (P:Program) (f:Nat) (t:Tw):Prop:=∀ args h res h',(t.runK args h fun v h'=>some (v,h'))=some (res,h')→ri P f args h res h'
def iF (P:Program):List (Nat×Tw)→Prop
 | []=>True
 | p::r=>iE P p.1 p.2∧iF P r
theorem s9 {P:Program} {R:Type} {r:R}:∀ {T:List (Nat×Tw)},iF P T→∀ {f:Nat} {args:LA} {h:Ap} {k:AV→Ap→O R},SQ T f args h k=some r →
  ∃ b h',ri P f args h b h'∧k b h'=some r
 | [],_,f,args,h,k,hh=>by simp[SQ] at hh
 | (g,t)::T,hT,f,args,h,k,hh=>by
  rw[SQ] at hh
  cases e:beq g f with
  | false=>rw[e] at hh;exact s9 hT.2 hh
  | true =>
   rw[e] at hh
   have:=Ak0 e
   subst this
   simp only[cond_true] at hh
   rw[t.eq] at hh
   obtain⟨⟨b,h'⟩,j,q⟩:=ub hh
   exact⟨b,h',hT.1 args h b h' j,q⟩
section
variable {R:Type} {r:R} {Z:Start} {nt:Nat} {J:Bool→Nat→Prop} {β:B5} {st:St} {a:Act} {w:World}
def TE (tmps:Array Value):ResultVar→Sem Value
 | .tmp t=>pure (tmps.getD t undef)
 | .cell a t=>do loadVar t (←Go.asAddr (tmps.getD a undef))
theorem Aap {α β:Type} (f:α→Sem β) (xs:Array α):xs.mapM f=(List.toArray <$> xs.toList.mapM f):=by
 rw[←List.mapM_toArray]
theorem vP (fn:Func) (tmps:Array Value):results fn tmps=(do let vs ←fn.results.mapM (TE tmps);pure (if h:vs.size=1 then vs[0] else .tuple vs)):=by
 unfold results
 congr 1
def s_ (l:List Value):Value:=match l with | [v]=>v | l=>.tuple l.toArray
theorem sa {P:Program} (fn:Func) (tmps:Array Value) {vs:List Value} (h:(fn.results.toList.mapM (TE tmps)).run P w=.ok vs w):(results fn tmps).run P w=.ok (s_ vs) w:=by
 rw[vP,Aap]
 simp only[map_eq_pure_bind,Sem.run_bind,h,Result.andThen_ok,Sem.run_pure]
 congr 1
 match vs with
 | []=>rfl
 | [v]=>rfl
 | v::u::r=>simp[s_]
theorem sb {P:Program} {t:TypeId} {v vc:Value} (h:(Instr.loadAt t v).run P w=.ok vc w):(do loadVar t (←Go.asAddr v):Sem Value).run P w=.ok vc w:=by
 unfold Instr.loadAt at h
 cases v with
 | pointer a =>
  cases a with
  | some a=>exact h
  | none=>simp[Instr.sureAddr] at h
 | _=>simp[Instr.sureAddr] at h
theorem Zw {E:Env} (S:SimH J β st.h w) (SS:SimS J β st.h w st.s a.tmps):∀ (l:List ResultVar) {b:LA} {k:LA→O R},Ma E st l b k=some r →
  ∃ vals vs,k (b.reverse++vals)=some r∧(l.mapM (TE a.tmps)).run E.P w=.ok vs w∧Reps J β st.h w vals vs
 | [],b,k,hh=>⟨[],[],by simpa[Ma] using hh,by simp,by rw[Reps]⟩
 | .tmp t::l,b,k,hh=>by
  rw[Ma] at hh
  obtain⟨vals,vs,e,j,q⟩:=Zw S SS l hh
  refine⟨Fn st.s t::vals,a.tmps.getD t undef::vs,by simpa using e,?_,by rw[Reps];exact⟨_,_,rfl,A5 SS (.tmp t),q⟩⟩
  simp only[Ao4,TE,Sem.run_bind,Sem.run_pure,Result.andThen_ok,j]
 | .cell ad t::l,b,k,hh=>by
  rw[Ma] at hh
  obtain⟨v,vc,h0,e,j⟩:=bU S (fun _ _ h=>h) hh (A5 SS (.tmp ad))
  obtain⟨vals,vs,q,u,y⟩:=Zw S SS l h0
  refine⟨v::vals,vc::vs,by simpa using q,?_,by rw[Reps];exact⟨_,_,rfl,j,y⟩⟩
  have:(TE a.tmps (.cell ad t)).run E.P w=.ok vc w:=sb e
  simp only[Ao4,Sem.run_bind,this,Sem.run_pure,Result.andThen_ok,u]
theorem vQ {i:Nat} {m:Nat×Nat} {v v':AV} {ups:D3} {vc:Value} {h:Ap} (S:SimH J β h w) (hh:Ae3 (Ai h) i m v=some (v',ups)) (j:Rep J β h w v vc) :
  ∃ J' β',Step J β h w J' β' (Aj ups h) w∧Rep J' β' (Aj ups h) w v' vc∧(∀ b x,Ai (Aj ups h) b=some x→Ai h b=none→Gq≤b):=by
 have old:∀ {ups:D3},(∀ b,A3 ups b=true→∃ x,Ai h b=some x)→∀ b x,Ai (Aj ups h) b=some x→Ai h b=none→Gq≤b:=by
  intro ups G b x k hn
  cases hi:A3 ups b with
  | true=>obtain⟨y,I⟩:=G b hi;rw[I] at hn;cases hn
  | false=>rw[B9 _ _ _ hi,hn] at k;cases k
 unfold Ae3 at hh
 cases h0:beq m.1 0 with
 | true =>
  rw[h0] at hh;simp at hh
  obtain⟨rfl,rfl⟩:=hh
  exact⟨J,β,Step.refl S,j,old (by simp[A3])⟩
 | false =>
  rw[h0,cond_false] at hh
  cases D:beq m.1 1 with
  | true =>
   rw[D,cond_true] at hh
   split at hh
   ·simp at hh;obtain⟨rfl,rfl⟩:=hh
    rw[Rep] at j;subst j
    refine⟨J,β,Step.refl S,?_,old (by simp[A3])⟩
    rw[Rep,RepC]
    exact⟨by simp,none,0,rfl,Akw _,by simp,.inl rfl⟩
   ·simp at hh;obtain⟨rfl,rfl⟩:=hh
    refine⟨J,β,Step.refl S,?_,old (by simp[A3])⟩
    rw[Rep,RepC] at j ⊢
    obtain⟨e1,A,cap,K,e3,e4,L⟩:=j
    exact⟨e1,A,cap,K,e3,by simp,L⟩
   ·obtain⟨⟨M,O,T⟩,hq,u⟩:=ub hh
    simp at u;obtain⟨rfl,rfl⟩:=u
    obtain⟨J',A,hA,_⟩:=IX S (Looks.s fun _ _ h=>h) hq j
    refine⟨J',β,A,?_,old (nw hq)⟩
    unfold OS at hq
    obtain⟨x,k,q⟩:=ub hq
    obtain⟨_,F⟩:=uc q
    simp at F
    obtain⟨rfl,rfl,rfl⟩:=F
    rw[Rep];exact hA
   ·simp at hh
  | false =>
   rw[D,cond_false] at hh
   cases u:beq m.1 2 with
   | true =>
    rw[u,cond_true] at hh
    split at hh
    ·obtain⟨hn,q⟩:=uw hh
     simp at q;obtain⟨rfl,rfl⟩:=q
     have C:Ai h (nid 90000+i)=none:=by cases k:Ai h (nid 90000+i)<;>simp_all
     have A:=Step.newNone S (x:=Fo m.2) C rfl
     refine⟨J,fun b=>if b=nid 90000+i then none else β b,A,?_,fun b x k U=>?_⟩
     ·rw[Rep] at j;subst j;rw[Rep]
      exact⟨Fo m.2,none,0,⟨by simp only[Aj];rw[Ad,if_pos rfl],rfl⟩,rfl,Akw _,.inl rfl⟩
     ·simp only[Aj] at k
      rw[Ad] at k
      by_cases e:b=nid 90000+i
      ·subst e;unfold nid Gq;omega
      ·rw[if_neg e,U] at k;cases k
    ·simp at hh;obtain⟨rfl,rfl⟩:=hh
     exact⟨J,β,Step.refl S,j,old (by simp[A3])⟩
   | false =>
    rw[u,cond_false] at hh
    split at hh
    ·rename_i c
     obtain⟨⟨M,O,T⟩,hq,q⟩:=ub hh
     simp at q;obtain⟨rfl,rfl⟩:=q
     rw[Rep] at j
     obtain⟨cs,rfl,V⟩:=j
     obtain⟨J',A,hA,z,_⟩:=Pb S (Looks.s fun _ _ h=>h) hq V
     refine⟨J',β,A,?_,old (Wn hq)⟩
     rw[Rep]
     exact⟨cs,rfl,z.symm,hA⟩
    ·simp at hh;obtain⟨rfl,rfl⟩:=hh
     exact⟨J,β,Step.refl S,j,old (by simp[A3])⟩
    ·simp at hh
theorem cH {s:F8}:∀ (vals:LA) {i:Nat} {ms:List (Nat×Nat)} {h h':Ap} {vals':LA} {vs:List Value} {J:Bool→Nat→Prop} {β:B5},
  Inv Z nt J β { s:=s,h:=h } a w→rs h i ms vals=some (vals',h')→Reps J β h w vals vs →
  ∃ J' β',Inv Z nt J' β' { s:=s,h:=h' } a w∧Reps J' β' h' w vals' vs∧∀ x v,Rep J β h w x v→Rep J' β' h' w x v
 | [],i,ms,h,h',vals',vs,J,β,I,hh,e=>by
  simp[rs] at hh;obtain⟨rfl,rfl⟩:=hh
  exact⟨J,β,I,e,fun _ _ h=>h⟩
 | v::r,i,ms,h,h',vals',vs,J,β,I,hh,e=>by
  rw[rs] at hh
  obtain⟨⟨v1,u1⟩,z,C⟩:=ub hh
  obtain⟨⟨F,hr⟩,D,q⟩:=ub C
  simp at q;obtain⟨rfl,rfl⟩:=q
  rw[Reps] at e
  obtain⟨u,us,rfl,j,k⟩:=e
  obtain⟨J1,β1,A,hA,b⟩:=vQ I.sim z j
  have I1:=I.step A b
  obtain⟨J2,β2,I2,hB,y⟩:=cH r I1 D (Reps.ext A.ext k)
  refine⟨J2,β2,I2,?_,fun x v h=>y x v (Rep.ext A.ext h)⟩
  rw[Reps]
  exact⟨u,us,rfl,y _ _ hA,hB⟩
theorem ln {E:Env} {fn:Func} {modes:List (Nat×Nat)} {outs:List Nat} {k:AV→Ap→O R} (I:Inv Z nt J β st a w) (hh:Rz E fn modes outs k st=some r) :
  ∃ q h' vc J' β',k q h'=some r∧(results fn a.tmps).run E.P w=.ok vc w∧FDone Z J' β' h' w∧Rep J' β' h' w q vc:=by
 unfold Rz at hh
 obtain⟨vals,vs,F,M,S⟩:=Zw I.sim I.ss _ hh
 simp only[List.reverse_nil,Al1] at F
 obtain⟨⟨vals',h'⟩,T,U⟩:=ub F
 obtain⟨J1,β1,I1,hR,_⟩:=cH (s:=st.s) vals I T S
 obtain⟨G,V⟩:=uc U
 simp at G
 obtain⟨hn,hs,hi,_⟩:=G
 have hn:=Qw hn
 have y:=M8 hi
 have hs:=M8 hs
 refine⟨_,_,s_ vs,J1,GU _ _ β1,V,sa fn a.tmps M,?_,Rep.ren hn hs ?_⟩
 ·exact⟨I1.sim.ren hn y,I1.os,I1.tape,I1.output,I1.size,I1.frame,fun k X=>I1.wr k (qH hn X),I1.jsub,I1.jup,I1.sizes,fun b x0 x h0 z Y=>by
   obtain⟨K,x',j,A,C,rfl⟩:=Me hn b x z
   have:=cG j ⟨I1.zge b x0 h0,I1.zlt b x0 h0⟩ A
   subst this
   obtain⟨⟨e1,em⟩,e2,e3,e4⟩:=I1.outs K x0 x' h0 C Y
   refine⟨⟨?_,em⟩,e2,by rw[K4];exact e3,e4⟩
   have:=Gb (β:=β1) hn j
   rw[A] at this
   rw[this];exact e1,fun b x z=>by
   obtain⟨K,x',j,A,C,rfl⟩:=Me hn b x z
   obtain⟨x2,D,h8⟩:=s7 j
   rw[C] at D;simp at D;subst D;exact h8⟩
 ·match vals',vs,hR with
  | [],vs,hR=>rw[Reps] at hR;subst hR;simp only[s_,Ae4];rw[Rep];exact⟨[],rfl,by rw[Reps]⟩
  | [v],vs,hR =>
   rw[Reps] at hR
   obtain⟨u,us,rfl,L,e⟩:=hR
   rw[Reps] at e;subst e
   exact L
  | v::v2::l,vs,hR =>
   have hR':=hR
   rw[Reps] at hR
   obtain⟨u,us,rfl,L,e⟩:=hR
   rw[Reps] at e
   obtain⟨u2,us2,rfl,_,_⟩:=e
   simp only[s_,Ae4]
   rw[Rep]
   exact⟨_,rfl,hR'⟩
end
end Gx
namespace Gx
open Go
section
variable {J J':Bool→Nat→Prop} {β:B5} {h:Ap} {w:World}
mutual
theorem Rep.noOrg:∀ {x:AV} {v:Value},Zs x=false→Rep J β h w x v→Rep (fun _=>J false) β h w x v
 | .own ..,v,_,hr=>by rw[Rep] at hr ⊢;exact hr
 | .optr ..,v,_,hr=>by rw[Rep] at hr ⊢;exact hr
 | .omap ..,v,_,hr=>by rw[Rep] at hr ⊢;exact hr
 | .pagg c o,v,ho,hr=>by
  rw[Zs] at ho;subst ho
  rw[Rep] at hr ⊢;exact hr
 | .agg c,v,ho,hr=>by
  rw[Zs] at ho
  rw[Rep] at hr ⊢
  obtain⟨cs,h1,h2⟩:=hr
  exact⟨cs,h1,Reps.noOrg ho h2⟩
 | .tup c,v,ho,hr=>by
  rw[Zs] at ho
  rw[Rep] at hr ⊢
  obtain⟨cs,h1,h2⟩:=hr
  exact⟨cs,h1,Reps.noOrg ho h2⟩
 | .fn f c,v,ho,hr=>by
  rw[Zs] at ho
  rw[Rep] at hr ⊢
  obtain⟨cs,h1,h2⟩:=hr
  exact⟨cs,h1,Reps.noOrg ho h2⟩
 | .undef,_,_,_=>by rw[Rep];trivial
 | .imm c n sz t o,v,ho,hr=>by
  rw[Zs] at ho;subst ho
  rw[Rep] at hr ⊢;exact hr
 | .iptr c o,v,ho,hr=>by
  rw[Zs] at ho;subst ho
  rw[Rep] at hr ⊢;exact hr
 | .int ..,v,_,hr=>by rw[Rep] at hr ⊢;exact hr
 | .bool _,v,_,hr=>by rw[Rep] at hr ⊢;exact hr
 | .str _,v,_,hr=>by rw[Rep] at hr ⊢;exact hr
 | .nsl,v,_,hr=>by rw[Rep] at hr ⊢;exact hr
 | .nilptr,v,_,hr=>by rw[Rep] at hr ⊢;exact hr
 | .nilfn,v,_,hr=>by rw[Rep] at hr ⊢;exact hr
theorem Reps.noOrg:∀ {c:List AV} {cs:List Value},Rx c=false→Reps J β h w c cs→Reps (fun _=>J false) β h w c cs
 | [],_,_,hr=>by rw[Reps] at hr ⊢;exact hr
 | x::r,cs,ho,hr=>by
  rw[Rx] at ho
  simp at ho
  rw[Reps] at hr ⊢
  obtain⟨u,us,h1,h2,h3⟩:=hr
  exact⟨u,us,h1,Rep.noOrg ho.1 h2,Reps.noOrg ho.2 h3⟩
end
theorem iG:∀ {c:LA} {j:Nat} {x:AV},Rx c=false→c[j]?=some x→Zs x=false
 | [],j,x,_,b=>by simp at b
 | y::r,j,x,e,b=>by
  rw[Rx] at e
  simp at e
  cases j with
  | zero=>simp at b;subst b;exact e.1
  | succ j=>exact iG e.2 (by simpa using b)
theorem iH:∀ {h:Ap} {b:Nat} {x:Blk},SR h=false→Ai h b=some x→x.taint=false∧(x.pure=false→Rx x.cells=false)
 | [],b,x,_,e=>by simp[Ai] at e
 | (i,y)::r,b,x,j,e=>by
  rw[SR] at j
  simp at j
  rw[Ai] at e
  cases hi:beq i b with
  | true =>
   rw[hi] at e;simp at e;subst e
   refine⟨j.1.1,fun k=>?_⟩
   have:=j.1.2
   rw[k] at this;simpa using this
  | false=>rw[hi] at e;exact iH j.2 (by simpa using e)
theorem SimH.noOrg (S:SimH J β h w) (I:SR h=false):SimH (fun _=>J false) β h w:=by
 refine⟨fun _ k e=>S.jlt _ k e,fun k e=>e,S.gl.to (fun _ h=>h) (fun _ _=>rfl),fun b x q v y=>?_,fun b x q v y=>by
   obtain⟨z,A,k,ob,C,K,L,M⟩:=S.mblk b x q v y
   exact⟨z,A,k,ob,C,K,L,fun _ O=>M false O⟩,S.sep⟩
 obtain⟨F,T⟩:=iH I q
 rcases S.blk b x q v y with D | ⟨k,o,cs,ty,fr,D,U,V,X,G,Y,h7⟩
 ·exact .inl D
 ·refine .inr ⟨k,o,cs,ty,fr,D,U,V,X,⟨fun s=>?_,fun s j c e=>?_⟩,fun hs _=>Y hs _,fun hs=>?_⟩
  ·have:=G.1 s;rw[F] at this;exact this
  ·obtain⟨u,z,A,C⟩:=G.2 s j c e
   exact⟨u,z,Rep.noOrg (iG (T s) e) A,C⟩
  ·have:=h7 hs;rw[F] at this;exact this
theorem Ext.grow (hJ:∀ o k,J o k→J' o k):Ext J β h w J' β h w:=⟨hJ,fun _ _ _=>rfl,fun b x e=>⟨x,⟨e,rfl⟩,by cases j:x.dead<;>simp⟩,fun _ _ _ _=>Akw _⟩
theorem SimH.grow (S:SimH J β h w) (hJ:∀ o k,J o k→J' o k) (u:∀ o k,J' o k→k<w.heap.size) (v:∀ k,J' false k→J' true k)
  (e:∀ b x k o,Ai h b=some x→x.dead=false→x.sealed=false→β b=some (k,o)→∀ g,¬ J' g k):SimH J' β h w:=by
 refine⟨u,v,S.gl.to (hJ false) (fun _ _=>rfl),fun b x j q y=>?_,fun b x j q y=>by
   obtain⟨C,z,k,ob,A,D,F,O⟩:=S.mblk b x j q y
   exact⟨C,z,k,ob,A,D,F,e b x k 0 j q z A⟩,S.sep⟩
 rcases S.blk b x j q y with s | ⟨k,o,cs,ty,fr,s,G,I,K,L,T,M⟩
 ·exact .inl s
 ·exact .inr ⟨k,o,cs,ty,fr,s,G,I,K,L.ext (Ext.grow hJ),fun hs=>e b x k o j q hs s,fun hs=>hJ _ _ (M hs)⟩
def Af6 (β:B5) (h:Ap) (fz:List Nat) (k:Nat):Prop:=∃ b x o,b ∈ fz∧Ai h b=some x∧x.dead=false∧x.sealed=false∧β b=some (k,o)
def JS (J:Bool→Nat→Prop) (β:B5) (h:Ap) (fz:List Nat):Bool→Nat→Prop:=fun o k=>J o k∨(o=true∧Af6 β h fz k)
theorem iI {g:A7} {b off n:Nat} {x:Blk} {vc:Value} {fz:List Nat} (S:SimH J β h w) (F:Looks g h) (j:Fg g b=some x) (G:x.pure=true) (I:x.sealed=false→b ∈ fz) (C:Rep J β h w (.own b off n) vc) :
  Rep (JS J β h fz) β h w (.imm ((x.cells.drop off).take (n*x.sz)) n x.sz false (!x.sealed||x.taint)) vc:=by
 unfold Fg at j
 obtain⟨x0,y,j⟩:=ub j
 obtain⟨z,j⟩:=uw j
 simp at j;subst j
 have v:=F b _ y
 rw[Rep]
 have key:=(xc (J':=fun o k=>o≠x0.taint∨JS J β h fz (!x0.sealed||x0.taint) k) S v z G C (fun k o A=>.inr ?_) (fun o k s=>?_) false (!x0.sealed||x0.taint)).2 (by simp)
 ·exact RepC.keep (fun k u=>by rcases u with u | u;exact absurd rfl u;exact u) (fun _ _=>rfl) key
 ·cases hs:x0.sealed with
  | false =>
   simp only[Alq,Amo]
   exact .inr ⟨rfl,b,x0,o,I hs,v,z,hs,A⟩
  | true =>
   simp only[Am7,Am1]
   rcases S.blk b x0 v z (Aag v C) with⟨q,_⟩ | ⟨L,o',cs,ty,fr,q,M,O,T,U,V,K⟩
   ·rw[A] at q;cases q
   ·rw[A] at q;simp at q;obtain⟨rfl,rfl⟩:=q
    exact .inl (K hs)
 ·by_cases e:o=x0.taint
  ·subst e
   right
   cases hs:x0.sealed with
   | false =>
    simp only[Alq,Amo]
    left
    cases D:x0.taint with
    | false=>rw[D] at s;exact S.jft k s
    | true=>rw[D] at s;exact s
   | true=>simp only[Am7,Am1];exact .inl s
  ·exact .inl e
theorem JS.mono (S:SimH J β h w) {fz:List Nat} {a b:Bool} (k:Nat) (e:JS J β h fz a k):JS J β h fz (a||b) k:=by
 cases a
 ·cases b
  ·exact e
  ·rcases e with e | ⟨j,_⟩
   ·exact .inl (S.jft k e)
   ·cases j
 ·exact e
theorem lp {g:A7} {v v':AV} {o:Bool} {vc:Value} {fz:List Nat} (S:SimH J β h w) (z:Looks g h) (hh:DJ g v=some (v',o)) (C:∀ b off n x,v=.own b off n→g b=some x→x.sealed=false→b ∈ fz) (j:Rep J β h w v vc) :
  RepC (JS J β h fz o) w v' vc:=by
 cases v
 case own b off n =>
  rw[DJ] at hh
  obtain⟨x,e,D⟩:=ub hh
  obtain⟨F,y⟩:=uc D
  simp at y
  obtain⟨rfl,rfl⟩:=y
  have:=iI S z e F (fun hs=>by
   unfold Fg at e
   obtain⟨x0,q,e⟩:=ub e
   obtain⟨L,e⟩:=uw e
   simp at e;subst e
   exact C b off n x0 rfl q hs) j
  rw[Rep] at this;exact this
 case imm c n sz t org =>
  simp[DJ] at hh;obtain⟨rfl,rfl⟩:=hh
  rw[Rep,RepC] at j
  rw[RepC]
  obtain⟨e1,A,cap,G,e3,e4,s⟩:=j
  refine⟨e1,A,cap,G,e3,by simp,?_⟩
  rcases s with s | ⟨a,I,K,e8⟩
  ·exact .inl s
  ·exact .inr ⟨a,I,.inl K,RepCs.keep (fun k u=>.inl u) (fun _ _=>rfl) (fun _=>rfl) e8⟩
 case iptr c org =>
  simp[DJ] at hh;obtain⟨rfl,rfl⟩:=hh
  rw[Rep] at j
  exact RepC.keep (fun k u=>.inl u) (fun _ _=>rfl) j
 all_goals first
  | (simp[DJ] at hh;done)
  | (simp[DJ] at hh;obtain⟨rfl,rfl⟩:=hh;rw[Rep] at j;rw[RepC];exact j)
theorem JE {g:A7} {fz:List Nat} (S:SimH J β h w) (F:Looks g h):∀ {c q:LA} {o:Bool} {cs:List Value},IR g c=some (q,o)→(∀ b ∈ Iv g c,b ∈ fz)→Reps J β h w c cs →
  cs.length=q.length∧∀ (j:Nat) (x:AV),q[j]?=some x→∃ u,cs[j]?=some u∧RepC (JS J β h fz o) w x u
 | [],q,o,cs,hh,z,s=>by
  simp[IR] at hh;obtain⟨rfl,rfl⟩:=hh
  rw[Reps] at s;subst s
  exact⟨rfl,fun j x y=>by simp at y⟩
 | v::r,q,o,cs,hh,z,s=>by
  rw[IR] at hh
  obtain⟨⟨v1,o1⟩,G,hh⟩:=ub hh
  obtain⟨⟨X,o2⟩,I,hh⟩:=ub hh
  simp at hh;obtain⟨rfl,rfl⟩:=hh
  rw[Reps] at s
  obtain⟨u,us,rfl,K,L⟩:=s
  have A:∀ b ∈ Iv g r,b ∈ fz:=fun b C=>z b (by
   cases v<;>simp only[Iv]<;>try exact C
   split
   ·rename_i x _;cases x.sealed<;>simp[C]
   ·exact C)
  have a1:=lp (fz:=fz) S F G (fun b off n x e M hs=>z b (by subst e;simp[Iv,M,hs])) K
  obtain⟨O,T⟩:=JE S F I A L
  refine⟨by simp[O],fun j x y=>?_⟩
  cases j with
  | zero=>simp at y;subst y;exact⟨u,by simp,RepC.keep (fun k D=>JS.mono S k D) (fun _ _=>rfl) a1⟩
  | succ j =>
   obtain⟨U,e1,V⟩:=T j x (by simpa using y)
   exact⟨U,by simpa using e1,RepC.keep (fun k D=>by rw[Aos];exact JS.mono S k D) (fun _ _=>rfl) V⟩
theorem lq {g:A7} {v v':AV} {q:Bool} {vc:Value} {fz:List Nat} (S:SimH J β h w) (K:Looks g h) (hh:pb g v=some (v',q)) (L:∀ b ∈ AO g v,b ∈ fz) (y:Rep J β h w v vc) :
  Rep (JS J β h fz) β h w v' vc∧F9 v'=[]:=by
 unfold pb at hh
 split at hh
 ·rename_i b off n
  obtain⟨x,e,s⟩:=ub hh
  obtain⟨M,C⟩:=uc s
  simp at C
  obtain⟨rfl,_⟩:=C
  exact⟨iI S K e M (fun hs=>by
   unfold Fg at e
   obtain⟨x0,D,e⟩:=ub e
   obtain⟨G,e⟩:=uw e
   simp at e;subst e
   exact L b (by simp[AO,D,hs])) y,by simp[F9]⟩
 ·simp at hh;obtain⟨rfl,_⟩:=hh
  refine⟨?_,by simp[F9]⟩
  rw[Rep,RepC] at y ⊢
  obtain⟨e1,A,cap,O,e3,e4,T⟩:=y
  refine⟨e1,A,cap,O,e3,by simp,?_⟩
  rcases T with T | ⟨a,e6,e7,e8⟩
  ·exact .inl T
  ·exact .inr ⟨a,e6,.inl e7,RepCs.keep (fun k hk=>.inl hk) (fun _ _=>rfl) (fun _=>rfl) e8⟩
 ·rename_i b off
  obtain⟨x,e,s⟩:=ub hh
  obtain⟨M,C⟩:=uc s
  simp at C
  obtain⟨rfl,_⟩:=C
  unfold Fg at e
  obtain⟨x0,D,e⟩:=ub e
  obtain⟨G,e⟩:=uw e
  simp at e;subst e
  have U:=K b _ D
  refine⟨?_,by simp[F9]⟩
  rw[Rep] at y
  obtain⟨x1,k,o,⟨V,gm⟩,g2,F⟩:=y
  rw[U] at V;simp at V;subst V
  rcases F with F | F
  ·simp[G] at F
  ·rcases S.blk b x0 U G gm with⟨s,_⟩ | ⟨k',o',cs,ty,fr,s,C,h3,h4,h5,h6,h7⟩
   ·rw[F] at s;cases s
   ·rw[F] at s;simp at s;obtain⟨rfl,rfl⟩:=s
    have X:∀ I,J x0.taint I→JS J β h fz (!x0.sealed||x0.taint) I:=by
     intro I z
     left
     cases hs:x0.sealed with
     | false =>
      simp only[Alq,Amo]
      cases Y:x0.taint with
      | false=>rw[Y] at z;exact S.jft I z
      | true=>rw[Y] at z;exact z
     | true=>simp only[Am7,Am1];exact z
    rw[Rep,RepC]
    refine⟨_,g2,?_,?_⟩
    ·cases hs:x0.sealed with
     | false =>
      simp only[Alq,Amo]
      exact .inr ⟨rfl,b,x0,o,L b (by simp[AO,D,hs]),U,G,hs,F⟩
     | true =>
      simp only[Am7,Am1]
      exact .inl (h7 hs)
    ·refine RepCs.keep X (fun _ _=>rfl) (fun j=>?_) ((h5.1 M).drop off)
     rw[Addr.add_mid,M6 C,Alv]
 ·rename_i c
  obtain⟨⟨c1,o1⟩,s,C⟩:=ub hh
  simp at C;obtain⟨rfl,_⟩:=C
  rw[Rep] at y
  obtain⟨cs,rfl,y⟩:=y
  obtain⟨b1,b2⟩:=JE (fz:=fz) S K s (by simpa[AO] using L) y
  refine⟨?_,by simp[F9]⟩
  rw[Rep]
  refine⟨cs,rfl,b1,?_⟩
  rw[By]
  intro j x z
  obtain⟨u,e1,O⟩:=b2 j x z
  exact⟨u,by simpa using e1,O⟩
 ·simp at hh;obtain⟨rfl,_⟩:=hh
  exact⟨Rep.ext (Ext.grow fun _ _ z=>.inl z) y,by simp[F9,Hp]⟩
 ·simp at hh
 ·simp at hh
 ·simp at hh
 ·simp at hh
 ·simp at hh;obtain⟨rfl,_⟩:=hh
  refine⟨Rep.ext (Ext.grow fun _ _ z=>.inl z) y,?_⟩
  cases v<;>first | rfl | simp_all
theorem Wr {g:A7} {fz:List Nat} (S:SimH J β h w) (A:Looks g h):∀ {args:LA} {ms:List Bool} {args':LA} {im j:List Nat} {vs:List Value},
  AP g ms args=some (args',im,j)→(∀ b ∈ j,b ∈ fz)→Reps J β h w args vs→Reps (JS J β h fz) β h w args' vs∧∀ b ∈ Hp args',b ∈ im
 | [],ms,args',im,j,vs,hh,z,k=>by
  simp[AP] at hh;obtain⟨rfl,rfl,rfl⟩:=hh
  rw[Reps] at k;subst k
  exact⟨by rw[Reps],by simp[Hp]⟩
 | v::r,ms,args',im,j,vs,hh,z,k=>by
  rw[AP] at hh
  rw[Reps] at k
  obtain⟨u,us,rfl,q,s⟩:=k
  cases G:ms.headD false with
  | true =>
   rw[G,cond_true] at hh
   obtain⟨⟨a2,i2,f2⟩,C,y⟩:=ub hh
   simp at y;obtain⟨rfl,rfl,rfl⟩:=y
   obtain⟨D,F⟩:=Wr S A C z s
   refine⟨by rw[Reps];exact⟨u,us,rfl,Rep.ext (Ext.grow fun _ _ I=>.inl I) q,D⟩,fun b e=>?_⟩
   rw[Hp] at e
   rcases Ak2.1 e with e | e
   ·exact Ak2.2 (.inl e)
   ·exact Ak2.2 (.inr (F b e))
  | false =>
   rw[G,cond_false] at hh
   obtain⟨⟨v1,L⟩,h0,hh⟩:=ub hh
   obtain⟨⟨a2,i2,f2⟩,C,y⟩:=ub hh
   simp at y;obtain⟨rfl,rfl,rfl⟩:=y
   obtain⟨e1,K⟩:=lq S A h0 (fun b e=>z b (Ak2.2 (.inl e))) q
   obtain⟨D,F⟩:=Wr S A C (fun b e=>z b (Ak2.2 (.inr e))) s
   refine⟨by rw[Reps];exact⟨u,us,rfl,e1,D⟩,fun b e=>?_⟩
   rw[Hp,K] at e
   exact F b (by simpa using e)
end
end Gx
namespace Gx
open Go
theorem oD {g g':A7} {ρ:Nat→Nat}:∀ {ids:List Nat},(∀ b ∈ ids,g b=g' b)→sub g ρ ids=sub g' ρ ids
 | [],_=>rfl
 | b::r,h=>by
  rw[sub,sub,h b (by simp),oD (fun c e=>h c (by simp[e]))]
theorem JF {g:A7}:∀ {l:List Nat},IT g l=true→∀ b ∈ l,∃ x,g b=some x∧x.dead=false
 | [],_,b,e=>by simp at e
 | i::r,h,b,e=>by
  rw[IT] at h
  simp at h
  rcases Alb.1 e with rfl | e
  ·cases j:g b with
   | none=>rw[j] at h;simp at h
   | some x=>rw[j] at h;exact⟨x,rfl,by simpa using h.1⟩
  ·exact JF h.2 b e
theorem xi:∀ {l m:List Nat},ro l m=true→∀ b ∈ l,b ∉ m
 | [],m,_,b,e=>by simp at e
 | i::r,m,h,b,e=>by
  rw[ro] at h
  simp at h
  rcases Alb.1 e with rfl | e
  ·intro j;have:=J3.2 j;rw[this] at h;simp at h
  ·exact xi h.2 b e
theorem A_ {d:Nat}:∀ {l:List (Nat×Nat)} {b:Nat},b ∈ l.map (·.1)→H4 d l b ∈ l.map (·.2)
 | [],b,e=>by simp at e
 | (i,x)::r,b,e=>by
  rw[H4]
  cases hi:beq i b with
  | true=>simp
  | false =>
   have j:b ∈ r.map (·.1):=by
    rw[Ak9] at e
    rcases Alb.1 e with h | h
    ·exact absurd h.symm (Ug hi)
    ·exact h
   simp only[cond_false,Ak9]
   exact Amc _ (A_ j)
theorem Uw {d:Nat}:∀ {l m:List (Nat×Nat)} {b:Nat},H4 d (l++m) b=if b ∈ l.map (·.1) then H4 d l b else H4 d m b
 | [],m,b=>by simp
 | (i,x)::r,m,b=>by
  rw[Alh,H4,H4,Uw]
  cases hi:beq i b with
  | true=>have:=Ak0 hi;subst this;simp
  | false =>
   have:=Ug hi
   simp only[cond_false,Ak9,Alb]
   by_cases e:b ∈ r.map (·.1)
   ·rw[if_pos e,if_pos (.inr e)]
   ·rw[if_neg e,if_neg (by rintro(h | h);exact this h.symm;exact e h)]
theorem Ix:∀ {base:Nat} {l:List Nat},(Au base l).map (·.1)=l
 | _,[]=>rfl
 | base,i::r=>by rw[Au,Ak9,Ix]
theorem iJ {d k:Nat}:∀ {l:List Nat} {base b:Nat},b ∈ l→H4 k ((Au base l).map fun p=>(p.2,p.1)) (H4 d (Au base l) b)=b
 | [],base,b,e=>by simp at e
 | i::r,base,b,e=>by
  rw[Au,H4,Ak9,H4]
  cases hi:beq i b with
  | true=>have:=Ak0 hi;subst this;simp
  | false =>
   have j:b ∈ r:=by
    rcases Alb.1 e with h | h
    ·exact absurd h.symm (Ug hi)
    ·exact h
   simp only[cond_false]
   have q:=Wq (d:=d) (base:=base+1) j
   rw[IE (show base≠H4 d (Au (base+1) r) b by omega)]
   exact iJ j
theorem Qy:∀ {base:Nat} {l:List Nat} {c:Nat},c ∈ (Au base l).map (·.2)→base≤c∧c<base+l.length
 | _,[],c,b=>by simp[Au] at b
 | base,i::r,c,b=>by
  rw[Au,Ak9] at b
  rcases Alb.1 b with h | h
  ·simp at h;subst h;simp
  ·have:=Qy h;simp only[Ak8];omega
theorem Ws:∀ {base:Nat} {l:List Nat},((Au base l).map (·.2)).Nodup
 | _,[]=>by simp[Au]
 | base,i::r=>by
  rw[Au,Ak9,Alp]
  exact⟨fun h=>by have:=Qy h;simp at this;omega,Ws⟩
theorem JG:∀ {base:Nat} {l:List Nat} {b:Nat},b ∈ l→(b,H4 0 (Au base l) b) ∈ Au base l
 | _,[],b,e=>by simp at e
 | base,i::r,b,e=>by
  rw[Au,H4]
  cases hi:beq i b with
  | true=>have:=Ak0 hi;subst this;simp
  | false =>
   have j:b ∈ r:=by
    rcases Alb.1 e with h | h
    ·exact absurd h.symm (Ug hi)
    ·exact h
   simp only[cond_false]
   exact Amc _ (JG j)
def vR (x:Blk):Blk:={ x with dead:=true,pure:=true,cells:=[] }
theorem K5:∀ {ups:D3} {h:Ap} {b:Nat} {o:Option Blk},(ups.map (·.1)).Nodup→(b,o) ∈ ups→Ai (Aj ups h) b=match o with | some x=>some x | none=>(Ai h b).map vR
 | [],h,b,o,_,s=>by simp at s
 | (i,y)::r,h,b,o,hn,s=>by
  rw[Ak9,Alp] at hn
  rcases Alb.1 s with u | j
  ·simp at u
   obtain⟨rfl,rfl⟩:=u
   have k:A3 r b=false:=by
    have:∀ {r:D3},b ∉ r.map (·.1)→A3 r b=false:=by
     intro r
     induction r with
     | nil=>intro _;rfl
     | cons p r v =>
      intro h
      simp only[Ak9,Alb,not_or] at h
      rw[A3,IE (fun e=>h.1 e.symm)]
      exact v h.2
    exact this hn.1
   cases o with
   | some x=>rw[Aj,B9 _ _ _ k,Ad,if_pos rfl]
   | none =>
    rw[Aj,B9 _ _ _ k]
    cases z:Ai h b with
    | none=>simp[z]
    | some x=>simp only[Option.map_some];rw[Ad,if_pos rfl];rfl
  ·have q:b≠i:=fun e=>by subst e;exact hn.1 (Als.2 ⟨_,j,rfl⟩)
   cases y with
   | some x =>
    rw[Aj,K5 hn.2 j]
    cases o with
    | some _=>rfl
    | none=>simp only;rw[Ad,if_neg q]
   | none =>
    rw[Aj,K5 hn.2 j]
    cases o with
    | some _=>rfl
    | none =>
     simp only
     split
     ·rw[Ad,if_neg q]
     ·rfl
theorem ZC:∀ {ups:D3} {b:Nat},A3 ups b=true↔b ∈ ups.map (·.1)
 | [],b=>by simp[A3]
 | (i,y)::r,b=>by
  rw[A3,Ak9,Alb,←ZC]
  cases hi:beq i b with
  | true=>have:=Ak0 hi;subst this;simp
  | false=>have:=Ug hi;simp;intro e;exact absurd e.symm this
theorem iK {β:B5} {h:Ap} {ρ:Nat→Nat} {ids:List Nat} (hn:(ids.map ρ).Nodup) {k:Nat} (q:rx (GU ρ ids β) (sub (Ai h) ρ ids) k) :
  ∃ b x o,b ∈ ids∧Ai h b=some x∧x.dead=false∧x.sealed=false∧β b=some (k,o):=by
 obtain⟨c,y,o,s,u,hs,e⟩:=q
 obtain⟨b,x,j,rfl,v,rfl⟩:=Me hn c y s
 rw[Gb hn j] at e
 exact⟨b,x,o,j,v,u,hs,e⟩
theorem SimH.unJ {J:Bool→Nat→Prop} {β:B5} {h:Ap} {w:World} (S:SimH J β h w) {b:Nat} {x:Blk} {k o:Nat} (q:Ai h b=some x) (s:x.dead=false) (hs:x.sealed=false) (j:β b=some (k,o)):∀ g,¬ J g k:=by
 cases u:x.mp with
 | false =>
  rcases S.blk b x q s u with⟨e,_⟩ | ⟨y,o2,cs,ty,fr,e,v,A,C,D,z,F⟩
  ·rw[j] at e;cases e
  ·rw[j] at e;simp at e;obtain⟨rfl,rfl⟩:=e
   exact z hs
 | true =>
  obtain⟨_,_,y,ob,e,_,_,v⟩:=S.mblk b x q s u
  rw[j] at e;simp at e;obtain⟨rfl,_⟩:=e
  exact v
theorem SimH.seJ {J:Bool→Nat→Prop} {β:B5} {h:Ap} {w:World} (S:SimH J β h w) {b:Nat} {x:Blk} {k o:Nat} (j:Ai h b=some x) (q:x.dead=false) (hs:x.sealed=true) (s:β b=some (k,o)):J x.taint k:=by
 cases u:x.mp with
 | false =>
  rcases S.blk b x j q u with⟨e,_⟩ | ⟨y,o2,cs,ty,fr,e,z,A,C,D,F,v⟩
  ·rw[s] at e;cases e
  ·rw[s] at e;simp at e;obtain⟨rfl,rfl⟩:=e
   exact v hs
 | true =>
  have:=(S.mblk b x j q u).2.1
  rw[hs] at this;cases this
theorem Step.merge {J J0 J1:Bool→Nat→Prop} {β β1:B5} {h h1 H:Ap} {w w':World} {D ids:List Nat} (S:SimH J β h w) (S1:SimH J0 β1 h1 w')
  (hH:∀ b,b ∉ D→Ai H b=Ai h b)
  (hD:∀ b x,b ∈ D→Ai H b=some x→x.dead=false→Ai h1 b=some x)
  (hD1:∀ b x,Ai h1 b=some x→b ∈ D∧Ai H b=some x)
  (hnew:∀ b x,b ∈ D→b ∉ ids→Ai h b≠some x)
  (hold:∀ b x,b ∈ ids→Ai h b=some x→∃ x',(Ai H b=some x'∧x'.mp=x.mp)∧(x'.dead=true∨(x.dead=false∧β1 b=β b∧x'.sz=x.sz∧(x.mp=false→x'.cells.length=x.cells.length))))
  (G:∀ b ∈ ids,b ∈ D)
  (os:w'.os=w.os) (tape:w'.tape=w.tape) (output:w'.output=w.output) (size:w.heap.size≤w'.heap.size)
  (frame:∀ k,k<w.heap.size→(¬ ∃ b x o,b ∈ ids∧Ai h b=some x∧x.dead=false∧x.sealed=false∧β b=some (k,o))→w'.heap[k]?=w.heap[k]?)
  (wr:∀ k,rx β1 h1 k→k<w.heap.size→∃ b x o,b ∈ ids∧Ai h b=some x∧x.dead=false∧x.sealed=false∧β b=some (k,o))
  (jup:∀ o k,J0 o k→J o k∨(∃ b x o,b ∈ ids∧Ai h b=some x∧x.dead=false∧x.sealed=false∧β b=some (k,o))∨w.heap.size≤k)
  (sizes:∀ k,At w k≤At w' k) :
  Step J β h w (fun o k=>J o k∨J0 o k) (fun b=>if b ∈ D then β1 b else β b) H w'∧Ext J0 β1 h1 w' (fun o k=>J o k∨J0 o k) (fun b=>if b ∈ D then β1 b else β b) H w':=by
 have E0:Ext J0 β1 h1 w' (fun o k=>J o k∨J0 o k) (fun b=>if b ∈ D then β1 b else β b) H w':=by
  refine⟨fun _ _ e=>.inr e,fun _ _ _=>rfl,fun b x j=>?_,fun _ _ _ _=>Akw _⟩
  obtain⟨A,F⟩:=hD1 b x j
  refine⟨x,⟨F,rfl⟩,?_⟩
  cases s:x.dead
  ·exact .inr ⟨rfl,by simp[A],rfl,fun _=>rfl⟩
  ·exact .inl rfl
 have keepJ:∀ o k,J o k→w'.heap[k]?=w.heap[k]?:=by
  intro o k e
  refine frame k (S.jlt o k e) ?_
  rintro⟨b,x,o',_,j,s,hs,y⟩
  exact S.unJ j s hs y o e
 have E:Ext J β h w (fun o k=>J o k∨J0 o k) (fun b=>if b ∈ D then β1 b else β b) H w':=by
  refine⟨fun _ _ e=>.inl e,keepJ,fun b x j=>?_,fun b k o _=>sizes k⟩
  by_cases hi:b ∈ ids
  ·obtain⟨x',A,F⟩:=hold b x hi j
   refine⟨x',A,?_⟩
   simp only[G b hi,if_true]
   exact F
  ·have hnd:b ∉ D:=fun s=>hnew b x s hi j
   refine⟨x,⟨by rw[hH b hnd];exact j,rfl⟩,?_⟩
   cases s:x.dead
   ·exact .inr ⟨rfl,by simp[hnd],rfl,fun _=>rfl⟩
   ·exact .inl rfl
 have out:∀ {b x},b ∉ D→Ai H b=some x→Ai h b=some x:=fun j C=>by rw[←hH _ j];exact C
 refine⟨⟨E,⟨?_,?_,S.gl.ext E,fun b x C s hm=>?_,fun b x C s hm=>by
   by_cases j:b ∈ D
   ·have A:=hD b x j C s
    have M:=S1.mblk b x A s hm
    refine M.keep (by simp[j]) (fun _ _ _=>rfl) (fun g k o y e=>?_)
    rcases e with e | e
    ·exfalso
     by_cases L:k<w.heap.size
     ·obtain⟨O,x',o',v,z,u,I,q⟩:=wr k ⟨b,x,o,A,s,M.2.1,y⟩ L
      exact S.unJ z u I q g e
     ·exact L (S.jlt g k e)
    ·exact e
   ·have A:=out j C
    have M:=S.mblk b x A s hm
    have K:∀ k o,β b=some (k,o)→¬ ∃ b x o,b ∈ ids∧Ai h b=some x∧x.dead=false∧x.sealed=false∧β b=some (k,o):=by
     rintro k o F ⟨O,x',o',v,z,u,I,q⟩
     have:=S.sep b O x x' k o o' A z s u M.2.1 F q
     subst this
     exact j (G b v)
    refine M.keep (by simp[j]) (fun k o y=>frame k (My S A s y) (K k o y)) (fun g k o y e=>?_)
    rcases e with e | e
    ·exact e
    ·rcases jup g k e with e | e | e
     ·exact e
     ·exact absurd e (K k o y)
     ·have:=My S A s y;omega,?_⟩,os,tape,output,size,?_,?_,?_⟩,E0⟩
 ·rintro o k (e | e)
  ·exact Ame (S.jlt o k e) size
  ·exact S1.jlt o k e
 ·rintro k (e | e)
  ·exact .inl (S.jft k e)
  ·exact .inr (S1.jft k e)
 ·by_cases j:b ∈ D
  ·have A:=hD b x j C s
   rcases S1.blk b x A s hm with⟨F,Y⟩ | ⟨k,o,cs,ty,fr,F,Y,h5,h6,h7,h8,h9⟩
   ·exact .inl ⟨by simp[j,F],Y⟩
   ·refine .inr ⟨k,o,cs,ty,fr,by simp[j,F],Y,h5,h6,h7.ext E0,fun hs g e=>?_,fun hs=>.inr (h9 hs)⟩
    rcases e with e | e
    ·by_cases L:k<w.heap.size
     ·obtain⟨O,x',o',v,z,u,I,q⟩:=wr k ⟨b,x,o,A,s,hs,F⟩ L
      exact S.unJ z u I q g e
     ·exact L (S.jlt g k e)
    ·exact h8 hs g e
  ·have A:=out j C
   rcases S.blk b x A s hm with⟨F,Y⟩ | ⟨k,o,cs,ty,fr,F,Y,h5,h6,h7,h8,h9⟩
   ·exact .inl ⟨by simp[j,F],Y⟩
   ·have L:=Pa Y
    have K:x.sealed=false→¬ ∃ b x o,b ∈ ids∧Ai h b=some x∧x.dead=false∧x.sealed=false∧β b=some (k,o):=by
     rintro hs ⟨O,x',o',v,z,u,I,q⟩
     have:=S.sep b O x x' k o o' A z s u hs F q
     subst this
     exact j (G b v)
    have same:w'.heap[k]?=w.heap[k]?:=by
     cases hs:x.sealed with
     | false=>exact frame k L (K hs)
     | true=>exact keepJ _ k (h9 hs)
    refine .inr ⟨k,o,cs,ty,fr,by simp[j,F],by rw[same];exact Y,h5,h6,h7.ext E,fun hs g e=>?_,fun hs=>.inl (h9 hs)⟩
    rcases e with e | e
    ·exact h8 hs g e
    ·rcases jup g k e with e | e | e
     ·exact h8 hs g e
     ·exact K hs e
     ·omega
 ·intro b O x x' k o o' C z s u hs y q
  by_cases j:b ∈ D<;>by_cases v:O ∈ D
  ·simp[j] at y;simp[v] at q
   exact S1.sep b O x x' k o o' (hD b x j C s) (hD O x' v z u) s u hs y q
  ·exfalso
   simp[j] at y;simp[v] at q
   have A:=out v z
   have L:=My S A u q
   obtain⟨b2,x2,o2,hb2,T,U,X,V⟩:=wr k ⟨b,x,o,hD b x j C s,s,hs,y⟩ L
   have:=S.sep b2 O x2 x' k o2 o' T A U u X V q
   subst this
   exact v (G _ hb2)
  ·exfalso
   simp[j] at y;simp[v] at q
   have A:=out j C
   have F:=hD O x' v z u
   have L:=My S A s y
   have K:¬ ∃ b x o,b ∈ ids∧Ai h b=some x∧x.dead=false∧x.sealed=false∧β b=some (k,o):=by
    rintro⟨b2,x2,o2,hb2,T,U,X,V⟩
    have:=S.sep b b2 x x2 k o o2 A T s U hs y V
    subst this
    exact j (G _ hb2)
   cases I:x'.sealed with
   | false=>exact K (wr k ⟨O,x',o',F,u,I,q⟩ L)
   | true =>
    rcases jup _ k (S1.seJ F u I q) with e | e | e
    ·exact S.unJ A s hs y _ e
    ·exact K e
    ·omega
  ·simp[j] at y;simp[v] at q
   exact S.sep b O x x' k o o' (out j C) (out v z) s u hs y q
 ·intro k L hm
  exact frame k L (fun ⟨b,x,o,_,C,s,hs,y⟩=>hm ⟨b,x,o,C,s,hs,y⟩)
 ·rintro k ⟨b,x,o,C,s,hs,y⟩ L
  by_cases j:b ∈ D
  ·simp[j] at y
   obtain⟨b2,x2,o2,_,T,U,X,V⟩:=wr k ⟨b,x,o,hD b x j C s,s,hs,y⟩ L
   exact⟨b2,x2,o2,T,U,X,V⟩
  ·simp[j] at y
   exact⟨b,x,o,out j C,s,hs,y⟩
 ·rintro o k (e | e)
  ·exact .inl e
  ·rcases jup o k e with e | ⟨b,x,o2,_,C,s,hs,y⟩ | e
   ·exact .inl e
   ·exact .inr (.inl ⟨b,x,o2,C,s,hs,y⟩)
   ·exact .inr (.inr e)
theorem vS {l:List Nat}:pc l=true↔l=[]:=by cases l<;>simp[pc]
theorem DX {α β:Type} {f:α→β}:∀ {l:List α},(l.map f).Nodup→l.Nodup
 | [],_=>Ao6
 | a::r,h=>by
  rw[Ak9,Alp] at h
  exact Alp.2 ⟨fun b=>h.1 (Als.2 ⟨a,b,rfl⟩),DX h.2⟩
theorem DY {α:Type} {p:α→Bool}:∀ {l:List α},l.Nodup→(l.filter p).Nodup
 | [],_=>Ao6
 | a::r,h=>by
  rw[Alp] at h
  rw[Amg]
  split
  ·exact Alp.2 ⟨fun b=>h.1 (Amy.1 b).1,DY h.2⟩
  ·exact DY h.2
theorem TF {base:Nat} {l:List Nat} {p:Nat×Nat} (b:p ∈ Au base l):p.1 ∈ l:=by
 have:p.1 ∈ (Au base l).map (·.1):=Als.2 ⟨p,b,rfl⟩
 rw[Ix] at this;exact this
theorem xj {σ:Nat→Nat}:∀ {l:List Nat} {a b:Nat},(l.map σ).Nodup→a ∈ l→b ∈ l→σ a=σ b→a=b
 | [],a,b,_,k,_,_=>by simp at k
 | i::r,a,b,hn,k,s,q=>by
  rw[Ak9,Alp] at hn
  rcases Alb.1 k with e | e<;>rcases Alb.1 s with j | j
  ·rw[e,j]
  ·subst e;exact absurd (Als.2 ⟨b,j,q.symm⟩) hn.1
  ·subst j;exact absurd (Als.2 ⟨a,e,q⟩) hn.1
  ·exact xj hn.2 e j q
theorem Aaq {E:Env} (hT:iF E.P E.tbl):QZ E:=by
 intro R r k J β h w g d f args vs S hl hh hv
 unfold nq at hh
 obtain⟨⟨args',im,fz⟩,K,h1⟩:=ub hh
 simp only at h1
 obtain⟨u,h2⟩:=uc h1
 simp only[Ak1] at u
 obtain⟨Y,him,hin,hdj,v,_⟩:=u
 generalize hids:Wi g im=ids at *
 generalize hρ:H4 0 (Au 100000 ids)=ρ at *
 have Y:=JF Y
 have him:=M8 him
 have hdj:=xi hdj
 have v:=Qw v
 have hg:∀ b ∈ ids,g b=Ai h b:=fun b j=>by obtain⟨x,s,_⟩:=Y b j;rw[s,hl b x s]
 rw[X4 (g:=Ai h) hg] at hin
 have hin:=M8 hin
 rw[oD (g':=Ai h) hg] at h2
 obtain⟨hA,hB⟩:=Wr (fz:=fz) S hl K (fun _ h=>h) hv
 have aliveH:∀ b ∈ ids,∃ x,Ai h b=some x∧x.dead=false:=fun b j=>by obtain⟨x,s,L⟩:=Y b j;exact⟨x,hl b x s,L⟩
 have SJ:SimH (JS J β h fz) (GU ρ ids β) (sub (Ai h) ρ ids) w:=by
  refine(S.ren v hin).grow (fun o k z=>.inl z) ?_ ?_ ?_
  ·rintro o k (z | ⟨_,b,x,o',_,s,L,_,hβ⟩)
   ·exact S.jlt o k z
   ·exact My S s L hβ
  ·rintro k (z | ⟨h0,_⟩)
   ·exact .inl (S.jft k z)
   ·cases h0
  ·intro c y k o hy L hs hβ q z
   obtain⟨b,x,j,rfl,s,rfl⟩:=Me v c y hy
   rw[Gb v j] at hβ
   rcases z with z | ⟨_,b',x',o',hb',hx',hd',hs',hβ'⟩
   ·exact S.unJ s L hs hβ _ z
   ·have:=S.sep b b' x x' k o o' s hx' L hd' hs hβ hβ'
    subst this
    exact hdj b hb' j
 have RJ:Reps (JS J β h fz) (GU ρ ids β) (sub (Ai h) ρ ids) w (Uf ρ args') vs:=Reps.ren v (fun b j=>him b (hB b j)) hA
 obtain⟨rv,rh,hF,h3⟩:=s9 hT h2
 have hcall:=hF _ _ w vs SJ RJ
 obtain⟨G,h4⟩:=uw h3
 obtain⟨hc2,h5⟩:=uc h4
 simp only[Ak1] at hc2
 obtain⟨O,hn16,hrv,C,T,A⟩:=hc2
 generalize hall:Wi (Ai rh) (F9 rv++(Au 100000 ids).map (·.2))=all at *
 generalize U:all.filter (fun b=>!Hq ((Au 100000 ids).map (·.2)) b)=new at *
 generalize hσ:H4 0 ((Au 100000 ids).map (fun p=>(p.2,p.1))++Au (nid d) new)=σ at *
 have O:=JF O
 have hrv:=M8 hrv
 have C:=M8 C
 have T:=M8 T
 have A:=Qw A
 have hn16:new.length≤16:=by simpa using hn16
 refine⟨_,_,h5,fun hfree=>Calls.mono hcall ?_⟩
 rintro e w' ⟨vc,J',β',rfl,F,hR⟩
 refine⟨vc,rfl,?_⟩
 have back:∀ b ∈ ids,σ (ρ b)=b:=by
  intro b j
  rw[←hσ,Uw,if_pos,←hρ]
  ·exact iJ j
  ·rw[Ang]
   have:=A_ (d:=0) (l:=Au 100000 ids) (b:=b) (by rw[Ix];exact j)
   rw[hρ] at this
   exact this
 have ρall:∀ b ∈ ids,ρ b ∈ all:=by
  intro b j
  refine C _ ?_
  have:=A_ (d:=0) (l:=Au 100000 ids) (b:=b) (by rw[Ix];exact j)
  rw[hρ] at this
  exact this
 have σout:∀ c ∈ all,c ∈ (Au 100000 ids).map (·.2)→σ c ∈ ids:=by
  intro c _ u
  rw[←hσ,Uw,if_pos (by rw[Ang];exact u)]
  have:=A_ (d:=0) (l:=(Au 100000 ids).map (fun p=>(p.2,p.1))) (b:=c) (by rw[Ang];exact u)
  rw[Ang] at this
  have e:(Au 100000 ids).map ((fun x=>x.2)∘fun p=>(p.2,p.1))=ids:=Ix
  rw[e] at this
  exact this
 have newmem:∀ c ∈ new,c ∈ all∧c ∉ (Au 100000 ids).map (·.2):=by
  intro c u
  rw[←U] at u
  obtain⟨V,h7⟩:=Amy.1 u
  refine⟨V,fun I=>?_⟩
  rw[J3.2 I] at h7;simp at h7
 have σnew:∀ c ∈ new,σ c=H4 0 (Au (nid d) new) c:=by
  intro c u
  rw[←hσ,Uw,if_neg]
  rw[Ang];exact(newmem c u).2
 have allcases:∀ c ∈ all,c ∈ (Au 100000 ids).map (·.2)∨c ∈ new:=by
  intro c u
  by_cases I:c ∈ (Au 100000 ids).map (·.2)
  ·exact .inl I
  ·refine .inr ?_
   rw[←U]
   refine Amy.2 ⟨u,?_⟩
   cases hq:Hq ((Au 100000 ids).map (·.2)) c with
   | false=>rfl
   | true=>exact absurd (J3.1 hq) I
 generalize X:((Au 100000 ids).map fun p=>(p.1,(Ai rh p.2).map (Xw σ)))++(Au (nid d) new).map (fun p=>(p.2,(Ai rh p.1).map (Xw σ)))=ups at *
 have keys:ups.map (·.1)=ids++(Au (nid d) new).map (·.2):=by
  rw[←X,Al6,Ang,Ang]
  congr 1
  exact Ix
 have newFree:∀ c ∈ (Au (nid d) new).map (·.2),Ai h c=none:=by
  intro c u
  refine hfree c (ZC.2 (by rw[keys];exact Ak2.2 (.inr u))) ?_
  have:=Qy u
  unfold AQ
  simp;omega
 have keysN:(ups.map (·.1)).Nodup:=by
  rw[keys,List.nodup_append]
  refine⟨DX v,Ws,fun a ha b j e=>?_⟩
  subst e
  obtain⟨x,s,_⟩:=aliveH a ha
  rw[newFree a j] at s;cases s
 have upsOld:∀ b ∈ ids,(b,(Ai rh (ρ b)).map (Xw σ)) ∈ ups:=by
  intro b j
  rw[←X]
  refine Ak2.2 (.inl (Als.2 ⟨(b,ρ b),?_,rfl⟩))
  rw[←hρ];exact JG j
 have upsNew:∀ c ∈ new,(σ c,(Ai rh c).map (Xw σ)) ∈ ups:=by
  intro c u
  rw[←X]
  refine Ak2.2 (.inr (Als.2 ⟨(c,σ c),?_,rfl⟩))
  rw[σnew c u];exact JG u
 have J0:∃ J0:Bool→Nat→Prop,SimH J0 β' rh w'∧Rep J0 β' rh w' rv vc∧∀ o k,J0 o k→J o k∨rx (GU ρ ids β) (sub (Ai h) ρ ids) k∨w.heap.size≤k:=by
  cases he:pc fz with
  | true =>
   have:=vS.1 he
   subst this
   refine⟨J',F.sim,hR,fun o k z=>?_⟩
   rcases F.jup o k z with(z | ⟨_,b,x,o',j,_⟩) | z
   ·exact .inl z
   ·simp at j
   ·exact .inr z
  | false =>
   rw[he] at G
   simp at G
   refine⟨fun _=>J' false,F.sim.noOrg G.2,Rep.noOrg G.1 hR,fun o k z=>?_⟩
   rcases F.jup false k z with(V | ⟨h0,_⟩) | V
   ·left
    cases o
    ·exact V
    ·exact S.jft k V
   ·cases h0
   ·exact .inr V
 obtain⟨J0,S0,R0,jup0⟩:=J0
 have S1:=S0.ren A T
 have R1:=Rep.ren A hrv R0
 have M:=Step.merge (J:=J) (J0:=J0) (J1:=J0) (H:=Aj ups h) (D:=ids++(Au (nid d) new).map (·.2)) (ids:=ids) S S1
  (fun b j=>B9 _ _ _ (by
   cases hi:A3 ups b with
   | false=>rfl
   | true=>exact absurd (by rw[←keys];exact ZC.1 hi) j))
  (fun b x j s L=>by
   rcases Ak2.1 j with j | j
   ·rw[K5 keysN (upsOld b j)] at s
    cases hq:Ai rh (ρ b) with
    | none =>
     rw[hq] at s;simp at s
     obtain⟨y,_,rfl⟩:=s
     simp[vR] at L
    | some y =>
     rw[hq] at s;simp at s;subst s
     have:=X5 (g:=Ai rh) A (ρ b) y (ρall b j) hq
     rw[back b j] at this
     exact this
   ·obtain⟨c,u,rfl⟩:∃ c ∈ new,σ c=b:=by
     obtain⟨p,K,rfl⟩:=Als.1 j
     have hp1:p.1 ∈ new:=TF K
     refine⟨p.1,hp1,?_⟩
     rw[σnew _ hp1]
     have:∀ {base:Nat} {l:List Nat} {p:Nat×Nat},l.Nodup→p ∈ Au base l→H4 0 (Au base l) p.1=p.2:=by
      intro base l
      induction l generalizing base with
      | nil=>intro p _ K;simp[Au] at K
      | cons i r ih =>
       intro p hn K
       rw[Alp] at hn
       rw[Au] at K ⊢
       rw[H4]
       rcases Alb.1 K with rfl | K
       ·simp
       ·have:p.1 ∈ r:=TF K
        rw[IE (fun e=>hn.1 (by rw[e];exact this))]
        exact ih hn.2 K
     refine this ?_ K
     rw[←U]
     exact DY (DX A)
    rw[K5 keysN (upsNew c u)] at s
    obtain⟨y,hy,_⟩:=O c u
    rw[hy] at s;simp at s;subst s
    exact X5 (g:=Ai rh) A c y (newmem c u).1 hy)
  (fun b x j=>by
   obtain⟨c,y,u,rfl,hy,rfl⟩:=Me A b x j
   rcases allcases c u with I | I
   ·have V:=σout c u I
    have h7:ρ (σ c)=c:=by
     have:(all.map σ).Nodup:=A
     have e1:=back (σ c) V
     have e2:=ρall (σ c) V
     exact xj this e2 u e1
    refine⟨Ak2.2 (.inl V),?_⟩
    rw[K5 keysN (upsOld (σ c) V),h7,hy];rfl
   ·refine⟨Ak2.2 (.inr ?_),?_⟩
    ·rw[σnew c I]
     exact A_ (by rw[Ix];exact I)
    ·rw[K5 keysN (upsNew c I),hy];rfl)
  (fun b x j hni s=>by
   rcases Ak2.1 j with j | j
   ·exact hni j
   ·rw[newFree b j] at s;cases s)
  (fun b x j s=>by
   rw[K5 keysN (upsOld b j)]
   cases hq:Ai rh (ρ b) with
   | none=>exact⟨vR x,⟨by simp[s],rfl⟩,.inl rfl⟩
   | some y =>
    cases L:y.dead with
    | true=>have:=F.live _ _ hq;rw[L] at this;cases this
    | false =>
     have e0:=X5 (g:=Ai h) v b x j s
     obtain⟨⟨e1,em⟩,e2,e3,e4⟩:=F.outs (ρ b) _ y e0 hq L
     refine⟨Xw σ y,⟨by simp,em⟩,.inr ?_⟩
     refine⟨e4,?_,e2,fun hmx=>?_⟩
     ·have:=Gb (β:=β') A (ρall b j)
      rw[back b j] at this
      rw[this,e1]
      exact Gb v j
     ·rw[K4,e3 hmx,K4])
  (fun b j=>Ak2.2 (.inl j))
  F.os F.tape F.output F.size
  (fun k hk I=>F.frame k hk (fun hm'=>I (iK v hm')))
  (fun k I hk=>iK v (F.wr k (qH A I) hk))
  (fun o k z=>by
   rcases jup0 o k z with z | z | z
   ·exact .inl z
   ·exact .inr (.inl (iK v z))
   ·exact .inr (.inr z))
  F.sizes
 exact⟨_,_,M.1,Rep.ext M.2 R1⟩
theorem JH {P:Program} {muts:Nat→List Bool} {T:List (Nat×Tw)} {hs:Hints} {N f:Nat} {args:LA} {h:Ap} {u:AV} {h':Ap} (hT:iF P T) (L:P.follows .mixedOrders=true)
  (hh:bR P muts T hs N f args h (fun v h'=>some (v,h'))=some (u,h')):ri P f args h u h':=by
 unfold bR at hh
 split at hh
 ·simp at hh
 ·rename_i fn M
  split at hh
  ·simp at hh
  ·rename_i c X
   simp only at hh
   obtain⟨A,Y⟩:=uc hh
   simp only[Ak1] at A
   obtain⟨z,k⟩:=A
   have z:args.length≤fn.ntmps:=by simpa using z
   intro J β w vs S V
   have hvl:vs.length=args.length:=((B6).1 V).1
   refine calls_of_wp M X ?_
   have roots:∀ {h:Ap} {b:Nat} {x:Blk},SU h=true→Ai h b=some x→gX b=true:=by
    intro h
    induction h with
    | nil=>intro b x _ e;simp[Ai] at e
    | cons p r O =>
     intro b x hr e
     obtain⟨i,y⟩:=p
     rw[SU] at hr
     simp at hr
     rw[Ai] at e
     cases hi:beq i b with
     | true=>have:=Ak0 hi;subst this;exact hr.1
     | false=>rw[hi] at e;exact O hr.2 (by simpa using e)
   have sgetI:∀ {args:LA} {j i:Nat},Fn (gY j args) i=if j≤i then (args[i - j]?).getD .undef else .undef:=by
    intro args
    induction args with
    | nil=>intro j i;simp[gY,Fn]
    | cons v r O =>
     intro j i
     rw[gY,Fn]
     cases hi:beq j i with
     | true=>have:=Ak0 hi;subst this;simp
     | false =>
      have:=Ug hi
      simp only[cond_false]
      rw[O]
      by_cases C:j+1≤i
      ·rw[if_pos C,if_pos (by omega),show i - j=(i - (j+1))+1 by omega];simp
      ·rw[if_neg C]
       by_cases q:j≤i
       ·omega
       ·rw[if_neg q]
   have I:Inv ⟨J,β,h,w⟩ fn.ntmps J β { s:=gY 0 args,h:=h } { tmps:=vs.toArray++Array.replicate (fn.ntmps - vs.toArray.size) undef,defers:=[] } w:=by
    refine⟨S,⟨fun i v hi=>?_,fun i hi=>?_⟩,?_,rfl,rfl,rfl,rfl,Akw _,fun _ _ _=>rfl,fun _ L _=>L,fun _ _ U=>U,fun _ _ U=>.inl U,fun _=>Akw _,?_,?_,?_⟩
    ·rw[sgetI,if_pos (An2 _)]
     by_cases D:i<args.length
     ·have q:args[i - 0]?=some args[i]:=by simp[D]
      rw[q]
      have F:vs[i]?=some v:=by
       rw[Anj (by simp;omega)] at hi
       simpa using hi
      exact((B6).1 V).2 i _ _ (by simp[D]) F
     ·have q:args[i - 0]?=none:=by simp;omega
      rw[q];simp[Rep]
    ·simp at hi
     rw[sgetI,if_pos (An2 _)]
     have q:args[i - 0]?=none:=by simp;omega
     rw[q];rfl
    ·simp;omega
    ·intro b x0 e;exact(iD.1 (roots k e)).2
    ·intro b x0 e;exact(iD.1 (roots k e)).1
    ·intro b x0 x e G hd
     change Ai h b=some x0 at e
     change Ai h b=some x at G
     rw[e] at G;simp at G;subst G
     exact⟨⟨rfl,rfl⟩,rfl,fun _=>rfl,hd⟩
   have fin:∀ st' K w' J' β',Inv ⟨J,β,h,w⟩ fn.ntmps J' β' st' K w'→Rz { P:=P,nt:=fn.ntmps,muts:=muts,nils:=hs.nils,free:=hs.free,cob:=hs.cob,tbl:=T } fn hs.modes (h.map (·.1)) (fun v h'=>some (v,h')) st'=some (u,h') →
     K.defers=[]∧∃ v,(results fn K.tmps).run P w'=.ok v w'∧∃ vc J' β',Ending.returned v=.returned vc∧FDone ⟨J,β,h,w⟩ J' β' h' w'∧Rep J' β' h' w' u vc:=by
    intro st' K w' J' β' I' q
    obtain⟨Dr,h2',vc,J2,β2,F,h4,h5,h6⟩:=ln I' q
    simp at F
    obtain⟨rfl,rfl⟩:=F
    exact⟨I'.defers,vc,h4,vc,J2,β2,rfl,h5,h6⟩
   exact s8 (E:={ P:=P,nt:=fn.ntmps,muts:=muts,nils:=hs.nils,free:=hs.free,cob:=hs.cob,tbl:=T }) (Aaq hT) L c I Y fin (fun _ _ _ _ _ _ _ q=>by simp at q) fin
end Gx
namespace Gx
open Go
section
variable {R R':Type}
theorem vT (E:Env) (ops:Array Oper) (o:Oper) (st:St) (k:St→Foot→O R) (g:R→Option R'):(rp E ops o st k).bind g=rp E ops o st fun st f=>(k st f).bind g:=by
 rw[MU,MU,Akv]
theorem qJ (ops:Array Oper) (o:Oper) (st:St) (k:St→O R) (g:R→Option R'):(YR ops o st k).bind g=YR ops o st fun st=>(k st).bind g:=by
 unfold YR
 split
 ·rfl
 ·split
  ·rfl
  ·split
   ·rw[Ak]
   ·rfl
theorem iL (E:Env) (ops:Array Oper) (g:R→Option R'):∀ (l:List Oper) (st:St) (tr:List Foot) (k:St→List Foot→O R),(gU E ops l st tr k).bind g=gU E ops l st tr fun st tr=>(k st tr).bind g
 | [],st,tr,k=>rfl
 | o::r,st,tr,k=>by
  rw[gU,gU,qJ]
  congr 1;funext st
  rw[vT]
  congr 1;funext st f
  exact iL E ops g r st (f::tr) k
theorem lw (E:Env) (roots:List Nat) (ops:Array Oper) (draw:Bool) (st:St) (k:St→O R) (g:R→Option R'):(DM E roots ops draw st k).bind g=DM E roots ops draw st fun st=>(k st).bind g:=by
 unfold DM
 rw[iL]
 congr 1;funext st tr
 rw[Ak,Akv];rfl
theorem vU (E:Env) (roots:List Nat) (H:Hint) (f:St→O R) (g:R→Option R') (st:St):(rq E roots H f st).bind g=rq E roots H (fun st=>(f st).bind g) st:=by
 unfold rq
 rw[Ak,Akv,Ry,Ry]
theorem cI (cn:St→Option St) (b:(St→O R)→St→O R) (e:(St→Option R')→St→Option R') (g:R→Option R') (j:∀ k st,(b k st).bind g=e (fun st=>(k st).bind g) st):∀ n st,(GN cn b n st).bind g=GN cn e n st
 | 0,st=>rfl
 | n+1,st=>by
  rw[GN,GN,j]
  congr 1;funext st
  rw[Akv]
  congr 1;funext st
  exact cI cn b e g j n st
theorem sc (E:Env) (roots:List Nat) (N:Nat) (g:R→Option R'):∀ (c:Code) (H:Hint) (k:St→O R) (x:Nat→St→O R) (r:St→O R) (st:St),
  (Dq E roots N c H k x r st).bind g=Dq E roots N c H (fun st=>(k st).bind g) (fun j st=>(x j st).bind g) (fun st=>(r st).bind g) st:=by
 intro c
 induction c with
 | skip=>intro H k x r st;rfl
 | region id ops draw=>intro H k x r st;exact lw ..
 | seq a b e q =>
  intro H k x r st
  rw[Dq,Dq,e]
  congr 1;funext st
  rw[vU]
  congr 1;funext st
  exact q ..
 | cond c a b e q =>
  intro H k x r st
  rw[Dq,Dq]
  split
  ·rw[Ak,e,q]
  ·rfl
 | block id c s =>
  intro H k x r st
  rw[Dq,Dq,s]
  simp only[Ak]
 | loop c s =>
  intro H k x r st
  rw[Dq,Dq,Akv,Ry,Ry]
  congr 1;funext st
  exact cI _ _ _ g (fun k st=>s ..) N st
 | exit id=>intro H k x r st;rfl
 | ret=>intro H k x r st;rfl
 | rangeFunc=>intro H k x r st;rfl
 | scope=>intro H k x r st;rfl
 | label=>intro H k x r st;rfl
 | goto=>intro H k x r st;rfl
 | refuse=>intro H k x r st;rfl
theorem Zx (E:Env) (st:St) (g:R→Option R'):∀ (l:List ResultVar) (b:LA) (k:LA→O R),(Ma E st l b k).bind g=Ma E st l b fun l=>(k l).bind g
 | [],b,k=>rfl
 | .tmp t::r,b,k=>by rw[Ma,Ma];exact Zx E st g r _ k
 | .cell a t::r,b,k=>by
  rw[Ma,Ma,DV,DV (R:=R'),Akv]
  congr 1;funext v
  exact Zx E st g r _ k
theorem lx (E:Env) (fn:Func) (modes:List (Nat×Nat)) (outs:List Nat) (k:AV→Ap→O R) (g:R→Option R') (st:St):(Rz E fn modes outs k st).bind g=Rz E fn modes outs (fun v h=>(k v h).bind g) st:=by
 unfold Rz
 rw[Zx]
 congr 1;funext l
 rw[Akv]
 congr 1;funext q
 rw[Ak];rfl
theorem RD (P:Program) (muts:Nat→List Bool) (T:List (Nat×Tw)) (hs:Hints) (N f:Nat) (args:LA) (h:Ap) (k:AV→Ap→O R) :
  bR P muts T hs N f args h k=(bR P muts T hs N f args h fun v h=>some (v,h)).bind fun p=>k p.1 p.2:=by
 unfold bR
 split
 ·rfl
 ·split
  ·rfl
  ·simp only
   rw[Ak,sc]
   simp only[lx]
   rfl
structure Cut (R:Type) where
 c:Code
 H:Hint
 k:St→O R
 x:Nat→St→O R
 r:St→O R
noncomputable def Ae7 (E:Env) (roots:List Nat) (N:Nat):List Nat→Code→Hint→(St→O R)→(Nat→St→O R)→(St→O R)→List (St→O R)→Cut R
 | [],c,H,k,x,r,_=>⟨c,H,k,x,r⟩
 | d::p,.seq a b,H,k,x,r,ks=>cond (beq d 0) (Ae7 E roots N p a H.a (rq E roots H fun st=>Dq E roots N b H.b k x r st) x r ks) (Ae7 E roots N p b H.b k x r ks)
 | d::p,.cond _ a b,H,k,x,r,ks=>cond (beq d 0) (Ae7 E roots N p a H.a k x r ks) (Ae7 E roots N p b H.b k x r ks)
 | _::p,.block id c,H,k,x,r,ks=>Ae7 E roots N p c H.a k (fun j st=>cond (beq j id) (k st) (x j st)) r ks
 | _::p,.loop c,H,_,x,r,q::ks=>Ae7 E roots N p c H.a (fun st=>(GM E H.live roots st).bind q) x r ks
 | _::_,c,H,k,x,r,_=>⟨c,H,k,x,r⟩
def sd:Code→Code
 | .loop c=>c
 | c=>c
structure CutB (R:Type) where
 E:Env
 roots:List Nat
 N:Nat
 c:Cut R
noncomputable def Bh (q:CutB R) (st:St):O R:=Dq q.E q.roots q.N q.c.c q.c.H q.c.k q.c.x q.c.r st
noncomputable def vV (q:CutB R) (st:St):O R:=Aaf true (fun st=>Dq q.E q.roots q.N q.c.c q.c.H q.c.k q.c.x q.c.r st) st
theorem yp (q:CutB R) (st:St):vV q st=Bh q st:=by unfold vV;rw[Ry];rfl
noncomputable def Al (q:CutB R) (n:Nat) (st:St):O R:=GN (GM q.E q.c.H.live q.roots) (fun k st=>Dq q.E q.roots q.N (sd q.c.c) q.c.H.a k q.c.x q.c.r st) n st
noncomputable def Aar (q:CutB R) (st:St):O R:=Aaf true (GN (GM q.E q.c.H.live q.roots) (fun k st=>Dq q.E q.roots q.N (sd q.c.c) q.c.H.a k q.c.x q.c.r st) q.N) st
theorem Aas (q:CutB R) (st:St):Aar q st=Al q q.N st:=by unfold Aar;rw[Ry];rfl
def Ae8 (fn:Func):Code:=match fn.body with | some c=>c | none=>.skip
def Ad9:List (Nat×List Bool)→Nat→List Bool
 | [],_=>[]
 | (i,l)::r,f=>cond (beq i f) l (Ad9 r f)
end
end Gx
namespace Gx
open Go
abbrev KF (R:Type):=AV→Ap→Option R
abbrev hL:Hint:=.leaf
abbrev hS (a b:Hint):Hint:=.node [] a b
abbrev hP (l:List Nat) (a:Hint):Hint:=.node l a .leaf
abbrev hJ (l:List Nat) (a b:Hint):Hint:=.join l a b
def Ac9 (P:Program) (muts:Nat→List Bool) (nt:Nat) (hs:Hints) (T:List (Nat×Tw)):Env:={ P,nt,muts,nils:=hs.nils,free:=hs.free,cob:=hs.cob,tbl:=T }
noncomputable def Akb {R:Type} (P:Program) (muts:Nat→List Bool) (fn:Func) (hs:Hints) (T:List (Nat×Tw)) (roots:List Nat) (N:Nat) (F:KF R) (p:List Nat) (ks:List (St→O R)):CutB R :=
 ⟨Ac9 P muts fn.ntmps hs T,roots,N,Ae7 (Ac9 P muts fn.ntmps hs T) roots N p (Ae8 fn) hs.H (Rz (Ac9 P muts fn.ntmps hs T) fn hs.modes roots F) (fun _ _=>none) (Rz (Ac9 P muts fn.ntmps hs T) fn hs.modes roots F) ks⟩
def iv (n:Int):AV:=.int .i64 n
def op (k:Nat):AV:=.optr (300000+k) 0
def Ajv:Nat→List Blk→Ap
 | _,[]=>[]
 | i,b::r=>(i,b)::Ajv (i+1) r
def hq (l:List Blk):Ap:=Ajv 300000 l
def bQ (sz:Nat) (c:LA):Blk:=⟨false,false,true,false,sz,c,false,none⟩
def bN (sz:Nat) (c:LA):Blk:=⟨false,false,false,false,sz,c,false,none⟩
def bP (t:Bool) (sz:Nat) (c:LA):Blk:=⟨false,false,true,t,sz,c,false,none⟩
def Ao {R:Type} (kd:IntKind) (c:LA) (k:Int→O R):O R:=(c.head?).bind fun x=>(IL kd x).bind k
def SK {R:Type} (c:LA) (k:Bool→O R):O R:=(c.head?).bind fun x=>(asBool x).bind k
def O' {R:Type} (c:LA) (k:Lu→O R):O R:=(c.head?).bind fun x=>(bI x).bind k
def Ba {R:Type} (sz:Nat) (c:LA) (k:LA→Nat→O R):O R:=(c.head?).bind fun x=>(rj sz x).bind fun p=>k p.1 p.2
def vW (k:IntKind) (a b:Int):Int:=k.wrap ((BitVec.ofInt k.bits a &&& BitVec.ofInt k.bits b).toNat:Int)
def iM (k:IntKind) (a b:Int):Int:=k.wrap ((BitVec.ofInt k.bits a ||| BitVec.ofInt k.bits b).toNat:Int)
theorem ly {α δ:Type} (f:α→δ) {a b:α} (e:a=b):f a=f b:=by rw[e]
structure Bd (P:Program) where
 f:Nat
 run:LA→Ap→Option ((R:Type)→KF R→O R)
 eq:∀ a h g,run a h=some g→∀ (R:Type) (k:KF R),g R k=(g (AV×Ap) fun v h=>some (v,h)).bind fun p=>k p.1 p.2
 ok:∀ a h g res h',run a h=some g→(g (AV×Ap) fun v h=>some (v,h))=some (res,h')→ri P f a h res h'
def Ajw {R:Type} (k:KF R):Option ((R:Type)→KF R→O R)→O R
 | some g=>g R k
 | none=>none
def Bd.tw {P:Program} (b:Bd P):Tw:=⟨fun {R} a h k=>Ajw k (b.run a h),fun {R} a h k=>by
 cases e:b.run a h with
 | none=>rfl
 | some g=>exact b.eq a h g e R k⟩
theorem Bd.tok {P:Program} (b:Bd P):iE P b.f b.tw:=by
 intro a h j h' hh
 have hh:Ajw (fun v h'=>some (v,h')) (b.run a h)=some (j,h'):=hh
 cases e:b.run a h with
 | none=>rw[e] at hh;cases hh
 | some g=>rw[e] at hh;exact b.ok a h g j h' e hh
def Ada {P:Program}:List (Bd P)→List (Nat×Tw)
 | []=>[]
 | b::r=>(b.f,b.tw)::Ada r
theorem xk {P:Program}:∀ l:List (Bd P),iF P (Ada l)
 | []=>trivial
 | b::r=>⟨b.tok,xk r⟩
def Ajx {P:Program} (x y:Bd P) (e:x.f=y.f):Bd P:=⟨x.f,fun a h=>match x.run a h with | some g=>some g | none=>y.run a h,fun a h g q=>by
 split at q
 ·cases q;exact x.eq a h _ ‹_›
 ·exact y.eq a h g q,fun a h g res h' q=>by
 split at q
 ·cases q;exact x.ok a h _ res h' ‹_›
 ·rw[e];exact y.ok a h g res h' q⟩
def Akc (P:Program) (muts:Nat→List Bool) (T:List (Nat×Tw)) (hs:Hints) (N f:Nat) (a:LA) (h:Ap):Option ((R:Type)→KF R→O R)→Prop
 | some g=>∀ (R:Type) (F:KF R),bR P muts T hs N f a h F=g R F
 | none=>True
def Akd {P:Program} {muts:Nat→List Bool} (hm:P.follows .mixedOrders=true) (N f:Nat) (l:List (Bd P)) (hs:Hints) (run:LA→Ap→Option ((R:Type)→KF R→O R)) (e:∀ a h,Akc P muts (Ada l) hs N f a h (run a h)):Bd P :=
 ⟨f,run,fun a h g q R k=>by
  have H:=e a h;rw[q] at H
  rw[←H,←H];exact RD ..,fun a h g res h' q hh=>by
  have H:=e a h;rw[q] at H
  rw[←H] at hh;exact JH (xk l) hm hh⟩
theorem lW {R τ:Type} (p:(St→O R)→τ) (q:CutB R):p (Aar q)=p (Al q q.N):=congrArg p (funext fun _=>Aas q _)
theorem jW {R τ:Type} (p:(St→O R)→τ) (q:CutB R):p (vV q)=p (Bh q):=congrArg p (funext fun _=>yp q _)
theorem eo {α δ:Type} {f g:α→δ} (h:∀ a,f a=g a):f=g:=funext h
theorem ZD {α β δ:Type} {f g:α→β→δ} (h:∀ a b,f a b=g a b):f=g:=funext fun _=>funext (h _)
theorem Afz {α β γ δ:Type} {f g:α→β→γ→δ} (h:∀ a b c,f a b c=g a b c):f=g:=funext fun _=>ZD (h _)
theorem zp {α β γ ε δ:Type} {f g:α→β→γ→ε→δ} (h:∀ a b c d,f a b c d=g a b c d):f=g:=funext fun _=>Afz (h _)
theorem Aid {α β γ ε ζ δ:Type} {f g:α→β→γ→ε→ζ→δ} (h:∀ a b c d e,f a b c d e=g a b c d e):f=g:=funext fun _=>zp (h _)
theorem Ah5 {α β γ ε ζ η δ:Type} {f g:α→β→γ→ε→ζ→η→δ} (h:∀ a b c d e x,f a b c d e x=g a b c d e x):f=g:=funext fun _=>Aid (h _)
def Ajy:Nat→Nat→List Nat→List Nat
 | 0,_,l=>l
 | f+1,n,l=>cond (ble n 1) l (Ajy f (n/4) (n%4::l))
def pz (n:Nat):List Nat:=Ajy 100 n []
def hK:Nat→Hint→Hint
 | 0,h=>h
 | n+1,h=>hS hL (hK n h)
theorem Eu {τ:Type} {f g:Nat→τ} (h:∀ n,f n=g n→f (n+1)=g (n+1)) (h0:f 0=g 0:=by kernel_rfl):∀ n,f n=g n
 | 0=>h0
 | n+1=>h n (Eu h h0 n)
theorem Bp {α δ:Type} {z:δ} (f:α→δ) {a b:α} (e:a=b) (k:z=f a:=by kernel_rfl):z=f b:=by rw[k,e]
theorem DZ {α β δ:Type} {z:δ} (f:α→β→δ) {a e:α} {b j:β} (q:a=e) (s:b=j) (k:z=f a b:=by kernel_rfl):z=f e j:=by rw[k,q,s]
theorem Ajz {α β γ δ:Type} {z:δ} (f:α→β→γ→δ) {a e:α} {b j:β} {c q:γ} (s:a=e) (u:b=j) (v:c=q) (k:z=f a b c:=by kernel_rfl):z=f e j q:=by rw[k,s,u,v]
theorem Ake {α β γ ε ζ η δ:Type} {z:δ} (f:α→β→γ→ε→ζ→η→δ) {a j:α} {b q:β} {c s:γ} {d u:ε} {e v:ζ} {g g':η} (y:a=j) (A:b=q) (C:c=s) (D:d=u) (F:e=v) (G:g=g') (k:z=f a b c d e g:=by kernel_rfl):z=f j q s u v g':=by rw[k,y,A,C,D,F,G]
def Aat {R:Type} (E:Env) (roots:List Nat) (H:Hint) (f:St→O R) (st:St):O R:=cond H.isJoin ((GM E H.live roots st).bind f) (f st)
theorem Aau {R:Type} (E:Env) (roots:List Nat) (H:Hint) (f:St→O R):Aat E roots H f=rq E roots H f:=by funext st;unfold Aat rq;rw[Ry]
def Qz {R:Type} (E:Env) (roots:List Nat) (N:Nat):Code→Hint→(St→O R)→(Nat→St→O R)→(St→O R)→St→O R
 | .skip,_,k,_,_,st=>k st
 | .region _ ops draw,_,k,_,_,st=>DM E roots ops draw st k
 | .seq a b,H,k,x,r,st=>Qz E roots N a H.a (Aat E roots H fun st=>Qz E roots N b H.b k x r st) x r st
 | .cond c a b,H,k,x,r,st=>match ev st.s c with
  | .bool t=>cond t (Qz E roots N a H.a k x r st) (Qz E roots N b H.b k x r st)
  | _=>none
 | .block id c,H,k,x,r,st=>Qz E roots N c H.a k (fun j st=>cond (beq j id) (k st) (x j st)) r st
 | .loop c,H,_,x,r,st=>(GM E H.live roots st).bind (GN (GM E H.live roots) (fun k st=>Qz E roots N c H.a k x r st) N)
 | .exit id,_,_,x,_,st=>x id st
 | .ret,_,_,_,r,st=>r st
 | _,_,_,_,_,_=>none
theorem yq {R:Type} (E:Env) (roots:List Nat) (N:Nat):∀ (c:Code) (H:Hint) (k:St→O R) (x:Nat→St→O R) (r:St→O R) (st:St),Qz E roots N c H k x r st=Dq E roots N c H k x r st:=by
 intro c
 induction c with
 | skip=>intro H k x r st;rfl
 | region id ops draw=>intro H k x r st;rfl
 | seq a b e j =>
  intro H k x r st
  rw[Dq,Qz,e,Aau]
  congr 2;funext st
  exact j ..
 | cond c a b e j =>
  intro H k x r st
  rw[Dq,Qz]
  simp only[e,j]
  rfl
 | block id c q=>intro H k x r st;rw[Dq,Qz,q]
 | loop c q =>
  intro H k x r st
  rw[Dq,Qz,Ry]
  have:(fun k st=>Qz E roots N c H.a k x r st)=fun k st=>Dq E roots N c H.a k x r st:=by funext k st;exact q ..
  rw[this]
 | exit id=>intro H k x r st;rfl
 | ret=>intro H k x r st;rfl
 | rangeFunc=>intro H k x r st;rfl
 | scope=>intro H k x r st;rfl
 | label=>intro H k x r st;rfl
 | goto=>intro H k x r st;rfl
 | refuse=>intro H k x r st;rfl
def oE {R:Type} (P:Program) (muts:Nat→List Bool) (T:List (Nat×Tw)) (hs:Hints) (N f:Nat) (args:LA) (h:Ap) (k:AV→Ap→O R):O R :=
 match P.funcs[f]? with
 | none=>none
 | some fn=>match fn.body with
  | none=>none
  | some c =>
   let E:Env:={ P,nt:=fn.ntmps,muts,nils:=hs.nils,free:=hs.free,cob:=hs.cob,tbl:=T }
   let outs:=h.map (·.1)
   let fin:=Rz E fn hs.modes outs k
   cond (ble args.length fn.ntmps&&SU h) (Qz E outs N c hs.H fin (fun _ _=>none) fin { s:=gY 0 args,h }) none
theorem BA {R:Type} (P:Program) (muts:Nat→List Bool) (T:List (Nat×Tw)) (hs:Hints) (N f:Nat) (args:LA) (h:Ap) (k:AV→Ap→O R):oE P muts T hs N f args h k=bR P muts T hs N f args h k:=by
 unfold oE bR
 cases P.funcs[f]? with
 | none=>rfl
 | some fn =>
  simp only
  cases fn.body with
  | none=>rfl
  | some c=>simp only;rw[yq]
end Gx
namespace Gx
open Go Go.RowKit
theorem oF {P:Program} {f:Nat} {t:Tw} (s:iE P f t) {W:World} {avs:LA} {vs:List Value} (hr:Reps (fun _ k=>k<W.heap.size) (fun _=>none) [] W avs vs)
  (q:(t.runK avs [] fun v h=>some (v,h))=some (.bool true,[])) (u:GlobOk (fun _ k=>k<W.heap.size) W):Calls P f vs.toArray W fun e w'=>e=.returned (.bool true)∧Below W.heap.size W w':=by
 have S:SimH (fun _ k=>k<W.heap.size) (fun _=>none) [] W:=⟨fun _ _ h=>h,fun _ h=>h,u,fun b x j=>by simp[Ai] at j,fun b x j=>by simp[Ai] at j,fun b A x x' k o o' j=>by simp[Ai] at j⟩
 refine Calls.mono (s avs [] _ _ q _ _ W vs S hr) ?_
 rintro e w' ⟨vc,J',β',rfl,F,y⟩
 rw[Rep] at y;subst y
 refine⟨rfl,F.os,F.tape,F.output,F.size,fun k z=>F.frame k z ?_⟩
 rintro⟨b,x,o,j,_⟩
 change Ai [] b=some x at j
 simp[Ai] at j
structure Opens (P:Program) (t:TypeId) {α:Type} (e:α→List AV) (n:Nat):Prop where
 size:P.cellsOf t=n
 pos:0<n
 len:∀ a,(e a).length=n
 read:∀ {H:Type} (enc:TypeId×Value→H) (W:World) (fuel:Nat) (cs:List Value) (d:DataW H) (ps:List MemPlace),DataW.trod enc P W 0 (fun _=>true) true fuel t cs=some (d,ps) →
  cs.length=n∧∃ a,RepCs (fun k=>k<W.heap.size) W (e a) (fun j=>cs[j]?) 0
theorem yr {P:Program} {t:TypeId} {k:IntKind} (b:P.underlying t=some (.int k)) (e:P.cellsOf t=1):Opens P t (α:={ n:Int // (Lit.int k n).wf=true }) (fun n=>[.int k n.1]) 1:=by
 refine⟨e,by omega,fun _=>rfl,fun enc W fuel cs d ps h=>?_⟩
 obtain⟨n,rfl,_,j⟩:=DataW.trod_int b h
 exact⟨rfl,⟨n,j⟩,by simp[RepCs,RepC]⟩
theorem cJ {α β:Type} {e:α→List β} {n:Nat} (hn:0<n) (b:∀ a,(e a).length=n):∀ (l:List α) (j:Nat),(l.flatMap e)[j]?=(l[j/n]?).bind fun a=>(e a)[j%n]?
 | [],j=>by simp
 | a::r,j=>by
  rw[All]
  by_cases k:j<n
  ·rw[List.getElem?_append_left (by rw[b];exact k),Ann k,Al9 k];simp
  ·rw[Aoa (by rw[b];omega),b,cJ hn b r (j - n)]
   have q:j/n=(j - n)/n+1:=by
    have:=Nat.add_div_right (j - n) hn
    rw[show j - n+n=j by omega] at this;exact this
   have s:j%n=(j - n)%n:=by
    have:=Nat.add_mod_right (j - n) n
    rw[show j - n+n=j by omega] at this;exact this
   rw[q,s];simp
theorem cK {α β:Type} {e:α→List β} {n:Nat} (b:∀ a,(e a).length=n):∀ (l:List α),(l.flatMap e).length=l.length*n
 | []=>by simp
 | a::r=>by rw[All,Akx,b,cK b r,Ak8,Anw];omega
theorem se {α β:Type} {f:α→Option β}:∀ {l:List α} {r:List β},l.mapM f=some r→r.length=l.length∧∀ (i:Nat) (a:α),l[i]?=some a→f a=r[i]?
 | [],r,h=>by simp at h;subst h;simp
 | x::l,r,h=>by
  rw[Ao4] at h
  cases b:f x with
  | none=>simp[b] at h
  | some y =>
   cases e:l.mapM f with
   | none=>simp[b,e] at h
   | some ys =>
    simp[b,e] at h
    subst h
    obtain⟨j,k⟩:=se e
    refine⟨by simp[j],fun i a hi=>?_⟩
    cases i with
    | zero=>simp at hi;subst hi;simpa using b
    | succ i=>simpa using k i a (by simpa using hi)
theorem sf {P:Program} {t G:TypeId} {α:Type} {e:α→LA} {n:Nat} (Y:P.underlying t=some (.slice G)) (hc:P.cellsOf t=1) (v:Opens P G e n) :
  Opens P t (α:={ l:List α // l.length≤maxLen }) (fun l=>[.imm (l.1.flatMap e) l.1.length n false false]) 1:=by
 refine⟨hc,by omega,fun _=>rfl,fun enc W fuel cs d ps h=>?_⟩
 cases fuel with
 | zero=>simp[DataW.trod] at h
 | succ fuel =>
  unfold DataW.trod at h
  simp only[Y] at h
  split at h
  all_goals first | (rename_i b;simp at b;done) | (rename_i b _;simp at b;done) | (rename_i b _ _;simp at b;done) | skip
  ·refine⟨rfl,⟨[],by simp⟩,?_⟩
   simp[RepCs,RepC]
  ·rename_i e' a len cap b
   simp at b;subst b
   split at h
   ·rename_i z
    obtain⟨hb,hlc,hcm⟩:=z
    refine⟨rfl,?_⟩
    cases M:(List.range len).mapM (fun i=>(W.cells? 0 (a.add (i*P.cellsOf G)) (P.cellsOf G)).bind (DataW.trod enc P W 0 (fun _=>true) true fuel G)) with
    | none=>rw[M] at h;simp at h
    | some nc =>
     obtain⟨h1,V⟩:=se M
     rw[v.size] at V
     have each:∀ i:Nat,i<len→∃ x:α,∃ cs,W.cells? 0 (a.add (i*n)) n=some cs∧RepCs (fun k=>k<W.heap.size) W (e x) (fun j=>cs[j]?) 0:=by
      intro i hi
      have I:=V i i (by simp[hi])
      rw[Aky (by rw[h1];simpa using hi)] at I
      cases q:W.cells? 0 (a.add (i*n)) n with
      | none=>rw[q] at I;simp at I
      | some cs =>
       rw[q] at I
       obtain⟨_,x,b⟩:=v.read enc W fuel cs _ _ I
       exact⟨x,cs,rfl,b⟩
     have build:∀ m,m≤len→∃ l:List α,l.length=m∧∀ i x,l[i]?=some x→∃ cs,W.cells? 0 (a.add (i*n)) n=some cs∧RepCs (fun k=>k<W.heap.size) W (e x) (fun j=>cs[j]?) 0:=by
      intro m
      induction m with
      | zero=>intro _;exact⟨[],rfl,by simp⟩
      | succ m ih =>
       intro M
       obtain⟨l,L,A⟩:=ih (by omega)
       obtain⟨x,cs,O,S⟩:=each m (by omega)
       refine⟨l++[x],by simp[L],fun i y D=>?_⟩
       rw[Alo] at D
       split at D
       ·exact A i y D
       ·have:i=m:=by
         have:=(Ak4.1 D).1
         simp at this;omega
        subst this
        simp[L] at D;subst D
        exact⟨cs,O,S⟩
     obtain⟨l,L,A⟩:=build len (Akw _)
     refine⟨⟨l,by omega⟩,?_⟩
     simp only[RepCs,RepC,and_true]
     refine⟨_,rfl,?_,some a,cap,by rw[L],by omega,by simp,?_⟩
     ·exact cK v.len l
     ·by_cases h0:l.length=0
      ·exact .inl h0
      ·right
       refine⟨a,rfl,?_,?_⟩
       ·obtain⟨x,cs,b,_⟩:=each 0 (by omega)
        have:=World.cells?_block b v.pos
        rwa [Qt] at this
       ·rw[By]
        intro j x F
        rw[cJ v.pos v.len] at F
        cases hq:l[j/n]? with
        | none=>rw[hq] at F;simp at F
        | some y =>
         rw[hq] at F
         simp at F
         obtain⟨cs,q,s⟩:=A (j/n) y hq
         rw[By] at s
         obtain⟨u,K,T⟩:=s (j%n) x F
         refine⟨u,?_,T⟩
         obtain⟨_,X,C⟩:=World.cells?_some q
         have U:j%n<n:=Anl _ v.pos
         have:=C (j%n) U
         rw[Addr.add_add,show j/n*n+j%n=j by rw[Amq];exact Am5 j n] at this
         simp only[Akz] at K ⊢
         rw[this];exact K
   ·simp at h
  ·simp at h
theorem vX {J:Bool→Nat→Prop} {β:B5} {w w':World} (S:SimH J β [] w) (B:Below w.heap.size w w'):SimH J β [] w' :=
 ⟨fun o k h=>Ame (S.jlt o k h) B.size,S.jft,S.gl.to (fun _ h=>h) (fun k j=>B.block k (S.jlt _ k j)),fun b x e=>by simp[Ai] at e,fun b x e=>by simp[Ai] at e,fun b q x x' k o o' e=>by simp[Ai] at e⟩
theorem ZE {P:Program} {f:Nat} {args:LA} {j:AV}
  (u:∀ (J:Bool→Nat→Prop) (β:B5) (w:World) (vs:List Value),GlobOk J w→Reps J β [] w args vs→Calls P f vs.toArray w fun e w'=>∃ vc,e=.returned vc∧Below w.heap.size w w'∧∀ J β w,Rep J β [] w j vc):ri P f args [] j []:=by
 intro J β w vs S hr
 refine(u J β w vs S.gl hr).mono ?_
 rintro e w' ⟨vc,rfl,B,v⟩
 refine⟨vc,J,β,rfl,⟨vX S B,B.os,B.tape,B.output,B.size,fun k s _=>B.block k s,?_,fun _ _ h=>h,fun _ _ h=>.inl h,fun k=>?_,fun b x0 x q=>by simp[Ai] at q,fun b x q=>by simp[Ai] at q⟩,v _ _ _⟩
 ·rintro k ⟨b,x,o,q,_⟩;simp[Ai] at q
 ·by_cases s:k<w.heap.size
  ·simp[At,B.block k s]
  ·simp[At,Alk (Amh s)]
theorem Adb {P:Program} {f:Nat} {args:LA} {c:LA} {n sz:Nat} (y:c.length=n*sz)
  (z:∀ (J:Bool→Nat→Prop) (β:B5) (w:World) (vs:List Value),GlobOk J w→Reps J β [] w args vs→Calls P f vs.toArray w fun e w'=>∃ (cs:Array Value) (ty:TypeId),e=.returned (.slice (some ⟨w.heap.size,0,none⟩) n n)∧w'=w.alloc (.cells cs ty)∧cs.size=n*sz∧RepCs (J false) w c (fun j=>cs[j]?) 0):ri P f args [] (.own 300000 0 n) [(300000,{ dead:=false,sealed:=false,pure:=true,taint:=false,sz,cells:=c })]:=by
 intro J β w vs S hr
 refine(z J β w vs S.gl hr).mono ?_
 rintro e w' ⟨cs,ty,rfl,rfl,hs,u⟩
 have A:=Step.new (d:=300000) (x:={ dead:=false,sealed:=false,pure:=true,taint:=false,sz,cells:=c }) (ty:=ty) (fr:=(0,0)) (cs:=cs) S rfl rfl rfl FrTy.un0 (by show c.length≤_;omega) ⟨fun _=>u,fun C=>by cases C⟩
 have s:(w.alloc (.cells cs ty)).heap[w.heap.size]?=some (.cells cs ty (0,0)):=by show(w.heap.push _)[_]?=_;simp
 refine⟨_,_,_,rfl,⟨A.sim,A.os,A.tape,A.output,A.size,A.frame,A.wr,A.ext.jsub,A.jup,fun k=>?_,fun b x0 x q=>by simp[Ai] at q,fun b x q=>?_⟩,?_⟩
 ·by_cases v:k<w.heap.size
  ·simp[At,Cr w _ v]
  ·simp[At,Alk (Amh v)]
 ·rw[Ai] at q
  cases hq:beq 300000 b<;>rw[hq] at q<;>simp[Ai] at q
  subst q;rfl
 ·rw[Rep]
  refine⟨_,_,n,⟨rfl,rfl⟩,rfl,Akw _,.inr ⟨w.heap.size,0,rfl,.inr ⟨by simp,?_,by simp[y]⟩⟩⟩
  rw[Co s,hs];simp
theorem TG {J:Bool→Nat→Prop} {β:B5} {h:Ap} {w:World} {x:AV} {vs:List Value} (H:Reps J β h w [x] vs):∃ u,vs=[u]∧Rep J β h w x u:=by
 rw[Reps] at H
 obtain⟨u,us,rfl,e,b⟩:=H
 rw[Reps] at b;subst b
 exact⟨u,rfl,e⟩
theorem iN {J:Bool→Nat→Prop} {β:B5} {h:Ap} {w:World} {x y:AV} {vs:List Value} (H:Reps J β h w [x,y] vs):∃ u v,vs=[u,v]∧Rep J β h w x u∧Rep J β h w y v:=by
 rw[Reps] at H
 obtain⟨u,us,rfl,b,e⟩:=H
 obtain⟨v,rfl,j⟩:=TG e
 exact⟨u,v,rfl,b,j⟩
theorem GlobOk.tab {J:Bool→Nat→Prop} {w:World} (h:GlobOk J w) {P:Program} {g:Nat} {name:String} {k:IntKind} {zs:List Int} (b:(g,zs.map fun z=>Value.int k z) ∈ xb) (e:P.globalNamed name=some g):Lib.TabIs P w name k zs:=by
 obtain⟨ty,fr,hh⟩:=(h.1 _ b).2
 unfold Lib.TabIs World.var?
 rw[e]
 simp only[Alj]
 rw[hh]
theorem Aav {W:World} {P:Program} {g:Nat} {name:String} {k:IntKind} {zs:List Int} (h:Lib.TabIs P W name k zs) (b:P.globalNamed name=some g):∃ ty fr,W.heap[g]?=some (.cells (zs.map fun z=>Value.int k z).toArray ty fr):=by
 unfold Lib.TabIs World.var? at h
 rw[b] at h
 simp only[Alj] at h
 split at h
 ·rename_i cs ty fr hh
  simp at h;subst h
  exact⟨ty,fr,hh⟩
 ·cases h
theorem GlobOk.int {J:Bool→Nat→Prop} {w:World} (h:GlobOk J w) {g:Nat} (b:g ∈ uu):∃ m,w.cell? ⟨g,0,none⟩=some (.int .i64 m):=(h.2 g b).2
theorem Aaw {W:World} {g i:Nat} {v:Value} (h:W.cell? ⟨g,i,none⟩=some v):g<W.heap.size:=by
 rcases An7 g W.heap.size with b | b
 ·exact b
 ·simp[World.cell?,Alk b] at h
end Gx
namespace Gx
open Go Go.Proofs
set_option maxRecDepth 100000
noncomputable section
variable {R:Type} (N:Nat)
def muts:Nat→List Bool:=Ad9 [(18,[true,false,false,false]),(28,[true,false]),(29,[true]),(30,[true,false,false]),(32,[true,false,false,false,false]),(33,[true,false,false,false]),(34,[true,false,false,false]),(37,[true,false,false]),(38,[true,false]),(39,[true,false]),(40,[true]),(42,[true,false]),(44,[true]),(55,[false,false,false,true]),(56,[false,false,true,true,true,true,true,true,true,true]),(59,[true,false]),(60,[true,false]),(61,[true,false,false,false]),(62,[true,false,false,false,false,false,false,false]),(63,[true,false,false,false,false,false]),(65,[true,false,false]),(66,[true,false,false]),(67,[true,false,false]),(68,[true,false,false]),(69,[true,false,false]),(76,[true,false,false]),(77,[true,false]),(78,[true,false,false]),(90,[true]),(91,[true]),(92,[true]),(93,[true]),(94,[true]),(95,[true]),(96,[true]),(97,[true]),(106,[true,false,false,false,false,false]),(108,[true,false,false,false,false,false]),(109,[true,false,false]),(117,[true]),(118,[true,false]),(136,[true,false,false]),(137,[true,false,false,false,false]),(138,[true,false,false,false,false]),(139,[true,false,false,false]),(140,[true,false,true]),(141,[false,true,true,true,true,true,true,true,true]),(142,[false,true,true,true,true,true,true,true,true]),(143,[true,false,false]),(145,[true,false,false]),(146,[false,true,true,true,true,true,true,true,true]),(147,[true,false]),(148,[false,true,true,true,true,true,true,true,true]),(149,[false,true,true,true,true,true,true,true,true]),(150,[false,true,true,true,true,true,true,true,true]),(152,[true,false]),(161,[true]),(203,[true]),(212,[false,true]),(256,[true,false]),(266,[true,false]),(271,[true,false]),(277,[false,true,true,true,true,true,true,true,true])]
def Akf {R:Type}:=@Akb R Tryz.prog muts
theorem follows:Tryz.prog.follows .mixedOrders=true:=by kernel_rfl
abbrev Oi:=List (Bd Tryz.prog)
def Ip {R:Type} (fn hs) (l:Oi) (r N) (F:KF R):=@Akf R fn hs (Ada l) r N F
def Cw (N f:Nat):=@Akd Tryz.prog muts follows N f
def Fq:Hints:={ H:=hL }
def BB:Hints:={ H:=hL,modes:=[(3,0)] }
def GV:Hints:={ H:=(hK 2 (hS (hP [0,1,2,15,16] hL) hL)) }
def cL:Hints:={ H:=(hK 1 (hS (hK 1 (hS (hP [0,3] hL) hL)) hL)) }
def oG:Hints:={ H:=(hK 2 (hS (hS (hP [0,3] hL) hL) hL)),nils:=[(2,1)],modes:=[(2,1)] }
def Bq (F:KF R):Bool→O R:=(fun v0=>F (.bool v0) [])
def Cl (F:KF R):Bool→LA→O R:=(fun v0 v1=>F (.tup []) [(100000,(bP v0 0 v1))])
def Dr (F:KF R):Int→O R:=(fun v0=>F (iv v0) [])
def Mz (F:KF R):LA→O R:=(fun v0=>F (.pagg v0 false) [])
def Hb (F:KF R):LA→O R:=(fun v0=>F (.tup []) [(100000,(bQ 0 v0))])
def Fi (F:KF R):Nat→LA→O R:=(fun v0 v1=>F (.own 300000 0 v0) (hq [(bQ 1 v1)]))
def yt (v0:Bool) (v1:LA) (F:KF R):Lu→O R:=(fun v2=>F (.str v2) [(100000,(bN 0 [(.optr 100001 0)])),(100001,(bP v0 0 v1))])
def Ux (F:KF R):Bool→LA→O R:=(fun v0 v1=>F (.tup []) [(100000,(bP v0 0 v1)),(100001,(bN 0 [(.optr 100000 0)]))])
def ZF (v0:LA) (v1:Nat) (v2 v3:Bool) (F:KF R):LA→Int→O R:=(fun v4 v5=>F (.pagg v4 false) [(100000,(bN 0 [(.imm v0 v1 1 v2 v3),(iv v5)]))])
def Q3 (F:KF R):LA→Int→O R:=(fun v0 v1=>F (.tup [(.pagg v0 false),(iv v1)]) [])
def Aea (F:KF R):Nat→Int→LA→O R:=(fun v0 v1 v2=>F (.tup [(.own 300000 0 v0),(iv v1)]) (hq [(bQ 3 v2)]))
def cM (F:KF R):Nat→Int→LA→O R:=(fun v0 v1 v2=>F (.tup [(.own 300000 0 v0),(iv v1)]) (hq [(bQ 1 v2)]))
def sh (v0:LA) (v1:Nat) (v2 v3:Bool) (F:KF R):Nat→Int→LA→O R:=(fun v4 v5 v6=>F (.own 300000 0 v4) [(100000,(bN 0 [(.imm v0 v1 1 v2 v3),(iv v5)])),(300000,(bQ 1 v6))])
def R7 (N:Nat) (r0:LA→Nat→O R) (c:LA) (a:Nat) (d b:Bool) (k0:Int→O R) (f:Int):O R :=
 (cond ((decide (f>0))==true) (cond (Af (wrap .i64 (f - 1)) a) (Ao .u32 (c.drop (((wrap .i64 (f - 1)).toNat)*1)) fun g=>cond (cond true (g==0) false) (k0 (wrap .i64 (f - 1))) (cond ((decide ((0:Int)≤(0:Int)))&&((decide (0≤f))&&((decide (f≤(a:Int)))&&(decide ((a:Int)≤(a:Int)))))) (r0 (c.take ((f.toNat)*1)) (f.toNat)) none)) none) (cond ((decide ((0:Int)≤(0:Int)))&&((decide (0≤f))&&((decide (f≤(a:Int)))&&(decide ((a:Int)≤(a:Int)))))) (r0 (c.take ((f.toNat)*1)) (f.toNat)) none))
def Iy (r0:LA→Nat→O R) (c:LA) (a:Nat) (d b:Bool):Nat→Int→O R
 | 0,_=>none
 | n+1,f=>R7 N r0 c a d b (Iy r0 c a d b n) f
def D_ (N:Nat) (r0:LA→Nat→O R) (q0:Int→O R) (c:LA) (a:Nat) (d b:Bool):O R :=
 (q0 (a:Int))
def BC:=(Ag fun N c a d b r0=>D_ (R:=R) N r0 (Iy N r0 c a d b N) c a d b).1
theorem PA (c a d b r0):(@BC R N c a d b r0)=(D_ N r0 (Iy N r0 c a d b N) c a d b):=by rw[BC,(Ag _).2]
def qK (F:KF R):=Ip Tryz.f203 oG [] [] N F
def Uy (b:Bool) (F:KF R):LA→Nat→O R:=(fun h i=>F (.imm h i 1 false b) [])
def qL (c:LA) (a:Nat) (d b:Bool) (K:St→O R):=fun f=>K ⟨[(0,(.imm c a 1 d b)),(3,(iv f))],[]⟩
theorem ep (F:KF R) (c a d b):∀ n,qL c a d b (Al (qK N F (pz 336) []) n)=(Iy N (Uy b F) c a d b n):=Eu fun n e=>(Bp (R7 N (Uy b F) c a d b) e:_)
def si:=Cw N 203 [] oG (fun
 | [(.imm c a 1 d b)],[]=>some fun _ k=>BC N c a d b (Uy b k)
 | _,_=>none) fun _ _=>by split;rename_i c a d b;intro R F;exact(Bp (D_ N (Uy b F) · c a d b) ((lW ..).trans (ep ..)):_).trans (PA ..).symm;trivial
def PB (N:Nat) (r0:LA→O R) (k0:O R):O R :=
 (r0 [])
def Pd (r0:LA→O R):Nat→O R
 | 0=>none
 | n+1=>PB N r0 (Pd r0 n)
def EA (N:Nat) (r0:LA→O R) (q0:O R):O R :=
 q0
def BD:=(Ag fun N r0=>EA (R:=R) N r0 (Pd N r0 N)).1
theorem PC (r0):(@BD R N r0)=(EA N r0 (Pd N r0 N)):=by rw[BD,(Ag _).2]
def qM (F:KF R):=Ip Tryz.f203 oG [] [] N F
def Uz (F:KF R):LA→O R:=(fun a=>F (.own 300000 0 0) (hq [(bQ 1 a)]))
def qN (K:St→O R):=K ⟨[(0,.nsl),(3,(iv 0))],[]⟩
theorem eu (F:KF R):∀ n,qN (Al (qM N F (pz 336) []) n)=(Pd N (Uz F) n):=Eu fun n e=>(Bp (PB N (Uz F)) e:_)
def sj:=Cw N 203 [] oG (fun
 | [.nsl],[]=>some fun _ k=>BD N (Uz k)
 | _,_=>none) fun _ _=>by split;intro R F;exact(Bp (EA N (Uz F)) ((lW ..).trans (eu ..)):_).trans (PC ..).symm;trivial
def Wt (N:Nat) (r0:Int→O R) (c:LA) (a:Nat) (b:Bool) (d:LA) (k0:Int→O R) (f:Int):O R :=
 (cond (decide (f≥0)) (cond (Af f a) (Ao .u32 (c.drop ((f.toNat)*1)) fun j=>cond (Af f 0) (Ao .u32 (d.drop (0+((f.toNat)*1))) fun l=>cond (decide (j<l)) (r0 (-1)) (cond (Af f a) (Ao .u32 (c.drop ((f.toNat)*1)) fun m=>cond (Af f 0) (Ao .u32 (d.drop (0+((f.toNat)*1))) fun o=>cond (decide (m>o)) (r0 1) (k0 (wrap .i64 (f - 1)))) none) none)) none) none) (r0 0))
def M9 (r0:Int→O R) (c:LA) (a:Nat) (b:Bool) (d:LA):Nat→Int→O R
 | 0,_=>none
 | n+1,f=>Wt N r0 c a b d (M9 r0 c a b d n) f
def X6 (r0:Int→O R) (q0:LA→Nat→LA→Int→O R) (g:LA) (h:Nat) (i b:Bool):O R :=
 (BC N g h i b fun c a=>BD N fun d=>cond ((a:Int) != 0) (cond (decide ((a:Int)<0)) (r0 (-1)) (r0 1)) (q0 c a d (wrap .i64 ((a:Int) - 1))))
def Q4:=(Ag fun N g h i b r0=>X6 (R:=R) N r0 (fun c a d=>M9 N r0 c a b d N) g h i b).1
theorem JI (g h i b r0):(@Q4 R N g h i b r0)=(X6 N r0 (fun c a d=>M9 N r0 c a b d N) g h i b):=by rw[Q4,(Ag _).2]
def PD:Hints:={ H:=(hK 3 (hS (hK 1 (hS (hP [0,1,5] hL) hL)) hL)) }
def Xx:=Ajx (si N) (sj N) (Eq.refl 203)
def TH:Oi:=[Xx N]
def lz (F:KF R):=Ip Tryz.f183 PD (TH N) [] N F
def mA (c:LA) (a:Nat) (b:Bool) (d:LA) (K:St→O R):=fun f=>K ⟨[(0,(.imm c a 1 false b)),(1,(.own 300000 0 0)),(5,(iv f))],(hq [(bQ 1 d)])⟩
theorem ZG (F:KF R) (c a b d):∀ n,mA c a b d (Al (lz N F (pz 5444) []) n)=(M9 N (Dr F) c a b d n):=Eu fun n e=>(Bp (Wt N (Dr F) c a b d) e:_)
def TI:=Cw N 183 (TH N) PD (fun
 | [(.imm g h 1 i b),.nsl],[]=>some fun _ k=>Q4 N g h i b (Dr k)
 | _,_=>none) fun _ _=>by split;intro R F;exact(Bp (X6 N (Dr F) · _ _ _ _) (Afz fun c a d=>(lW ..).trans (ZG ..)):_).trans (JI ..).symm;trivial
def MW (a:LA) (b:Bool) (r0:LA→Bool→LA→Nat→Bool→O R):O R :=
 (Ba 1 (a.drop 2) fun c d=>Q4 N c d false b fun e=>cond (e==0) (r0 [(.bool false),.nsl] false [(.int .u32 1)] 1 false) (cond (ble 2 (a.length)) (Ba 1 (a.drop 2) fun f g=>cond ((beq 0 0)&&((beq ((a.take 2).length) 2)&&(beq 2 2))) (cond (ble 2 ((a.take 2).length)) (r0 ((a.take 2).take 2) b f g b) none) none) none))
def TJ:=(Ag (@MW R)).1
theorem EB:@TJ R=@MW R:=(Ag _).2
def sk (F:KF R):LA→Bool→LA→Nat→Bool→O R:=(fun h i j l m=>F (.tup [(.pagg h i),(.imm j l 1 false m)]) [])
def vY:=Cw N 158 [TI N] { H:=hL,nils:=[(3,1)],modes:=[(3,0),(1,1)] } (fun
 | [(.pagg a b)],[]=>some fun _ k=>TJ N a b (sk k)
 | _,_=>none) fun _ _=>by split;intro R F;dsimp only;rw[EB];kernel_rfl;trivial
def iO (a:LA) (b:Bool) (r0:Int→O R):O R :=
 (Ba 1 (a.drop 1) fun c d=>Q4 N c d false b fun e=>cond (e==0) (r0 0) (SK a fun f=>cond f (r0 (-1)) (r0 1)))
def gE:=(Ag (@iO R)).1
theorem cN:@gE R=@iO R:=(Ag _).2
def yu:=Cw N 159 [TI N] Fq (fun
 | [(.pagg a b)],[]=>some fun _ k=>gE N a b (Dr k)
 | _,_=>none) fun _ _=>by split;intro R F;dsimp only;rw[cN];kernel_rfl;trivial
def iP (a:LA) (b:Bool) (r0:Int→O R):O R :=
 (cond (ble 3 (a.length)) (TJ N (a.take 3) b fun c d f g h=>cond ((beq 0 0)&&((beq (c.length) 2)&&(beq 2 2))) (cond (ble 2 (c.length)) (gE N (c.take 2) d fun e=>r0 e) none) none) none)
def gF:=(Ag (@iP R)).1
theorem cO:@gF R=@iP R:=(Ag _).2
def yv:=Cw N 115 [vY N,yu N] Fq (fun
 | [(.pagg a b)],[]=>some fun _ k=>gF N a b (Dr k)
 | _,_=>none) fun _ _=>by split;intro R F;dsimp only;rw[cO];kernel_rfl;trivial
def U0 (N:Nat) (r0:Nat→LA→O R) (b:LA) (a:Nat) (f d:Bool) (k0:Int→O R) (c:Int):O R :=
 (cond ((decide (c>0))==true) (cond (Af (wrap .i64 (c - 1)) a) (Ao .u32 (b.drop (((wrap .i64 (c - 1)).toNat)*1)) fun g=>cond (cond true (g==0) false) (k0 (wrap .i64 (c - 1))) (cond ((decide ((0:Int)≤(0:Int)))&&((decide (0≤c))&&((decide (c≤(a:Int)))&&(decide ((a:Int)≤(a:Int)))))) (cond ((!d)||(Ax (b.take ((c.toNat)*1)))) (cond ((ble (0+(c.toNat)) 140737488355328)&&(ble ((0+(c.toNat))*4) 140737488355328)) (r0 (0+(c.toNat)) (b.take ((c.toNat)*1))) none) none) none)) none) (cond ((decide ((0:Int)≤(0:Int)))&&((decide (0≤c))&&((decide (c≤(a:Int)))&&(decide ((a:Int)≤(a:Int)))))) (cond ((!d)||(Ax (b.take ((c.toNat)*1)))) (cond ((ble (0+(c.toNat)) 140737488355328)&&(ble ((0+(c.toNat))*4) 140737488355328)) (r0 (0+(c.toNat)) (b.take ((c.toNat)*1))) none) none) none))
def K6 (r0:Nat→LA→O R) (b:LA) (a:Nat) (f d:Bool):Nat→Int→O R
 | 0,_=>none
 | n+1,c=>U0 N r0 b a f d (K6 r0 b a f d n) c
def BE (N:Nat) (r0:Nat→LA→O R) (q0:Int→O R) (b:LA) (a:Nat) (f d:Bool):O R :=
 (q0 (a:Int))
def Ds:=(Ag fun N b a f d r0=>BE (R:=R) N r0 (K6 N r0 b a f d N) b a f d).1
theorem EC (b a f d r0):(@Ds R N b a f d r0)=(BE N r0 (K6 N r0 b a f d N) b a f d):=by rw[Ds,(Ag _).2]
def sn (F:KF R):=Ip Tryz.f179 oG [] [] N F
def sq (b:LA) (a:Nat) (f d:Bool) (K:St→O R):=fun c=>K ⟨[(0,(.imm b a 1 f d)),(3,(iv c))],[]⟩
theorem iQ (F:KF R) (b a f d):∀ n,sq b a f d (Al (sn N F (pz 336) []) n)=(K6 N (Fi F) b a f d n):=Eu fun n e=>(Bp (U0 N (Fi F) b a f d) e:_)
def Iz:=Cw N 179 [] oG (fun
 | [(.imm b a 1 f d)],[]=>some fun _ k=>Ds N b a f d (Fi k)
 | _,_=>none) fun _ _=>by split;intro R F;exact(Bp (BE N (Fi F) · _ _ _ _) ((lW ..).trans (iQ ..)):_).trans (EC ..).symm;trivial
def ZH (b:Bool) (c:LA) (d:Nat) (f e:Bool) (r0:LA→O R):O R :=
 (Ds N c d false e fun a g=>cond (b==true) (r0 [(.bool (cond true (decide ((a:Int)>0)) false)),(.imm (g.take (a*1)) a 1 false false)]) (r0 [(.bool false),(.imm (g.take (a*1)) a 1 false false)]))
def Hc:=(Ag (@ZH R)).1
theorem TK:@Hc R=@ZH R:=(Ag _).2
def N8:=Cw N 134 [Iz N] BB (fun
 | [(.bool b),(.imm c d 1 f e)],[]=>some fun _ k=>Hc N b c d f e (Mz k)
 | _,_=>none) fun _ _=>by split;intro R F;dsimp only;rw[TK];kernel_rfl;trivial
def ZI (a:LA) (b:Bool) (r0:LA→O R):O R :=
 (SK a fun d=>Ba 1 (a.drop 1) fun e f=>Hc N d e f false b fun c=>cond ((beq 0 0)&&((beq (c.length) 2)&&(beq 2 2))) (cond (ble 2 (c.length)) (r0 (c.take 2)) none) none)
def BF:=(Ag (@ZI R)).1
theorem TL:@BF R=@ZI R:=(Ag _).2
def iR:=Cw N 129 [N8 N] BB (fun
 | [(.pagg a b)],[]=>some fun _ k=>BF N a b (Mz k)
 | _,_=>none) fun _ _=>by split;intro R F;dsimp only;rw[TL];kernel_rfl;trivial
def ZJ (a:LA) (b:Bool) (r0:Int→O R):O R :=
 (cond (ble 2 (a.length)) (BF N (a.take 2) b fun c=>cond ((beq (c.length) 2)&&((ble 2 (a.length))&&(!false))) (SK (setCells a 0 c) fun d=>cond d (r0 (-1)) (Ba 1 ((setCells a 0 c).drop 1) fun f e=>cond ((e:Int)==0) (r0 0) (r0 1))) none) none)
def BG:=(Ag (@ZJ R)).1
theorem TM:@BG R=@ZJ R:=(Ag _).2
def iS:=Cw N 127 [iR N] Fq (fun
 | [(.pagg a b)],[]=>some fun _ k=>BG N a b (Dr k)
 | _,_=>none) fun _ _=>by split;intro R F;dsimp only;rw[TM];kernel_rfl;trivial
def ZK (N:Nat) (r0:LA→O R):O R :=
 (r0 [(.bool false),(.imm [] 0 1 false false),(.imm [(.int .u32 1)] 1 1 false false)])
def TN:=(Ag (@ZK R)).1
theorem TO:@TN R=@ZK R:=(Ag _).2
def vZ:=Cw N 128 [] BB (fun
 | [],[]=>some fun _ k=>TN N (Mz k)
 | _,_=>none) fun _ _=>by split;intro R F;dsimp only;rw[TO];kernel_rfl;trivial
def R8 (N:Nat) (r0:Bool→O R) (c:LA) (a:Nat) (f g:Bool) (d:LA) (b:Nat) (h i:Bool) (k0:Int→O R) (j:Int):O R :=
 (cond (decide (j<(a:Int))) (cond (Af j a) (Ao .u32 (c.drop ((j.toNat)*1)) fun l=>cond (Af j b) (Ao .u32 (d.drop ((j.toNat)*1)) fun m=>cond (l != m) (r0 false) (k0 (wrap .i64 (j+1)))) none) none) (r0 true))
def I0 (r0:Bool→O R) (c:LA) (a:Nat) (f g:Bool) (d:LA) (b:Nat) (h i:Bool):Nat→Int→O R
 | 0,_=>none
 | n+1,j=>R8 N r0 c a f g d b h i (I0 r0 c a f g d b h i n) j
def ED (N:Nat) (r0:Bool→O R) (q0:Int→O R) (c:LA) (a:Nat) (f g:Bool) (d:LA) (b:Nat) (h i:Bool):O R :=
 (cond ((a:Int) != (b:Int)) (r0 false) (q0 0))
def BH:=(Ag fun N c a f g d b h i r0=>ED (R:=R) N r0 (I0 N r0 c a f g d b h i N) c a f g d b h i).1
theorem PE (c a f g d b h i r0):(@BH R N c a f g d b h i r0)=(ED N r0 (I0 N r0 c a f g d b h i N) c a f g d b h i):=by rw[BH,(Ag _).2]
def TP:Hints:={ H:=(hK 2 (hS (hK 1 (hS (hP [0,1,5] hL) hL)) hL)) }
def qO (F:KF R):=Ip Tryz.f130 TP [] [] N F
def qP (c:LA) (a:Nat) (f g:Bool) (d:LA) (b:Nat) (h i:Bool) (K:St→O R):=fun j=>K ⟨[(0,(.imm c a 1 f g)),(1,(.imm d b 1 h i)),(5,(iv j))],[]⟩
theorem ew (F:KF R) (c a f g d b h i):∀ n,qP c a f g d b h i (Al (qO N F (pz 1348) []) n)=(I0 N (Bq F) c a f g d b h i n):=Eu fun n e=>(Bp (R8 N (Bq F) c a f g d b h i) e:_)
def sr:=Cw N 130 [] TP (fun
 | [(.imm c a 1 f g),(.imm d b 1 h i)],[]=>some fun _ k=>BH N c a f g d b h i (Bq k)
 | _,_=>none) fun _ _=>by split;intro R F;exact(Bp (ED N (Bq F) · _ _ _ _ _ _ _ _) ((lW ..).trans (ew ..)):_).trans (PE ..).symm;trivial
def E5 (N:Nat) (r0:Int→Bool→O R) (a:Nat) (b:LA) (k0:Int→Int→O R) (i c:Int):O R :=
 (cond (decide (c≥0)) (cond (Af c a) (Ao .u32 (b.drop (0+((c.toNat)*1))) fun j=>k0 (iM .u64 (wrap .u64 (i*2 ^ 32)) (wrap .u64 j)) (wrap .i64 (c - 1))) none) (r0 i true))
def Dm (r0:Int→Bool→O R) (a:Nat) (b:LA):Nat→Int→Int→O R
 | 0,_,_=>none
 | n+1,i,c=>E5 N r0 a b (Dm r0 a b n) i c
def X7 (r0:Int→Bool→O R) (q0:Nat→LA→Int→Int→O R) (d:LA) (f:Nat) (h g:Bool):O R :=
 (Ds N d f false g fun a b=>cond (decide ((a:Int)>2)) (r0 0 false) (q0 a b 0 (wrap .i64 ((a:Int) - 1))))
def Q5:=(Ag fun N d f h g r0=>X7 (R:=R) N r0 (fun a b=>Dm N r0 a b N) d f h g).1
theorem JJ (d f h g r0):(@Q5 R N d f h g r0)=(X7 N r0 (fun a b=>Dm N r0 a b N) d f h g):=by rw[Q5,(Ag _).2]
def PF:Hints:={ H:=(hK 4 (hS (hK 1 (hS (hP [0,4,5] hL) hL)) hL)) }
def TQ:Oi:=[Iz N]
def mB (F:KF R):=Ip Tryz.f197 PF (TQ N) [] N F
def R9 (F:KF R):Int→Bool→O R:=(fun l m=>F (.tup [(.int .u64 l),(.bool m)]) [])
def mC (a:Nat) (b:LA) (K:St→O R):=fun i c=>K ⟨[(0,(.own 300000 0 a)),(4,(.int .u64 i)),(5,(iv c))],(hq [(bQ 1 b)])⟩
theorem ZL (F:KF R) (a b):∀ n,mC a b (Al (mB N F (pz 21828) []) n)=(Dm N (R9 F) a b n):=Eu fun n e=>(Bp (E5 N (R9 F) a b) e:_)
def qQ:=Cw N 197 (TQ N) PF (fun
 | [(.imm d f 1 h g)],[]=>some fun _ k=>Q5 N d f h g (R9 k)
 | _,_=>none) fun _ _=>by split;intro R F;exact(Bp (X7 N (R9 F) · _ _ _ _) (ZD fun a b=>(lW ..).trans (ZL ..)):_).trans (JJ ..).symm;trivial
def T8 (a:Int) (r0:Nat→LA→O R):O R :=
 (Ds N [(.int .u32 (wrap .u32 a)),(.int .u32 (wrap .u32 (Int.fdiv a (2 ^ 32))))] 2 false true fun b c=>r0 b c)
def Gc:=(Ag (@T8 R)).1
theorem Wu:@Gc R=@T8 R:=(Ag _).2
def BI:=Cw N 135 [Iz N] { H:=hL,nils:=[(2,1)],modes:=[(2,1)] } (fun
 | [(.int .u64 a)],[]=>some fun _ k=>Gc N a (Fi k)
 | _,_=>none) fun _ _=>by split;intro R F;dsimp only;rw[Wu];kernel_rfl;trivial
def Pe (N:Nat) (r0:Int→O R) (k0:Int→Int→O R) (f g:Int):O R :=
 (cond (decide (g>0)) (k0 (wrap .i64 (f+1)) (Int.fdiv g (2 ^ 1))) (r0 f))
def Iq (r0:Int→O R):Nat→Int→Int→O R
 | 0,_,_=>none
 | n+1,f,g=>Pe N r0 (Iq r0 n) f g
def BJ (r0:Int→O R) (q0:Int→Int→O R) (a:LA) (b:Nat) (d c:Bool):O R :=
 (Ds N a b false c fun h i=>cond ((h:Int)==0) (r0 0) (cond (Af (wrap .i64 ((h:Int) - 1)) h) (Ao .u32 (i.drop (0+(((wrap .i64 ((h:Int) - 1)).toNat)*1))) fun j=>q0 (wrap .i64 (32*(wrap .i64 ((h:Int) - 1)))) j) none))
def JK:=(Ag fun N a b d c r0=>BJ (R:=R) N r0 (Iq N r0 N) a b d c).1
theorem EE (a b d c r0):(@JK R N a b d c r0)=(BJ N r0 (Iq N r0 N) a b d c):=by rw[JK,(Ag _).2]
def cP:Hints:={ H:=(hK 4 (hS (hK 1 (hS (hP [3,4] hL) hL)) hL)) }
def iT:Oi:=[Iz N]
def su (F:KF R):=Ip Tryz.f198 cP (iT N) [] N F
def sv (K:St→O R):=fun f g=>K ⟨[(3,(iv f)),(4,(.int .u32 g))],[]⟩
theorem iU (F:KF R):∀ n,sv (Al (su N F (pz 21828) []) n)=(Iq N (Dr F) n):=Eu fun n e=>(Bp (Pe N (Dr F)) e:_)
def v7:=Cw N 198 (iT N) cP (fun
 | [(.imm a b 1 d c)],[]=>some fun _ k=>JK N a b d c (Dr k)
 | _,_=>none) fun _ _=>by split;intro R F;exact(Bp (BJ N (Dr F) · _ _ _ _) ((lW ..).trans (iU ..)):_).trans (EE ..).symm;trivial
def Wv (N:Nat) (k0:Nat→Int→Int→LA→O R) (r0:Nat→LA→O R) (c:LA) (a:Nat) (f g:Bool) (d:LA) (b:Nat) (h i:Bool) (j:Nat) (l:LA) (p m:Int):O R :=
 (cond (decide (m<(b:Int))) (cond (Af m b) (Ao .u32 (d.drop ((m.toNat)*1)) fun r=>cond (Af m j) (cond ((beq 1 1)&&((ble ((0+((m.toNat)*1))+1) (l.length))&&(!false))) (k0 j (Int.fdiv (wrap .u64 (p+(wrap .u64 r))) (2 ^ 32)) (wrap .i64 (m+1)) (l.set (0+((m.toNat)*1)) (.int .u32 (wrap .u32 (wrap .u64 (p+(wrap .u64 r))))))) none) none) none) (cond (Af m j) (cond ((beq 1 1)&&((ble ((0+((m.toNat)*1))+1) (l.length))&&(!false))) (k0 j (Int.fdiv p (2 ^ 32)) (wrap .i64 (m+1)) (l.set (0+((m.toNat)*1)) (.int .u32 (wrap .u32 p)))) none) none))
def X8 (r0:Nat→LA→O R) (c:LA) (a:Nat) (f g:Bool) (d:LA) (b:Nat) (h i:Bool) (k0:Nat→Int→Int→LA→O R) (q1:Nat→LA→Int→Int→O R) (j:Nat) (q o:Int) (l:LA):O R :=
 (cond (decide (o<(j:Int))) (cond (decide (o<(a:Int))) (cond (Af o a) (Ao .u32 (c.drop ((o.toNat)*1)) fun s=>q1 j l (wrap .u64 (q+(wrap .u64 s))) o) none) (q1 j l q o)) (Ds N (l.take (j*1)) j false true fun t u=>r0 t u))
def Hr (r0:Nat→LA→O R) (c:LA) (a:Nat) (f g:Bool) (d:LA) (b:Nat) (h i:Bool):Nat→Nat→Int→Int→LA→O R
 | 0,_,_,_,_=>none
 | n+1,j,q,o,l=>X8 N r0 c a f g d b h i (Hr r0 c a f g d b h i n) (fun j l=>Wv N (Hr r0 c a f g d b h i n) r0 c a f g d b h i j l) j q o l
def TR (N:Nat) (r0:Nat→LA→O R) (q0:Nat→Int→Int→LA→O R) (c:LA) (a:Nat) (f g:Bool) (d:LA) (b:Nat) (h i:Bool):O R :=
 (cond ((decide (0≤(wrap .i64 ((QU (a:Int) (b:Int))+1))))&&((decide ((wrap .i64 ((QU (a:Int) (b:Int))+1))≤(wrap .i64 ((QU (a:Int) (b:Int))+1))))&&((decide ((wrap .i64 ((QU (a:Int) (b:Int))+1))≤140737488355328))&&(decide (((wrap .i64 ((QU (a:Int) (b:Int))+1))*((4:Nat):Int))≤140737488355328))))) (q0 ((wrap .i64 ((QU (a:Int) (b:Int))+1)).toNat) 0 0 (replicate ((wrap .i64 ((QU (a:Int) (b:Int))+1)).toNat) (.int .u32 0))) none)
def EF:=(Ag fun N c a f g d b h i r0=>TR (R:=R) N r0 (Hr N r0 c a f g d b h i N) c a f g d b h i).1
theorem cQ (c a f g d b h i r0):(@EF R N c a f g d b h i r0)=(TR N r0 (Hr N r0 c a f g d b h i N) c a f g d b h i):=by rw[EF,(Ag _).2]
def iV:Hints:={ H:=(hK 3 (hS (hK 1 (hS (hP [0,1,5,6,7] (hK 1 (hS (hS (hJ [0,1,5,6,7] hL hL) hL) hL))) hL)) hL)),nils:=[(4,1)],modes:=[(2,1)] }
def oH:Oi:=[Iz N]
def iW (F:KF R):=Ip Tryz.f199 iV (oH N) [] N F
def v8 (c:LA) (a:Nat) (f g:Bool) (d:LA) (b:Nat) (h i:Bool) (j:Nat) (l:LA) (K:St→O R):=fun p m=>K ⟨[(0,(.imm c a 1 f g)),(1,(.imm d b 1 h i)),(5,(.own 300000 0 j)),(6,(.int .u64 p)),(7,(iv m))],(hq [(bQ 1 l)])⟩
def iX (c:LA) (a:Nat) (f g:Bool) (d:LA) (b:Nat) (h i:Bool) (K:St→O R):=fun j q o l=>K ⟨[(0,(.imm c a 1 f g)),(1,(.imm d b 1 h i)),(5,(.own 300000 0 j)),(6,(.int .u64 q)),(7,(iv o))],(hq [(bQ 1 l)])⟩
theorem mD (Q0) (F:KF R) (c a f g d b h i j l):v8 c a f g d b h i j l (Bh (iW N F (pz 5574721) [Q0]))=(Wv N (iX c a f g d b h i Q0) (Fi F) c a f g d b h i j l):=by kernel_rfl
theorem mE (F:KF R) (c a f g d b h i):∀ n,iX c a f g d b h i (Al (iW N F (pz 5444) []) n)=(Hr N (Fi F) c a f g d b h i n):=Eu fun n e=>(DZ (X8 N (Fi F) c a f g d b h i) e (ZD fun j l=>(jW ..).trans ((mD ..).trans (ly (Wv _ · _ _ _ _ _ _ _ _ _ _ _) e))):_)
def oI:=Cw N 199 (oH N) iV (fun
 | [(.imm c a 1 f g),(.imm d b 1 h i)],[]=>some fun _ k=>EF N c a f g d b h i (Fi k)
 | _,_=>none) fun _ _=>by split;intro R F;exact(Bp (TR N (Fi F) · _ _ _ _ _ _ _ _) ((lW ..).trans (mE ..)):_).trans (cQ ..).symm;trivial
def iY (N:Nat) (c:LA) (b:Nat) (d e:Bool) (a:Int) (r0:Int→O R):O R :=
 (cond (decide ((wrap .i64 (Int.tdiv a 32))≥(b:Int))) (r0 0) (cond (Af (wrap .i64 (Int.tdiv a 32)) b) (Ao .u32 (c.drop (((wrap .i64 (Int.tdiv a 32)).toNat)*1)) fun f=>cond (decide ((wrap .u64 (Int.tmod a 32))<0)) none (r0 (vW .u32 (Int.fdiv f (2 ^ (min ((wrap .u64 (Int.tmod a 32)).toNat) 32))) 1))) none))
def gG:=(Ag (@iY R)).1
theorem cR:@gG R=@iY R:=(Ag _).2
def v_ (F:KF R):Int→O R:=(fun g=>F (.int .u32 g) [])
def yw:=Cw N 200 [] Fq (fun
 | [(.imm c b 1 d e),(.int .i64 a)],[]=>some fun _ k=>gG N c b d e a (v_ k)
 | _,_=>none) fun _ _=>by split;intro R F;dsimp only;rw[cR];kernel_rfl;trivial
def Nt (N:Nat) (r0:Int→O R) (a b:Nat) (c d:LA) (k0:Int→O R) (f:Int):O R :=
 (cond (decide (f≥0)) (cond (Af f a) (Ao .u32 (c.drop (0+((f.toNat)*1))) fun q=>cond (Af f b) (Ao .u32 (d.drop (0+((f.toNat)*1))) fun r=>cond (decide (q<r)) (r0 (-1)) (cond (Af f a) (Ao .u32 (c.drop (0+((f.toNat)*1))) fun s=>cond (Af f b) (Ao .u32 (d.drop (0+((f.toNat)*1))) fun t=>cond (decide (s>t)) (r0 1) (k0 (wrap .i64 (f - 1)))) none) none)) none) none) (r0 0))
def Gd (r0:Int→O R) (a b:Nat) (c d:LA):Nat→Int→O R
 | 0,_=>none
 | n+1,f=>Nt N r0 a b c d (Gd r0 a b c d n) f
def U3 (r0:Int→O R) (q0:Nat→Nat→LA→LA→Int→O R) (g:LA) (h:Nat) (o i:Bool) (j:LA) (l:Nat) (p m:Bool):O R :=
 (Ds N g h false i fun a c=>Ds N j l false m fun b d=>cond ((a:Int) != (b:Int)) (cond (decide ((a:Int)<(b:Int))) (r0 (-1)) (r0 1)) (q0 a b c d (wrap .i64 ((a:Int) - 1))))
def Tb:=(Ag fun N g h o i j l p m r0=>U3 (R:=R) N r0 (fun a b c d=>Gd N r0 a b c d N) g h o i j l p m).1
theorem GW (g h o i j l p m r0):(@Tb R N g h o i j l p m r0)=(U3 N r0 (fun a b c d=>Gd N r0 a b c d N) g h o i j l p m):=by rw[Tb,(Ag _).2]
def JL:Hints:={ H:=(hK 3 (hS (hK 1 (hS (hP [0,1,5] hL) hL)) hL)) }
def PG:Oi:=[Iz N]
def iZ (F:KF R):=Ip Tryz.f221 JL (PG N) [] N F
def i8 (a b:Nat) (c d:LA) (K:St→O R):=fun f=>K ⟨[(0,(.own 300000 0 a)),(1,(.own 300001 0 b)),(5,(iv f))],(hq [(bQ 1 c),(bQ 1 d)])⟩
theorem TS (F:KF R) (a b c d):∀ n,i8 a b c d (Al (iZ N F (pz 5444) []) n)=(Gd N (Dr F) a b c d n):=Eu fun n e=>(Bp (Nt N (Dr F) a b c d) e:_)
def mF:=Cw N 221 (PG N) JL (fun
 | [(.imm g h 1 o i),(.imm j l 1 p m)],[]=>some fun _ k=>Tb N g h o i j l p m (Dr k)
 | _,_=>none) fun _ _=>by split;intro R F;exact(Bp (U3 N (Dr F) · _ _ _ _ _ _ _ _) (zp fun a b c d=>(lW ..).trans (TS ..)):_).trans (GW ..).symm;trivial
def Ww (N:Nat) (k0:Int→Int→LA→O R) (r0:Nat→Bool→LA→O R) (a b:Nat) (c d f:LA) (g t:Int):O R :=
 (cond (Af g a) (Ao .u32 (c.drop (0+((g.toNat)*1))) fun u=>cond (decide ((wrap .u64 u)<t)) (cond (Af g a) (cond ((beq 1 1)&&((ble ((0+((g.toNat)*1))+1) (f.length))&&(!false))) (k0 1 (wrap .i64 (g+1)) (f.set (0+((g.toNat)*1)) (.int .u32 (wrap .u32 (wrap .u64 ((wrap .u64 ((wrap .u64 u)+4294967296)) - t)))))) none) none) (cond (Af g a) (cond ((beq 1 1)&&((ble ((0+((g.toNat)*1))+1) (f.length))&&(!false))) (k0 0 (wrap .i64 (g+1)) (f.set (0+((g.toNat)*1)) (.int .u32 (wrap .u32 (wrap .u64 ((wrap .u64 u) - t)))))) none) none)) none)
def X9 (r0:Nat→Bool→LA→O R) (a b:Nat) (c d:LA) (k0:Int→Int→LA→O R) (q1:LA→Int→Int→O R) (s h:Int) (f:LA):O R :=
 (cond (decide (h<(a:Int))) (cond (decide (h<(b:Int))) (cond (Af h b) (Ao .u32 (d.drop (0+((h.toNat)*1))) fun v=>q1 f h (wrap .u64 (s+(wrap .u64 v)))) none) (q1 f h s)) (Ds N (f.take (a*1)) a false true fun w x=>r0 w true x))
def Hs (r0:Nat→Bool→LA→O R) (a b:Nat) (c d:LA):Nat→Int→Int→LA→O R
 | 0,_,_,_=>none
 | n+1,s,h,f=>X9 N r0 a b c d (Hs r0 a b c d n) (fun f=>Ww N (Hs r0 a b c d n) r0 a b c d f) s h f
def TT (r0:Nat→Bool→LA→O R) (q0:Nat→Nat→LA→LA→Int→Int→LA→O R) (i:LA) (j:Nat) (q l:Bool) (m:LA) (o:Nat) (r p:Bool):O R :=
 (Tb N i j false l m o false p fun y=>cond (decide (y<0)) (r0 0 false []) (Ds N i j false l fun a c=>Ds N m o false p fun b d=>cond ((decide (0≤(a:Int)))&&((decide ((a:Int)≤(a:Int)))&&((decide ((a:Int)≤140737488355328))&&(decide (((a:Int)*((4:Nat):Int))≤140737488355328))))) (q0 a b c d 0 0 (replicate a (.int .u32 0))) none))
def EG:=(Ag fun N i j q l m o r p r0=>TT (R:=R) N r0 (fun a b c d=>Hs N r0 a b c d N) i j q l m o r p).1
theorem cS (i j q l m o r p r0):(@EG R N i j q l m o r p r0)=(TT N r0 (fun a b c d=>Hs N r0 a b c d N) i j q l m o r p):=by rw[EG,(Ag _).2]
def i_:Hints:={ H:=(hK 5 (hS (hK 1 (hS (hP [0,1,6,7,8] (hK 1 (hS (hS (hK 1 (hJ [0,1,6,8,9] hL hL)) hL) hL))) hL)) hL)),nils:=[(4,1)],modes:=[(2,1),(0,0)] }
def oJ:Oi:=[mF N,Iz N]
def ia (F:KF R):=Ip Tryz.f201 i_ (oJ N) [] N F
def Wx (F:KF R):Nat→Bool→LA→O R:=(fun z aa ab=>F (.tup [(.own 300000 0 z),(.bool aa)]) (hq [(bQ 1 ab)]))
def va (a b:Nat) (c d f:LA) (K:St→O R):=fun g t=>K ⟨[(0,(.own 300000 0 a)),(1,(.own 300001 0 b)),(6,(.own 300002 0 a)),(8,(iv g)),(9,(.int .u64 t))],(hq [(bQ 1 c),(bQ 1 d),(bQ 1 f)])⟩
def ib (a b:Nat) (c d:LA) (K:St→O R):=fun s h f=>K ⟨[(0,(.own 300000 0 a)),(1,(.own 300001 0 b)),(6,(.own 300002 0 a)),(7,(.int .u64 s)),(8,(iv h))],(hq [(bQ 1 c),(bQ 1 d),(bQ 1 f)])⟩
theorem mG (Q0) (F:KF R) (a b c d f):va a b c d f (Bh (ia N F (pz 357843205) [Q0]))=(Ww N (ib a b c d Q0) (Wx F) a b c d f):=by kernel_rfl
theorem mH (F:KF R) (a b c d):∀ n,ib a b c d (Al (ia N F (pz 87364) []) n)=(Hs N (Wx F) a b c d n):=Eu fun n e=>(DZ (X9 N (Wx F) a b c d) e (eo fun f=>(jW ..).trans ((mG ..).trans (ly (Ww _ · _ _ _ _ _ _) e))):_)
def oK:=Cw N 201 (oJ N) i_ (fun
 | [(.imm i j 1 q l),(.imm m o 1 r p)],[]=>some fun _ k=>EG N i j q l m o r p (Wx k)
 | _,_=>none) fun _ _=>by split;intro R F;exact(Bp (TT N (Wx F) · _ _ _ _ _ _ _ _) (zp fun a b c d=>(lW ..).trans (mH ..)):_).trans (cS ..).symm;trivial
def Ke (k1:Nat→Int→LA→LA→O R) (r0:Nat→Nat→Bool→LA→LA→O R) (b:LA) (a:Nat) (f c:Bool) (d:Nat) (h:Int) (g i:LA) (r:Nat) (s:LA):O R :=
 (EG N (s.take (r*1)) r false true (g.take (d*1)) d false true fun x y z=>cond y (cond (Af (wrap .i64 (Int.tdiv h 32)) a) (Ao .u32 (i.drop (0+(((wrap .i64 (Int.tdiv h 32)).toNat)*1))) fun aa=>cond (decide ((wrap .u64 (Int.tmod h 32))<0)) none (cond (Af (wrap .i64 (Int.tdiv h 32)) a) (cond ((beq 1 1)&&((ble ((0+(((wrap .i64 (Int.tdiv h 32)).toNat)*1))+1) (i.length))&&(!false))) (k1 x (wrap .i64 (h - 1)) (i.set (0+(((wrap .i64 (Int.tdiv h 32)).toNat)*1)) (.int .u32 (iM .u32 aa (wrap .u32 ((1:Int)*2 ^ (min ((wrap .u64 (Int.tmod h 32)).toNat) 32)))))) z) none) none)) none) (k1 r (wrap .i64 (h - 1)) i s))
def Pf (r0:Nat→Nat→Bool→LA→LA→O R) (b:LA) (a:Nat) (f c:Bool) (d:Nat) (g:LA) (k1:Nat→Int→LA→LA→O R) (q2:Int→LA→Nat→LA→O R) (j:Nat) (h:Int) (i p:LA):O R :=
 (cond (decide (h≥0)) (EF N (p.take (j*1)) j false true (p.take (j*1)) j false true fun u v=>gG N b a false c h fun ab=>cond (ab==1) (EF N (v.take (u*1)) u false true [(.int .u32 1)] 1 false true fun ac ad=>q2 h i ac ad) (q2 h i u v)) (Ds N (i.take (a*1)) a false true fun ae af=>Ds N (p.take (j*1)) j false true fun ag ah=>r0 ae ag true af ah))
def Ev (r0:Nat→Nat→Bool→LA→LA→O R) (b:LA) (a:Nat) (f c:Bool) (d:Nat) (g:LA):Nat→Nat→Int→LA→LA→O R
 | 0,_,_,_,_=>none
 | n+1,j,h,i,p=>Pf N r0 b a f c d g (Ev r0 b a f c d g n) (fun h i=>Ke N (Ev r0 b a f c d g n) r0 b a f c d h g i) j h i p
def Wy (r0:Nat→Nat→Bool→LA→LA→O R) (b:LA) (a:Nat) (f c:Bool) (d:Nat) (g:LA) (q1:Nat→Int→LA→LA→O R):O R :=
 (cond ((decide (0≤(a:Int)))&&((decide ((a:Int)≤(a:Int)))&&((decide ((a:Int)≤140737488355328))&&(decide (((a:Int)*((4:Nat):Int))≤140737488355328))))) (JK N b a false c fun ai=>q1 0 (wrap .i64 (ai - 1)) (replicate a (.int .u32 0)) []) none)
def Na (r0:Nat→Nat→Bool→LA→LA→O R) (b:LA) (a:Nat) (f c:Bool) (d:Nat) (g:LA):O R:=(Wy N r0 b a f c d g (Ev N r0 b a f c d g N))
def Ya (r0:Nat→Nat→Bool→LA→LA→O R) (q0:Nat→LA→O R) (b:LA) (a:Nat) (f c:Bool) (l:LA) (m:Nat) (q o:Bool):O R :=
 (Ds N l m false o fun d g=>cond ((d:Int)==0) (r0 0 0 false [] []) (Q5 N b a false c fun w aj=>Q5 N (g.take (d*1)) d false true fun t ak=>cond (aj==true) (cond (cond true ak false) (cond (t==0) none (Gc N (wrap .u64 (Int.tdiv w t)) fun al am=>cond (t==0) none (Gc N (Int.tmod w t) fun an ao=>r0 al an true am ao))) (q0 d g)) (q0 d g)))
def Q6:=(Ag fun N b a f c l m q o r0=>Ya (R:=R) N r0 (fun d g=>Na N r0 b a f c d g) b a f c l m q o).1
theorem JM (b a f c l m q o r0):(@Q6 R N b a f c l m q o r0)=(Ya N r0 (fun d g=>Na N r0 b a f c d g) b a f c l m q o):=by rw[Q6,(Ag _).2]
def PH:Hints:={ H:=(hK 4 (hJ [0,1,5] hL (hK 1 (hS (hK 1 (hS (hP [0,1,4,5,11] (hK 1 (hS (hS (hK 1 (hJ [0,1,4,5,11] hL hL)) hL) hL))) hL)) hL)))),nils:=[(4,1),(5,1)],modes:=[(2,1),(2,1),(0,0)] }
def TU:Oi:=[Iz N,qQ N,BI N,v7 N,oI N,yw N,oK N]
def Zy (F:KF R):=Ip Tryz.f175 PH (TU N) [] N F
def Ht (F:KF R):Nat→Nat→Bool→LA→LA→O R:=(fun ap aq ar au av=>F (.tup [(.own 300000 0 ap),(.own 300001 0 aq),(.bool ar)]) (hq [(bQ 1 au),(bQ 1 av)]))
def mI (b:LA) (a:Nat) (f c:Bool) (d:Nat) (h:Int) (g i:LA) (K:St→O R):=fun r s=>K ⟨[(0,(.imm b a 1 f c)),(1,(.own 300000 0 d)),(4,(.own 300001 0 a)),(5,(.own 300002 0 r)),(11,(iv h))],(hq [(bQ 1 g),(bQ 1 i),(bQ 1 s)])⟩
def PI (b:LA) (a:Nat) (f c:Bool) (d:Nat) (g:LA) (K:St→O R):=fun j h i p=>K ⟨[(0,(.imm b a 1 f c)),(1,(.own 300000 0 d)),(4,(.own 300001 0 a)),(5,(.own 300002 0 j)),(11,(iv h))],(hq [(bQ 1 g),(bQ 1 i),(bQ 1 p)])⟩
def mJ (b:LA) (a:Nat) (f c:Bool) (d:Nat) (g:LA) (K:St→O R):=K ⟨[(0,(.imm b a 1 f c)),(1,(.own 300000 0 d)),(5,(.own 300001 0 0))],(hq [(bQ 1 g),(bQ 1 [])])⟩
theorem ZM (Q1) (F:KF R) (b a f c d h g i):mI b a f c d h g i (Bh (Zy N F (pz 1431585029) [Q1]))=(Ke N (PI b a f c d g Q1) (Ht F) b a f c d h g i):=by kernel_rfl
theorem ZN (F:KF R) (b a f c d g):∀ n,PI b a f c d g (Al (Zy N F (pz 349508) []) n)=(Ev N (Ht F) b a f c d g n):=Eu fun n e=>(DZ (Pf N (Ht F) b a f c d g) e (ZD fun h i=>(jW ..).trans ((ZM ..).trans (ly (Ke _ · _ _ _ _ _ _ _ _ _) e))):_)
theorem ZO (F:KF R) (b a f c d g):mJ b a f c d g (Bh (Zy N F (pz 1365) []))=(Na N (Ht F) b a f c d g):=(Bp (Wy N (Ht F) b a f c d g) ((lW ..).trans (ZN ..)):_)
def TV:=Cw N 175 (TU N) PH (fun
 | [(.imm b a 1 f c),(.imm l m 1 q o)],[]=>some fun _ k=>Q6 N b a f c l m q o (Ht k)
 | _,_=>none) fun _ _=>by split;intro R F;exact(Bp (Ya N (Ht F) · _ _ _ _ _ _ _ _) (ZD fun d g=>(jW ..).trans (ZO ..)):_).trans (JM ..).symm;trivial
def Oj (r0:Nat→LA→O R) (k0:Nat→Nat→LA→LA→O R) (i a:Nat) (m o:LA):O R :=
 (cond (decide ((a:Int)>0)) (Q6 N (m.take (i*1)) i false true (o.take (a*1)) a false true fun v p w x q=>k0 a p o q) (r0 i m))
def Dt (r0:Nat→LA→O R):Nat→Nat→Nat→LA→LA→O R
 | 0,_,_,_,_=>none
 | n+1,i,a,m,o=>Oj N r0 (Dt r0 n) i a m o
def TW (r0:Nat→LA→O R) (q0:Nat→Nat→LA→LA→O R) (b:LA) (c:Nat) (j d:Bool) (f:LA) (g:Nat) (l h:Bool):O R :=
 (Ds N b c false d fun r s=>Ds N f g false h fun t u=>q0 r t s u)
def TX:=(Ag fun N b c j d f g l h r0=>TW (R:=R) N r0 (Dt N r0 N) b c j d f g l h).1
theorem cT (b c j d f g l h r0):(@TX R N b c j d f g l h r0)=(TW N r0 (Dt N r0 N) b c j d f g l h):=by rw[TX,(Ag _).2]
def ic:Hints:={ H:=(hK 2 (hS (hS (hP [0,1] hL) hL) hL)),nils:=[(4,1)],modes:=[(2,1)] }
def oL:Oi:=[Iz N,TV N]
def vd (F:KF R):=Ip Tryz.f174 ic (oL N) [] N F
def ve (K:St→O R):=fun i a m o=>K ⟨[(0,(.own 300000 0 i)),(1,(.own 300001 0 a))],(hq [(bQ 1 m),(bQ 1 o)])⟩
theorem mK (F:KF R):∀ n,ve (Al (vd N F (pz 336) []) n)=(Dt N (Fi F) n):=Eu fun n e=>(Bp (Oj N (Fi F)) e:_)
def yx:=Cw N 174 (oL N) ic (fun
 | [(.imm b c 1 j d),(.imm f g 1 l h)],[]=>some fun _ k=>TX N b c j d f g l h (Fi k)
 | _,_=>none) fun _ _=>by split;intro R F;exact(Bp (TW N (Fi F) · _ _ _ _ _ _ _ _) ((lW ..).trans (mK ..)):_).trans (cT ..).symm;trivial
def ig (a:LA) (b:Bool) (c:LA) (d:Bool) (r0:LA→O R):O R :=
 (Ba 1 (a.drop 1) fun g h=>Ba 1 (c.drop 1) fun i j=>TX N g h false b i j false d fun f l=>Hc N false (l.take (f*1)) f false true fun e=>cond ((beq 0 0)&&((beq (e.length) 2)&&(beq 2 2))) (cond (ble 2 (e.length)) (r0 (e.take 2)) none) none)
def gH:=(Ag (@ig R)).1
theorem cU:@gH R=@ig R:=(Ag _).2
def yy:=Cw N 131 [yx N,N8 N] BB (fun
 | [(.pagg a b),(.pagg c d)],[]=>some fun _ k=>gH N a b c d (Mz k)
 | _,_=>none) fun _ _=>by split;intro R F;dsimp only;rw[cU];kernel_rfl;trivial
def sw (a:LA) (b:Bool) (r0:LA→O R):O R :=
 (Ba 1 (a.drop 1) fun d e=>Hc N false d e false b fun c=>cond ((beq 0 0)&&((beq (c.length) 2)&&(beq 2 2))) (cond (ble 2 (c.length)) (r0 (c.take 2)) none) none)
def qR:=(Ag (@sw R)).1
theorem sx:@qR R=@sw R:=(Ag _).2
def yz:=Cw N 177 [N8 N] BB (fun
 | [(.pagg a b)],[]=>some fun _ k=>qR N a b (Mz k)
 | _,_=>none) fun _ _=>by split;intro R F;dsimp only;rw[sx];kernel_rfl;trivial
def sy (a:LA) (c:Bool) (b:LA) (d:Bool) (r0:LA→O R):O R :=
 (SK a fun l=>SK b fun m=>cond (l==m) (SK a fun n=>Ba 1 (a.drop 1) fun o p=>Ba 1 (b.drop 1) fun q r=>EF N o p false c q r false d fun h s=>Hc N n (s.take (h*1)) h false true fun e=>cond ((beq 0 0)&&((beq (e.length) 2)&&(beq 2 2))) (cond (ble 2 (e.length)) (r0 (e.take 2)) none) none) (Ba 1 (a.drop 1) fun t u=>Ba 1 (b.drop 1) fun v w=>EG N t u false c v w false d fun i x y=>cond x (SK a fun z=>Hc N z (y.take (i*1)) i false true fun f=>cond ((beq 0 0)&&((beq (f.length) 2)&&(beq 2 2))) (cond (ble 2 (f.length)) (r0 (f.take 2)) none) none) (Ba 1 (b.drop 1) fun aa ab=>Ba 1 (a.drop 1) fun ac ad=>EG N aa ab false d ac ad false c fun j ag ae=>SK b fun af=>Hc N af (ae.take (j*1)) j false true fun g=>cond ((beq 0 0)&&((beq (g.length) 2)&&(beq 2 2))) (cond (ble 2 (g.length)) (r0 (g.take 2)) none) none)))
def TY:=(Ag (@sy R)).1
theorem tA:@TY R=@sy R:=(Ag _).2
def oM:=Cw N 176 [oI N,N8 N,oK N] BB (fun
 | [(.pagg a c),(.pagg b d)],[]=>some fun _ k=>TY N a c b d (Mz k)
 | _,_=>none) fun _ _=>by split;intro R F;dsimp only;rw[tA];kernel_rfl;trivial
def EH (a:Int) (r0:LA→O R):O R :=
 (cond (decide (a<0)) (Gc N (wrap .u64 ((wrap .u64 (wrap .i64 ((0:Int) - (wrap .i64 (a+1)))))+1)) fun d f=>Hc N true (f.take (d*1)) d false true fun b=>cond ((beq 0 0)&&((beq (b.length) 2)&&(beq 2 2))) (cond (ble 2 (b.length)) (r0 (b.take 2)) none) none) (Gc N (wrap .u64 a) fun e g=>Hc N false (g.take (e*1)) e false true fun c=>cond ((beq 0 0)&&((beq (c.length) 2)&&(beq 2 2))) (cond (ble 2 (c.length)) (r0 (c.take 2)) none) none))
def Hd:=(Ag (@EH R)).1
theorem GX:@Hd R=@EH R:=(Ag _).2
def Zz:=Cw N 88 [BI N,N8 N] BB (fun
 | [(.int .i64 a)],[]=>some fun _ k=>Hd N a (Mz k)
 | _,_=>none) fun _ _=>by split;intro R F;dsimp only;rw[GX];kernel_rfl;trivial
def tB (a:LA) (b:Bool) (r0:LA→O R):O R :=
 (SK a fun d=>Ba 1 (a.drop 1) fun e f=>Hc N (!d) e f false b fun c=>cond ((beq 0 0)&&((beq (c.length) 2)&&(beq 2 2))) (cond (ble 2 (c.length)) (r0 (c.take 2)) none) none)
def TZ:=(Ag (@tB R)).1
theorem tC:@TZ R=@tB R:=(Ag _).2
def oN:=Cw N 133 [N8 N] BB (fun
 | [(.pagg a b)],[]=>some fun _ k=>TZ N a b (Mz k)
 | _,_=>none) fun _ _=>by split;intro R F;dsimp only;rw[tC];kernel_rfl;trivial
def tD (a:LA) (c:Bool) (b:LA) (d:Bool) (r0:LA→O R):O R :=
 (cond (ble 2 (a.length)) (cond (ble 2 (b.length)) (TZ N (b.take 2) d fun f=>TY N (a.take 2) c f false fun e=>cond ((beq 0 0)&&((beq (e.length) 2)&&(beq 2 2))) (cond (ble 2 (e.length)) (r0 (e.take 2)) none) none) none) none)
def qS:=(Ag (@tD R)).1
theorem tE:@qS R=@tD R:=(Ag _).2
def zA:=Cw N 178 [oN N,oM N] BB (fun
 | [(.pagg a c),(.pagg b d)],[]=>some fun _ k=>qS N a c b d (Mz k)
 | _,_=>none) fun _ _=>by split;intro R F;dsimp only;rw[tE];kernel_rfl;trivial
def JN (g:LA) (i:Bool) (f:LA) (h:Bool) (r0:LA→LA→Bool→O R):O R :=
 (Ba 1 (g.drop 1) fun m n=>Ba 1 (f.drop 1) fun o p=>Q6 N m n false i o p false h fun j l q r s=>cond (!q) (r0 [(.bool false),.nsl] [(.bool false),.nsl] false) (SK g fun t=>SK f fun u=>Hc N (!(t==u)) (r.take (j*1)) j false true fun a=>SK g fun v=>Hc N v (s.take (l*1)) l false true fun b=>cond ((beq 0 0)&&((beq (a.length) 2)&&(beq 2 2))) (cond ((beq 0 0)&&((beq (b.length) 2)&&(beq 2 2))) (SK b fun w=>cond w (cond (ble 2 (b.length)) (cond (ble 2 (f.length)) (qR N (f.take 2) h fun x=>TY N (b.take 2) false x false fun c=>cond ((beq (c.length) 2)&&((ble 2 (b.length))&&(!false))) (SK f fun y=>cond y (cond (ble 2 (a.length)) (Hd N 1 fun z=>TY N (a.take 2) false z false fun d=>cond ((beq (d.length) 2)&&((ble 2 (a.length))&&(!false))) (cond (ble 2 ((setCells a 0 d).length)) (cond (ble 2 ((setCells b 0 c).length)) (cond ((beq (((setCells a 0 d).take 2).length) 2)&&((ble 2 ((setCells a 0 d).length))&&(!false))) (cond ((beq (((setCells b 0 c).take 2).length) 2)&&((ble 2 ((setCells b 0 c).length))&&(!false))) (cond (ble 2 ((setCells (setCells a 0 d) 0 ((setCells a 0 d).take 2)).length)) (cond (ble 2 ((setCells (setCells b 0 c) 0 ((setCells b 0 c).take 2)).length)) (r0 ((setCells (setCells a 0 d) 0 ((setCells a 0 d).take 2)).take 2) ((setCells (setCells b 0 c) 0 ((setCells b 0 c).take 2)).take 2) true) none) none) none) none) none) none) none) none) (cond (ble 2 (a.length)) (Hd N 1 fun aa=>qS N (a.take 2) false aa false fun e=>cond ((beq (e.length) 2)&&((ble 2 (a.length))&&(!false))) (cond (ble 2 ((setCells a 0 e).length)) (cond (ble 2 ((setCells b 0 c).length)) (cond ((beq (((setCells a 0 e).take 2).length) 2)&&((ble 2 ((setCells a 0 e).length))&&(!false))) (cond ((beq (((setCells b 0 c).take 2).length) 2)&&((ble 2 ((setCells b 0 c).length))&&(!false))) (cond (ble 2 ((setCells (setCells a 0 e) 0 ((setCells a 0 e).take 2)).length)) (cond (ble 2 ((setCells (setCells b 0 c) 0 ((setCells b 0 c).take 2)).length)) (r0 ((setCells (setCells a 0 e) 0 ((setCells a 0 e).take 2)).take 2) ((setCells (setCells b 0 c) 0 ((setCells b 0 c).take 2)).take 2) true) none) none) none) none) none) none) none) none)) none) none) none) (cond (ble 2 (a.length)) (cond (ble 2 (b.length)) (cond ((beq ((a.take 2).length) 2)&&((ble 2 (a.length))&&(!false))) (cond ((beq ((b.take 2).length) 2)&&((ble 2 (b.length))&&(!false))) (cond (ble 2 ((setCells a 0 (a.take 2)).length)) (cond (ble 2 ((setCells b 0 (b.take 2)).length)) (r0 ((setCells a 0 (a.take 2)).take 2) ((setCells b 0 (b.take 2)).take 2) true) none) none) none) none) none) none)) none) none))
def Wz:=(Ag (@JN R)).1
theorem JO:@Wz R=@JN R:=(Ag _).2
def mL (F:KF R):LA→LA→Bool→O R:=(fun ab ac ad=>F (.tup [(.pagg ab false),(.pagg ac false),(.bool ad)]) [])
def qT:=Cw N 132 [TV N,N8 N,yz N,oM N,Zz N,zA N] { H:=hL,modes:=[(3,0),(3,0),(0,0)] } (fun
 | [(.pagg g i),(.pagg f h)],[]=>some fun _ k=>Wz N g i f h (mL k)
 | _,_=>none) fun _ _=>by split;intro R F;dsimp only;rw[JO];kernel_rfl;trivial
def Yb (r0:LA→O R) (d:Bool) (b:LA) (c:Bool) (a:LA):O R :=
 (cond (ble 2 (b.length)) (cond (ble 2 (a.length)) (gH N (b.take 2) d (a.take 2) c fun h=>cond ((beq 0 0)&&((beq (h.length) 2)&&(beq 2 2))) (cond (ble 2 (b.length)) (cond (ble 2 (h.length)) (Wz N (b.take 2) d (h.take 2) false fun e t ab=>cond ((beq 0 0)&&((beq (e.length) 2)&&(beq 2 2))) (cond ((beq 0 0)&&((beq (t.length) 2)&&(beq 2 2))) (cond (ble 2 (a.length)) (cond (ble 2 (h.length)) (Wz N (a.take 2) c (h.take 2) false fun f u ac=>cond ((beq 0 0)&&((beq (f.length) 2)&&(beq 2 2))) (cond ((beq 0 0)&&((beq (u.length) 2)&&(beq 2 2))) (SK f fun v=>cond v (cond (ble 2 (e.length)) (TZ N (e.take 2) false fun g=>cond (ble 2 (f.length)) (TZ N (f.take 2) false fun s=>cond ((beq (g.length) 2)&&((ble 2 (e.length))&&(!false))) (cond ((beq (s.length) 2)&&((ble 2 (f.length))&&(!false))) (cond (ble 2 ((setCells e 0 g).length)) (Ba 1 ((setCells f 0 s).drop 1) fun l m=>cond ((beq (((setCells e 0 g).take 2).length) 2)&&(ble 2 3)) (cond ((beq 1 1)&&(ble 3 ((setCells [(.bool false),.nsl,.nsl] 0 ((setCells e 0 g).take 2)).length))) (cond ((beq 0 0)&&((beq (((setCells [(.bool false),.nsl,.nsl] 0 ((setCells e 0 g).take 2)).set 2 (.imm l m 1 false false)).length) 3)&&(beq 3 3))) (cond (ble 3 (((setCells [(.bool false),.nsl,.nsl] 0 ((setCells e 0 g).take 2)).set 2 (.imm l m 1 false false)).length)) (r0 (((setCells [(.bool false),.nsl,.nsl] 0 ((setCells e 0 g).take 2)).set 2 (.imm l m 1 false false)).take 3)) none) none) none) none) none) none) none) none) none) (cond (ble 2 (e.length)) (Ba 1 (f.drop 1) fun n o=>cond ((beq ((e.take 2).length) 2)&&(ble 2 3)) (cond ((beq 1 1)&&(ble 3 ((setCells [(.bool false),.nsl,.nsl] 0 (e.take 2)).length))) (cond ((beq 0 0)&&((beq (((setCells [(.bool false),.nsl,.nsl] 0 (e.take 2)).set 2 (.imm n o 1 false false)).length) 3)&&(beq 3 3))) (cond (ble 3 (((setCells [(.bool false),.nsl,.nsl] 0 (e.take 2)).set 2 (.imm n o 1 false false)).length)) (r0 (((setCells [(.bool false),.nsl,.nsl] 0 (e.take 2)).set 2 (.imm n o 1 false false)).take 3)) none) none) none) none) none)) none) none) none) none) none) none) none) none) none) none) none)
def MX (r0:LA→O R) (q0:O R) (b:LA) (d:Bool) (a:LA) (c:Bool):O R :=
 (cond (ble 2 (a.length)) (BG N (a.take 2) c fun w=>cond (w==0) (TN N fun p=>cond ((beq 0 0)&&((beq (p.length) 3)&&(beq 3 3))) (cond (ble 3 (p.length)) (r0 (p.take 3)) none) none) (cond (ble 2 (a.length)) (BF N (a.take 2) c fun j=>cond ((beq 0 0)&&((beq (j.length) 2)&&(beq 2 2))) (SK j fun x=>cond ((!x)==true) (Ba 1 (j.drop 1) fun y z=>BH N y z false false [(.int .u32 1)] 1 false true fun aa=>cond (cond true aa false) (cond (ble 2 (b.length)) (BF N (b.take 2) d fun i=>Ba 1 (j.drop 1) fun q r=>cond ((beq (i.length) 2)&&(ble 2 3)) (cond ((beq 1 1)&&(ble 3 ((setCells [(.bool false),.nsl,.nsl] 0 i).length))) (cond ((beq 0 0)&&((beq (((setCells [(.bool false),.nsl,.nsl] 0 i).set 2 (.imm q r 1 false false)).length) 3)&&(beq 3 3))) (cond (ble 3 (((setCells [(.bool false),.nsl,.nsl] 0 i).set 2 (.imm q r 1 false false)).length)) (r0 (((setCells [(.bool false),.nsl,.nsl] 0 i).set 2 (.imm q r 1 false false)).take 3)) none) none) none) none) none) q0) q0) none) none)) none)
def Tc:=(Ag fun N b d a c r0=>MX (R:=R) N r0 (Yb N r0 d b c a) b d a c).1
theorem T_ (b d a c r0):(@Tc R N b d a c r0)=(MX N r0 (Yb N r0 d b c a) b d a c):=by rw[Tc,(Ag _).2]
def cV:Hints:={ H:=(hK 2 (hJ [2,3,4] hL hL)),modes:=[(3,0)] }
def ii:Oi:=[iS N,vZ N,iR N,sr N,yy N,qT N,oN N]
def tF (F:KF R):=Ip Tryz.f87 cV (ii N) [] N F
def tG (d:Bool) (b:LA) (c:Bool) (a:LA) (K:St→O R):=K ⟨[(2,(op 0)),(3,(op 1)),(4,(op 2))],(hq [(bP d 0 b),(bP c 0 a),(bN 0 [(.bool false),.nsl,.nsl])])⟩
theorem ij (F:KF R) (d b c a):tG d b c a (Bh (tF N F (pz 85) []))=(Yb N (Mz F) d b c a):=by kernel_rfl
def RE:=Cw N 87 (ii N) cV (fun
 | [(.pagg b d),(.pagg a c)],[]=>some fun _ k=>Tc N b d a c (Mz k)
 | _,_=>none) fun _ _=>by split;intro R F;exact(Bp (MX N (Mz F) · _ _ _ _) ((jW ..).trans (ij ..)):_).trans (T_ ..).symm;trivial
def ZP (a:LA) (b:Bool) (r0:LA→O R):O R :=
 (cond (ble 2 (a.length)) (Ba 1 (a.drop 2) fun d e=>Tc N (a.take 2) b [(.bool false),(.imm d e 1 false b)] (b||false) fun c=>cond ((beq 0 0)&&((beq (c.length) 3)&&(beq 3 3))) (cond (ble 3 (c.length)) (r0 (c.take 3)) none) none) none)
def T':=(Ag (@ZP R)).1
theorem UA:@T' R=@ZP R:=(Ag _).2
def vf:=Cw N 182 [RE N] BB (fun
 | [(.pagg a b)],[]=>some fun _ k=>T' N a b (Mz k)
 | _,_=>none) fun _ _=>by split;intro R F;dsimp only;rw[UA];kernel_rfl;trivial
def ZQ (a:LA) (b:Bool) (r0:Int→O R):O R :=
 (cond (ble 3 (a.length)) (T' N (a.take 3) b fun c=>cond (ble 2 (c.length)) (BG N (c.take 2) false fun d=>r0 d) none) none)
def JP:=(Ag (@ZQ R)).1
theorem UB:@JP R=@ZQ R:=(Ag _).2
def vg:=Cw N 156 [vf N,iS N] Fq (fun
 | [(.pagg a b)],[]=>some fun _ k=>JP N a b (Dr k)
 | _,_=>none) fun _ _=>by split;intro R F;dsimp only;rw[UB];kernel_rfl;trivial
def qU (a b:Int) (r0:LA→O R):O R :=
 (Hd N a fun d=>Hd N b fun e=>Tc N d false e false fun c=>cond ((beq 0 0)&&((beq (c.length) 3)&&(beq 3 3))) (cond (ble 3 (c.length)) (r0 (c.take 3)) none) none)
def ik:=(Ag (@qU R)).1
theorem io:@ik R=@qU R:=(Ag _).2
def Aax:=Cw N 47 [Zz N,RE N] BB (fun
 | [(.int .i64 a),(.int .i64 b)],[]=>some fun _ k=>ik N a b (Mz k)
 | _,_=>none) fun _ _=>by split;intro R F;dsimp only;rw[io];kernel_rfl;trivial
def EI (a:Int) (r0:LA→O R):O R :=
 (Hd N a fun c=>Hd N 1 fun d=>Tc N c false d false fun b=>cond ((beq 0 0)&&((beq (b.length) 3)&&(beq 3 3))) (cond (ble 3 (b.length)) (r0 (b.take 3)) none) none)
def Yc:=(Ag (@EI R)).1
theorem GY:@Yc R=@EI R:=(Ag _).2
def mM:=Cw N 50 [Zz N,RE N] BB (fun
 | [(.int .i64 a)],[]=>some fun _ k=>Yc N a (Mz k)
 | _,_=>none) fun _ _=>by split;intro R F;dsimp only;rw[GY];kernel_rfl;trivial
end
end Gx
namespace Go.Proofs
open Go.Shelf Go.RowKit
open Go.RowKit
def Tryz.laysM171_ren : Go.Shelf.Ren := ⟨fun | 171 => 116 | 243 => 160 | 246 => 184 | 283 => 204 | 284 => 205 | 285 => 206 | 286 => 207 | 129 => 223 | 317 => 222 | 318 => 224 | 319 => 225 | 320 => 226 | 337 => 244 | 338 => 245 | n => n, fun | 3 => 3 | 9 => 9 | 2 => 2 | 4 => 4 | 171 => 272 | 0 => 0 | 53 => 138 | 37 => 109 | 5 => 5 | 173 => 275 | 212 => 293 | 51 => 222 | 20 => 20 | 213 => 294 | 46 => 241 | 232 => 312 | 233 => 313 | n => n, fun | 17 => 3 | 18 => 4 | 19 => 5 | n => n⟩
theorem Tryz.laysM171 : Go.Proofs.LaysM.n171 Tryz.prog Tryz.laysM171_ren := {
  mixed := by kernel_rfl
  f129 := Tryz.func223.trans (congrArg some (by kernel_rfl))
  f171 := Tryz.func116.trans (congrArg some (by kernel_rfl))
  f243 := Tryz.func160.trans (congrArg some (by kernel_rfl))
  f246 := Tryz.func184.trans (congrArg some (by kernel_rfl))
  f283 := Tryz.func204.trans (congrArg some (by kernel_rfl))
  f284 := Tryz.func205.trans (congrArg some (by kernel_rfl))
  f285 := Tryz.func206.trans (congrArg some (by kernel_rfl))
  f286 := Tryz.func207.trans (congrArg some (by kernel_rfl))
  f317 := Tryz.func222.trans (congrArg some (by kernel_rfl))
  f318 := Tryz.func224.trans (congrArg some (by kernel_rfl))
  f319 := Tryz.func225.trans (congrArg some (by kernel_rfl))
  f320 := Tryz.func226.trans (congrArg some (by kernel_rfl))
  f337 := Tryz.func244.trans (congrArg some (by kernel_rfl))
  f338 := Tryz.func245.trans (congrArg some (by kernel_rfl))
  t0 := Tryz.underlying0
  a0 := Tryz.isAgg0
  z0 := Tryz.sizeOf0
  v0 := Tryz.zeroValue0
  t2 := Tryz.underlying2
  a2 := Tryz.isAgg2
  z2 := Tryz.sizeOf2
  v2 := Tryz.zeroValue2
  t3 := Tryz.underlying3
  a3 := Tryz.isAgg3
  z3 := Tryz.sizeOf3
  v3 := Tryz.zeroValue3
  t4 := Tryz.underlying4
  a4 := Tryz.isAgg4
  z4 := Tryz.sizeOf4
  v4 := Tryz.zeroValue4
  t5 := Tryz.underlying5
  a5 := Tryz.isAgg5
  z5 := Tryz.sizeOf5
  v5 := Tryz.zeroValue5
  t9 := Tryz.underlying9
  a9 := Tryz.isAgg9
  z9 := Tryz.sizeOf9
  v9 := Tryz.zeroValue9
  t20 := Tryz.underlying20
  a20 := Tryz.isAgg20
  z20 := Tryz.sizeOf20
  v20 := Tryz.zeroValue20
  t37 := Tryz.underlying109
  a37 := Tryz.isAgg109
  z37 := Tryz.sizeOf109
  v37 := Tryz.zeroValue109
  t46 := Tryz.underlying241
  a46 := Tryz.isAgg241
  z46 := Tryz.sizeOf241
  v46 := Tryz.zeroValue241
  t51 := Tryz.underlying222
  a51 := Tryz.isAgg222
  z51 := Tryz.sizeOf222
  v51 := Tryz.zeroValue222
  t53 := Tryz.underlying138
  a53 := Tryz.isAgg138
  z53 := Tryz.sizeOf138
  v53 := Tryz.zeroValue138
  t171 := Tryz.underlying272
  a171 := Tryz.isAgg272
  z171 := Tryz.sizeOf272
  v171 := Tryz.zeroValue272
  t173 := Tryz.underlying275
  a173 := Tryz.isAgg275
  z173 := Tryz.sizeOf275
  v173 := Tryz.zeroValue275
  t212 := Tryz.underlying293
  a212 := Tryz.isAgg293
  z212 := Tryz.sizeOf293
  v212 := Tryz.zeroValue293
  t213 := Tryz.underlying294
  a213 := Tryz.isAgg294
  z213 := Tryz.sizeOf294
  t232 := Tryz.underlying312
  a232 := Tryz.isAgg312
  z232 := Tryz.sizeOf312
  v232 := Tryz.zeroValue312
  t233 := Tryz.underlying313
  a233 := Tryz.isAgg313
  z233 := Tryz.sizeOf313
  v233 := Tryz.zeroValue313
  g17 := by kernel_rfl
  g18 := by kernel_rfl
  g19 := by kernel_rfl
  i0 := by kernel_rfl
  i2 := by kernel_rfl
  i3 := by kernel_rfl
  i4 := by kernel_rfl
  i5 := by kernel_rfl
  i9 := by kernel_rfl
  i20 := by kernel_rfl
  i37 := by kernel_rfl
  i46 := by kernel_rfl
  i51 := by kernel_rfl
  i53 := by kernel_rfl
  i171 := by kernel_rfl
  i173 := by kernel_rfl
  i212 := by kernel_rfl
  i232 := by kernel_rfl
  i233 := by kernel_rfl
  m17 := by kernel_rfl
  m18 := by kernel_rfl
  m19 := by kernel_rfl }
def Tryz.laysC172_ren : Go.Shelf.Ren := ⟨fun | 172 => 239 | 244 => 258 | 245 => 259 | 247 => 272 | 279 => 273 | 280 => 274 | 281 => 275 | 282 => 276 | 287 => 279 | 316 => 280 | 171 => 116 | 205 => 281 | 321 => 282 | 322 => 283 | 243 => 160 | 246 => 184 | 283 => 204 | 284 => 205 | 285 => 206 | 286 => 207 | 129 => 223 | 317 => 222 | 318 => 224 | 319 => 225 | 320 => 226 | 337 => 244 | 338 => 245 | n => n, fun | 9 => 9 | 3 => 3 | 75 => 210 | 76 => 211 | 4 => 4 | 5 => 5 | 167 => 321 | 37 => 109 | 0 => 0 | 85 => 322 | 2 => 2 | 168 => 324 | 53 => 138 | 175 => 329 | 46 => 241 | 210 => 333 | 127 => 167 | 145 => 338 | 143 => 336 | 21 => 21 | 171 => 272 | 173 => 275 | 212 => 293 | 51 => 222 | 20 => 20 | 213 => 294 | 232 => 312 | 233 => 313 | 80 => 119 | n => n, fun | 15 => 6 | 16 => 7 | 17 => 3 | 18 => 4 | 19 => 5 | n => n⟩
theorem Tryz.laysC172 : Go.Proofs.LaysC.n172 Tryz.prog Tryz.laysC172_ren := {
  mixed := by kernel_rfl
  f129 := Tryz.func223.trans (congrArg some (by kernel_rfl))
  f171 := Tryz.func116.trans (congrArg some (by kernel_rfl))
  f172 := Tryz.func239.trans (congrArg some (by kernel_rfl))
  f205 := Tryz.func281.trans (congrArg some (by kernel_rfl))
  f243 := Tryz.func160.trans (congrArg some (by kernel_rfl))
  f244 := Tryz.func258.trans (congrArg some (by kernel_rfl))
  f245 := Tryz.func259.trans (congrArg some (by kernel_rfl))
  f246 := Tryz.func184.trans (congrArg some (by kernel_rfl))
  f247 := Tryz.func272.trans (congrArg some (by kernel_rfl))
  f279 := Tryz.func273.trans (congrArg some (by kernel_rfl))
  f280 := Tryz.func274.trans (congrArg some (by kernel_rfl))
  f281 := Tryz.func275.trans (congrArg some (by kernel_rfl))
  f282 := Tryz.func276.trans (congrArg some (by kernel_rfl))
  f283 := Tryz.func204.trans (congrArg some (by kernel_rfl))
  f284 := Tryz.func205.trans (congrArg some (by kernel_rfl))
  f285 := Tryz.func206.trans (congrArg some (by kernel_rfl))
  f286 := Tryz.func207.trans (congrArg some (by kernel_rfl))
  f287 := Tryz.func279.trans (congrArg some (by kernel_rfl))
  f316 := Tryz.func280.trans (congrArg some (by kernel_rfl))
  f317 := Tryz.func222.trans (congrArg some (by kernel_rfl))
  f318 := Tryz.func224.trans (congrArg some (by kernel_rfl))
  f319 := Tryz.func225.trans (congrArg some (by kernel_rfl))
  f320 := Tryz.func226.trans (congrArg some (by kernel_rfl))
  f321 := Tryz.func282.trans (congrArg some (by kernel_rfl))
  f322 := Tryz.func283.trans (congrArg some (by kernel_rfl))
  f337 := Tryz.func244.trans (congrArg some (by kernel_rfl))
  f338 := Tryz.func245.trans (congrArg some (by kernel_rfl))
  t0 := Tryz.underlying0
  a0 := Tryz.isAgg0
  z0 := Tryz.sizeOf0
  v0 := Tryz.zeroValue0
  t2 := Tryz.underlying2
  a2 := Tryz.isAgg2
  z2 := Tryz.sizeOf2
  v2 := Tryz.zeroValue2
  t3 := Tryz.underlying3
  a3 := Tryz.isAgg3
  z3 := Tryz.sizeOf3
  v3 := Tryz.zeroValue3
  t4 := Tryz.underlying4
  a4 := Tryz.isAgg4
  z4 := Tryz.sizeOf4
  v4 := Tryz.zeroValue4
  t5 := Tryz.underlying5
  a5 := Tryz.isAgg5
  z5 := Tryz.sizeOf5
  v5 := Tryz.zeroValue5
  t9 := Tryz.underlying9
  a9 := Tryz.isAgg9
  z9 := Tryz.sizeOf9
  v9 := Tryz.zeroValue9
  t20 := Tryz.underlying20
  a20 := Tryz.isAgg20
  z20 := Tryz.sizeOf20
  v20 := Tryz.zeroValue20
  t21 := Tryz.underlying21
  a21 := Tryz.isAgg21
  z21 := Tryz.sizeOf21
  v21 := Tryz.zeroValue21
  t37 := Tryz.underlying109
  a37 := Tryz.isAgg109
  z37 := Tryz.sizeOf109
  v37 := Tryz.zeroValue109
  t46 := Tryz.underlying241
  a46 := Tryz.isAgg241
  z46 := Tryz.sizeOf241
  v46 := Tryz.zeroValue241
  t51 := Tryz.underlying222
  a51 := Tryz.isAgg222
  z51 := Tryz.sizeOf222
  v51 := Tryz.zeroValue222
  t53 := Tryz.underlying138
  a53 := Tryz.isAgg138
  z53 := Tryz.sizeOf138
  v53 := Tryz.zeroValue138
  t75 := Tryz.underlying210
  a75 := Tryz.isAgg210
  z75 := Tryz.sizeOf210
  v75 := Tryz.zeroValue210
  t76 := Tryz.underlying211
  a76 := Tryz.isAgg211
  z76 := Tryz.sizeOf211
  v76 := Tryz.zeroValue211
  t85 := Tryz.underlying322
  a85 := Tryz.isAgg322
  z85 := Tryz.sizeOf322
  v85 := Tryz.zeroValue322
  t127 := Tryz.underlying167
  a127 := Tryz.isAgg167
  z127 := Tryz.sizeOf167
  v127 := Tryz.zeroValue167
  t143 := Tryz.underlying336
  a143 := Tryz.isAgg336
  z143 := Tryz.sizeOf336
  v143 := Tryz.zeroValue336
  t145 := Tryz.underlying338
  a145 := Tryz.isAgg338
  z145 := Tryz.sizeOf338
  v145 := Tryz.zeroValue338
  t167 := Tryz.underlying321
  a167 := Tryz.isAgg321
  z167 := Tryz.sizeOf321
  v167 := Tryz.zeroValue321
  t168 := Tryz.underlying324
  a168 := Tryz.isAgg324
  z168 := Tryz.sizeOf324
  v168 := Tryz.zeroValue324
  t171 := Tryz.underlying272
  a171 := Tryz.isAgg272
  z171 := Tryz.sizeOf272
  v171 := Tryz.zeroValue272
  t173 := Tryz.underlying275
  a173 := Tryz.isAgg275
  z173 := Tryz.sizeOf275
  v173 := Tryz.zeroValue275
  t175 := Tryz.underlying329
  a175 := Tryz.isAgg329
  z175 := Tryz.sizeOf329
  v175 := Tryz.zeroValue329
  t210 := Tryz.underlying333
  a210 := Tryz.isAgg333
  z210 := Tryz.sizeOf333
  v210 := Tryz.zeroValue333
  t212 := Tryz.underlying293
  a212 := Tryz.isAgg293
  z212 := Tryz.sizeOf293
  v212 := Tryz.zeroValue293
  t213 := Tryz.underlying294
  a213 := Tryz.isAgg294
  z213 := Tryz.sizeOf294
  t232 := Tryz.underlying312
  a232 := Tryz.isAgg312
  z232 := Tryz.sizeOf312
  v232 := Tryz.zeroValue312
  t233 := Tryz.underlying313
  a233 := Tryz.isAgg313
  z233 := Tryz.sizeOf313
  v233 := Tryz.zeroValue313
  g15 := by kernel_rfl
  g16 := by kernel_rfl
  g17 := by kernel_rfl
  g18 := by kernel_rfl
  g19 := by kernel_rfl
  t80 := Tryz.underlying119
  a80 := Tryz.isAgg119
  z80 := Tryz.sizeOf119
  v80 := Tryz.zeroValue119
  i0 := by kernel_rfl
  i2 := by kernel_rfl
  i3 := by kernel_rfl
  i4 := by kernel_rfl
  i5 := by kernel_rfl
  i9 := by kernel_rfl
  i20 := by kernel_rfl
  i21 := by kernel_rfl
  i37 := by kernel_rfl
  i46 := by kernel_rfl
  i51 := by kernel_rfl
  i53 := by kernel_rfl
  i75 := by kernel_rfl
  i76 := by kernel_rfl
  i80 := by kernel_rfl
  i85 := by kernel_rfl
  i127 := by kernel_rfl
  i143 := by kernel_rfl
  i145 := by kernel_rfl
  i167 := by kernel_rfl
  i168 := by kernel_rfl
  i171 := by kernel_rfl
  i173 := by kernel_rfl
  i175 := by kernel_rfl
  i210 := by kernel_rfl
  i212 := by kernel_rfl
  i232 := by kernel_rfl
  i233 := by kernel_rfl
  m15 := by kernel_rfl
  m16 := by kernel_rfl
  m17 := by kernel_rfl
  m18 := by kernel_rfl
  m19 := by kernel_rfl
  c0 := by kernel_rfl
  c2 := by kernel_rfl
  c3 := by kernel_rfl
  c4 := by kernel_rfl
  c5 := by kernel_rfl
  c9 := by kernel_rfl
  c20 := by kernel_rfl
  c21 := by kernel_rfl
  c37 := by kernel_rfl
  c46 := by kernel_rfl
  c51 := by kernel_rfl
  c53 := by kernel_rfl
  c75 := by kernel_rfl
  c76 := by kernel_rfl
  c80 := by kernel_rfl
  c85 := by kernel_rfl
  c127 := by kernel_rfl
  c143 := by kernel_rfl
  c145 := by kernel_rfl
  c167 := by kernel_rfl
  c168 := by kernel_rfl
  c171 := by kernel_rfl
  c173 := by kernel_rfl
  c175 := by kernel_rfl
  c210 := by kernel_rfl
  c212 := by kernel_rfl
  c213 := by kernel_rfl
  c232 := by kernel_rfl
  c233 := by kernel_rfl }
def Tryz.lays145_ren : Go.Shelf.Ren := ⟨fun | 145 => 41 | 220 => 79 | 219 => 120 | 217 => 164 | 225 => 165 | 224 => 166 | 267 => 167 | 266 => 191 | 314 => 192 | n => n, fun | 9 => 9 | 4 => 4 | 59 => 123 | 3 => 3 | 5 => 5 | 46 => 241 | 146 => 262 | 51 => 222 | n => n, fun | 1 => 0 | n => n⟩
theorem Tryz.lays145 : Go.Proofs.Lays.n145 Tryz.prog Tryz.lays145_ren := {
  mixed := by kernel_rfl
  f145 := Tryz.func41.trans (congrArg some (by kernel_rfl))
  f217 := Tryz.func164.trans (congrArg some (by kernel_rfl))
  f219 := Tryz.func120.trans (congrArg some (by kernel_rfl))
  f220 := Tryz.func79.trans (congrArg some (by kernel_rfl))
  f224 := Tryz.func166.trans (congrArg some (by kernel_rfl))
  f225 := Tryz.func165.trans (congrArg some (by kernel_rfl))
  f266 := Tryz.func191.trans (congrArg some (by kernel_rfl))
  f267 := Tryz.func167.trans (congrArg some (by kernel_rfl))
  f314 := Tryz.func192.trans (congrArg some (by kernel_rfl))
  t3 := Tryz.underlying3
  a3 := Tryz.isAgg3
  z3 := Tryz.sizeOf3
  v3 := Tryz.zeroValue3
  t4 := Tryz.underlying4
  a4 := Tryz.isAgg4
  z4 := Tryz.sizeOf4
  v4 := Tryz.zeroValue4
  t5 := Tryz.underlying5
  a5 := Tryz.isAgg5
  z5 := Tryz.sizeOf5
  v5 := Tryz.zeroValue5
  t9 := Tryz.underlying9
  a9 := Tryz.isAgg9
  z9 := Tryz.sizeOf9
  v9 := Tryz.zeroValue9
  t46 := Tryz.underlying241
  a46 := Tryz.isAgg241
  z46 := Tryz.sizeOf241
  v46 := Tryz.zeroValue241
  t51 := Tryz.underlying222
  a51 := Tryz.isAgg222
  z51 := Tryz.sizeOf222
  v51 := Tryz.zeroValue222
  t59 := Tryz.underlying123
  a59 := Tryz.isAgg123
  z59 := Tryz.sizeOf123
  v59 := Tryz.zeroValue123
  t146 := Tryz.underlying262
  a146 := Tryz.isAgg262
  z146 := Tryz.sizeOf262
  v146 := Tryz.zeroValue262
  g1 := by kernel_rfl }
def Tryz.lays146_ren : Go.Shelf.Ren := ⟨fun | 146 => 43 | 221 => 84 | 268 => 123 | 138 => 124 | 143 => 125 | 195 => 170 | 197 => 171 | 218 => 172 | 219 => 120 | 260 => 194 | 217 => 164 | 225 => 165 | 224 => 166 | 267 => 167 | 266 => 191 | 314 => 192 | n => n, fun | 9 => 9 | 31 => 126 | 3 => 3 | 4 => 4 | 0 => 0 | 105 => 247 | 21 => 21 | 5 => 5 | 46 => 241 | 119 => 287 | 139 => 290 | 138 => 289 | 146 => 262 | 51 => 222 | n => n, fun | 1 => 0 | 3 => 1 | 4 => 2 | n => n⟩
theorem Tryz.lays146 : Go.Proofs.Lays.n146 Tryz.prog Tryz.lays146_ren := {
  mixed := by kernel_rfl
  f138 := Tryz.func124.trans (congrArg some (by kernel_rfl))
  f143 := Tryz.func125.trans (congrArg some (by kernel_rfl))
  f146 := Tryz.func43.trans (congrArg some (by kernel_rfl))
  f195 := Tryz.func170.trans (congrArg some (by kernel_rfl))
  f197 := Tryz.func171.trans (congrArg some (by kernel_rfl))
  f217 := Tryz.func164.trans (congrArg some (by kernel_rfl))
  f218 := Tryz.func172.trans (congrArg some (by kernel_rfl))
  f219 := Tryz.func120.trans (congrArg some (by kernel_rfl))
  f221 := Tryz.func84.trans (congrArg some (by kernel_rfl))
  f224 := Tryz.func166.trans (congrArg some (by kernel_rfl))
  f225 := Tryz.func165.trans (congrArg some (by kernel_rfl))
  f260 := Tryz.func194.trans (congrArg some (by kernel_rfl))
  f266 := Tryz.func191.trans (congrArg some (by kernel_rfl))
  f267 := Tryz.func167.trans (congrArg some (by kernel_rfl))
  f268 := Tryz.func123.trans (congrArg some (by kernel_rfl))
  f314 := Tryz.func192.trans (congrArg some (by kernel_rfl))
  t0 := Tryz.underlying0
  a0 := Tryz.isAgg0
  z0 := Tryz.sizeOf0
  v0 := Tryz.zeroValue0
  t3 := Tryz.underlying3
  a3 := Tryz.isAgg3
  z3 := Tryz.sizeOf3
  v3 := Tryz.zeroValue3
  t4 := Tryz.underlying4
  a4 := Tryz.isAgg4
  z4 := Tryz.sizeOf4
  v4 := Tryz.zeroValue4
  t5 := Tryz.underlying5
  a5 := Tryz.isAgg5
  z5 := Tryz.sizeOf5
  v5 := Tryz.zeroValue5
  t9 := Tryz.underlying9
  a9 := Tryz.isAgg9
  z9 := Tryz.sizeOf9
  v9 := Tryz.zeroValue9
  t21 := Tryz.underlying21
  a21 := Tryz.isAgg21
  z21 := Tryz.sizeOf21
  v21 := Tryz.zeroValue21
  t31 := Tryz.underlying126
  a31 := Tryz.isAgg126
  z31 := Tryz.sizeOf126
  v31 := Tryz.zeroValue126
  t46 := Tryz.underlying241
  a46 := Tryz.isAgg241
  z46 := Tryz.sizeOf241
  v46 := Tryz.zeroValue241
  t51 := Tryz.underlying222
  a51 := Tryz.isAgg222
  z51 := Tryz.sizeOf222
  v51 := Tryz.zeroValue222
  t105 := Tryz.underlying247
  a105 := Tryz.isAgg247
  z105 := Tryz.sizeOf247
  v105 := Tryz.zeroValue247
  t119 := Tryz.underlying287
  a119 := Tryz.isAgg287
  z119 := Tryz.sizeOf287
  t138 := Tryz.underlying289
  a138 := Tryz.isAgg289
  z138 := Tryz.sizeOf289
  v138 := Tryz.zeroValue289
  t139 := Tryz.underlying290
  a139 := Tryz.isAgg290
  z139 := Tryz.sizeOf290
  v139 := Tryz.zeroValue290
  t146 := Tryz.underlying262
  a146 := Tryz.isAgg262
  z146 := Tryz.sizeOf262
  v146 := Tryz.zeroValue262
  g1 := by kernel_rfl
  g3 := by kernel_rfl
  g4 := by kernel_rfl }
end Go.Proofs
namespace Gx
open Go Go.Proofs Go.RowKit
noncomputable section
variable {R:Type} (N:Nat)
def Pg (_N:Nat) (s t:Lu) (r0:Lu→Lu→Bool→O R):O R:=cond (ble s.length 4294967280) (r0 (Lib.cut s t).1 (Lib.cut s t).2.1 (Lib.cut s t).2.2) none
def strings_Cut:=(Ag (@Pg R)).1
theorem Nu:@strings_Cut R=@Pg R:=(Ag _).2
def G5 (a:LA) (h:Ap) (k:KF R):O R :=
 match a,h with
 | [.str s,.str t],[]=>strings_Cut N s t fun x y b=>k (.tup [.str x,.str y,.bool b]) []
 | _,_=>none
def ip:Tw:=⟨fun {R} a h k=>@G5 R N a h k,fun {R} a h k=>by
 unfold G5
 split
 ·rw[Nu,Nu];unfold Pg;cases ble _ 4294967280<;>rfl
 ·rfl⟩
def Nb (_N:Nat) (n:Int) (r0:Lu→O R):O R:=cond (decide (-9223372036854775808≤n)&&decide (n≤9223372036854775807)) (r0 (Lib.itoa n)) none
def strconv_Itoa:=(Ag (@Nb R)).1
theorem Mg:@strconv_Itoa R=@Nb R:=(Ag _).2
def F3 (a:LA) (h:Ap) (k:KF R):O R :=
 match a,h with
 | [.int .i64 n],[]=>strconv_Itoa N n fun x=>k (.str x) []
 | _,_=>none
def ey:Tw:=⟨fun {R} a h k=>@F3 R N a h k,fun {R} a h k=>by
 unfold F3
 split
 ·rename_i n
  rw[Mg,Mg];unfold Nb;cases (decide (-9223372036854775808≤n)&&decide (n≤9223372036854775807))<;>rfl
 ·rfl⟩
def Nc (_N:Nat) (s:Lu) (r0:Int→O R):O R:=cond (ble s.length 9223372036854775806) (match Lib.atoiAll s with | .ok v=>r0 v | _=>none) none
def UC:=(Ag (@Nc R)).1
theorem Mh:@UC R=@Nc R:=(Ag _).2
def F4 (a:LA) (h:Ap) (k:KF R):O R :=
 match a,h with
 | [.str s],[]=>UC N s fun x=>k (.tup [.int .i64 x,.undef]) []
 | _,_=>none
def ez:Tw:=⟨fun {R} a h k=>@F4 R N a h k,fun {R} a h k=>by
 unfold F4
 split
 ·rw[Mh,Mh];unfold Nc;cases ble _ 9223372036854775806
  ·rfl
  ·cases Lib.atoiAll _<;>rfl
 ·rfl⟩
end
theorem tH (w:World) (n:Nat):Below w.heap.size w (w.drewN n):=⟨rfl,rfl,rfl,Akw _,fun _ _=>rfl⟩
theorem iq (N:Nat):iE Tryz.prog 41 (ip N):=by
 intro args h b h' j
 have hh:G5 N args h (fun v h'=>some (v,h'))=some (b,h'):=j
 unfold G5 at hh
 split at hh
 ·rename_i s t
  rw[Nu,Pg] at hh
  obtain⟨y,k⟩:=uc hh
  simp at y k
  obtain⟨rfl,rfl⟩:=k
  refine ZE fun J β w vs G hr=>?_
  obtain⟨u,v,rfl,e1,q⟩:=iN hr
  simp only[Rep] at e1 q;subst e1 q
  obtain⟨m,z⟩:=G.int (g:=0) (by decide)
  refine(Any.strings_Cut Tryz.lays145 ⟨⟨s⟩⟩ ⟨⟨t⟩⟩ m w (show s.length<4294967281 by omega) z).mono ?_
  rintro e w' ⟨rfl,n,rfl⟩
  refine⟨_,rfl,tH w n,fun J β w=>?_⟩
  rw[Rep]
  exact⟨_,rfl,by simp[Reps,Rep]⟩
 ·cases hh
theorem fB (N:Nat):iE Tryz.prog 116 (ey N):=by
 intro args h b h' j
 have hh:F3 N args h (fun v h'=>some (v,h'))=some (b,h'):=j
 unfold F3 at hh
 split at hh
 ·rename_i n
  rw[Mg,Nb] at hh
  obtain⟨q,s⟩:=uc hh
  simp only[Ak1,decide_eq_true_eq] at q
  simp at s
  obtain⟨rfl,rfl⟩:=s
  refine ZE fun J β w vs G hr=>?_
  obtain⟨u,rfl,e1⟩:=TG hr
  rw[Rep] at e1;subst e1
  refine(Any.strconv_Itoa Tryz.laysM171 n q.1 q.2 w (G.tab (g:=3) (by simp[xb,Lib.pow10Tab]) (by kernel_rfl))).mono ?_
  rintro e w' ⟨rfl,k,os,rfl⟩
  refine⟨_,rfl,⟨rfl,rfl,rfl,by simp[Go.Sort.grow],fun i hi=>?_⟩,fun J β w=>by rw[Rep]⟩
  show(w.heap++os)[i]?=_
  rw[Anj hi]
 ·cases hh
theorem strconv_Atoi_ok (N:Nat):iE Tryz.prog 239 (ez N):=by
 intro args h j h' k
 have hh:F4 N args h (fun v h'=>some (v,h'))=some (j,h'):=k
 unfold F4 at hh
 split at hh
 ·rename_i s
  rw[Mh,Nc] at hh
  obtain⟨q,b⟩:=uc hh
  simp at q
  split at b
  ·rename_i v y
   simp at b
   obtain⟨rfl,rfl⟩:=b
   refine ZE fun J β w vs G hr=>?_
   obtain⟨u,rfl,e1⟩:=TG hr
   rw[Rep] at e1;subst e1
   refine(Any.strconv_Atoi_ok Tryz.laysC172 ⟨⟨s⟩⟩ q v y w).mono ?_
   rintro e w' ⟨rfl,z⟩
   refine⟨_,rfl,?_,fun J β w=>by rw[Rep];exact⟨_,rfl,by rw[Reps];exact⟨_,_,rfl,by rw[Rep],by rw[Reps];exact⟨_,_,rfl,by rw[Rep];trivial,by rw[Reps]⟩⟩⟩⟩
   rcases z with rfl | ⟨t,rfl⟩
   ·exact Below.refl _ _
   ·exact Lib.bytesWorld_below _ _ _
  ·cases b
 ·cases hh
end Gx
namespace Gx
open Go Go.Proofs Go.RowKit
noncomputable section
variable {R:Type} (N:Nat)
def JQ (s t:Lu):List Lu:=(Lib.splitB ⟨⟨t⟩⟩ 0 (Lib.countB ⟨⟨s⟩⟩ ⟨⟨t⟩⟩) ⟨⟨s⟩⟩).map fun b=>b.data.toList
def qV (l:List Lu):LA:=l.map .str
def K8 (_N:Nat) (s t:Lu) (r0:Nat→LA→O R):O R:=cond (ble s.length 4294967280&&ble 1 t.length) (r0 (JQ s t).length (qV (JQ s t))) none
def strings_Split:=(Ag (@K8 R)).1
theorem Km:@strings_Split R=@K8 R:=(Ag _).2
def Fe (a:LA) (h:Ap) (k:KF R):O R :=
 match a,h with
 | [.str s,.str t],[]=>strings_Split N s t fun n c=>k (.own 300000 0 n) [(300000,bQ 1 c)]
 | _,_=>none
def ZR:Tw:=⟨fun {R} a h k=>@Fe R N a h k,fun {R} a h k=>by
 unfold Fe
 split
 ·rw[Km,Km];unfold K8;cases (ble _ 4294967280&&ble 1 _)<;>rfl
 ·rfl⟩
end
theorem ZS (N:Nat):iE Tryz.prog 43 (ZR N):=by
 intro args h q h' y
 have hh:Fe N args h (fun v h'=>some (v,h'))=some (q,h'):=y
 unfold Fe at hh
 split at hh
 ·rename_i s t
  rw[Km,K8] at hh
  obtain⟨z,A⟩:=uc hh
  simp only[Ak1,Aov] at z
  simp only[Alx,Apc] at A
  obtain⟨rfl,rfl⟩:=A
  have k:=Lib.splitB_all ⟨⟨t⟩⟩ (show 1≤t.length from z.2) 0 _ ⟨⟨s⟩⟩ rfl
  refine Adb (n:=(JQ s t).length) (sz:=1) (c:=qV (JQ s t)) (by simp[qV]) fun J β w vs G hr=>?_
  obtain⟨u,v,rfl,e1,C⟩:=iN hr
  simp only[Rep] at e1 C;subst e1 C
  obtain⟨m,F⟩:=G.int (g:=0) (by decide)
  refine(Any.strings_Split Tryz.lays146 (by kernel_rfl) ⟨⟨s⟩⟩ ⟨⟨t⟩⟩ m w (show s.length<4294967281 by omega) F (show 1≤t.length from z.2)).mono ?_
  rintro e w' ⟨rfl,rfl⟩
  refine⟨_,_,?_,rfl,?_,?_⟩
  ·rw[show(JQ s t).length=Lib.countB ⟨⟨s⟩⟩ ⟨⟨t⟩⟩+1 by unfold JQ;rw[Ana,k]]
  ·simp[JQ]
  ·rw[By]
   intro j x D
   simp only[qV,JQ,Ang,Am3,Aox] at D
   obtain⟨b,I,rfl⟩:=D
   exact⟨.string b,by simp[I],by rw[Function.comp,RepC]⟩
 ·cases hh
end Gx
namespace Gx
open Go
mutual
def Ah6:AV→AV→Bool
 | .int k n,.int k' n'=>Kz k k'&&decide (n=n')
 | .bool b,.bool b'=>b==b'
 | .str s,.str s'=>s==s'
 | .nsl,.nsl=>true
 | .imm c n s t o,.imm c' n' s' t' o'=>beq n n'&&(beq s s'&&(t==t'&&(o==o'&&fD c c')))
 | .iptr c o,.iptr c' o'=>o==o'&&fD c c'
 | .pagg c o,.pagg c' o'=>o==o'&&fD c c'
 | .own b f n,.own b' f' n'=>beq b b'&&(beq f f'&&beq n n')
 | .optr b f,.optr b' f'=>beq b b'&&beq f f'
 | .agg c,.agg c'=>fD c c'
 | .tup c,.tup c'=>fD c c'
 | .fn f c,.fn f' c'=>beq f f'&&fD c c'
 | .nilptr,.nilptr=>true
 | .nilfn,.nilfn=>true
 | .undef,.undef=>true
 | .omap b,.omap b'=>beq b b'
 | _,_=>false
def fD:List AV→List AV→Bool
 | [],[]=>true
 | x::r,y::q=>Ah6 x y&&fD r q
 | _,_=>false
end
mutual
theorem vh:∀ a b,Ah6 a b=true→a=b:=by
 intro a b h
 cases a<;>cases b<;>simp only[Ah6,Ak1,Aod,beq_iff_eq,Kz,decide_eq_true_eq,reduceCtorEq,Amr] at h
 case int.int=>rw[h.1,h.2]
 case bool.bool=>rw[h]
 case str.str=>rw[h]
 case nsl.nsl=>rfl
 case imm.imm=>rw[h.1,h.2.1,h.2.2.1,h.2.2.2.1,U4 _ _ h.2.2.2.2]
 case iptr.iptr=>rw[h.1,U4 _ _ h.2]
 case pagg.pagg=>rw[h.1,U4 _ _ h.2]
 case own.own=>rw[h.1,h.2.1,h.2.2]
 case optr.optr=>rw[h.1,h.2]
 case agg.agg=>rw[U4 _ _ h]
 case tup.tup=>rw[U4 _ _ h]
 case fn.fn=>rw[h.1,U4 _ _ h.2]
 case nilptr.nilptr=>rfl
 case nilfn.nilfn=>rfl
 case undef.undef=>rfl
 case omap.omap=>rw[h]
theorem U4:∀ a b,fD a b=true→a=b:=by
 intro a b h
 cases a<;>cases b<;>simp only[fD,Ak1,Amr] at h
 ·rfl
 ·rw[vh _ _ h.1,U4 _ _ h.2]
end
def Ah7:Option (Nat×Nat)→Option (Nat×Nat)→Bool
 | none,none=>true
 | some (a,b),some (c,d)=>beq a c&&beq b d
 | _,_=>false
def Aie (x y:Blk):Bool:=x.dead==y.dead&&(x.sealed==y.sealed&&(x.pure==y.pure&&(x.taint==y.taint&&(beq x.sz y.sz&&(x.mp==y.mp&&(Ah7 x.ty y.ty&&fD x.cells y.cells))))))
def Aeb:Ap→Ap→Bool
 | [],[]=>true
 | (i,x)::r,(j,y)::q=>beq i j&&(Aie x y&&Aeb r q)
 | _,_=>false
theorem Ae9:∀ a b,Ah7 a b=true→a=b:=by
 intro a b h
 match a,b,h with
 | none,none,_=>rfl
 | some (a,b),some (c,d),h=>simp only[Ah7,Ak1,Aod] at h;rw[h.1,h.2]
 | none,some _,h=>cases h
 | some _,none,h=>simp[Ah7] at h
theorem Afa (x y:Blk) (h:Aie x y=true):x=y:=by
 unfold Aie at h
 simp only[Ak1,Aod,beq_iff_eq] at h
 obtain⟨j,k,q,s,u,v,b,e⟩:=h
 have:=Ae9 _ _ b;have:=U4 _ _ e
 cases x;cases y;simp_all
theorem vj:∀ a b,Aeb a b=true→a=b:=by
 intro a
 induction a with
 | nil=>intro b h;cases b<;>simp[Aeb] at h ⊢
 | cons p r e =>
  intro b h
  cases b with
  | nil=>simp[Aeb] at h
  | cons q s =>
   obtain⟨i,x⟩:=p;obtain⟨j,y⟩:=q
   simp only[Aeb,Ak1,Aod] at h
   rw[h.1,Afa _ _ h.2.1,e _ h.2.2]
structure Pt where
 f:Nat
 args:List AV
 h:Ap
 res:AV
 h':Ap
def Ki (P:Program) (p:Pt):Prop:=ri P p.f p.args p.h p.res p.h'
def tI (P:Program):List Pt→Prop
 | []=>True
 | p::r=>Ki P p∧tI P r
def JR (f:Nat) (a:LA) (h:Ap):List Pt→Option Pt
 | []=>none
 | p::r=>cond (beq p.f f&&(fD p.args a&&Aeb p.h h)) (some p) (JR f a h r)
def Aay {R:Type} (k:AV→Ap→O R) (alt:O R):Option Pt→O R
 | some p=>k p.res p.h'
 | none=>alt
def Afb (l:List Pt) (f:Nat) (t:Tw):Tw:=⟨fun {R} a h k=>Aay k (t.runK a h k) (JR f a h l),fun {R} a h k=>by
 cases JR f a h l with
 | none=>exact t.eq a h k
 | some p=>rfl⟩
theorem oO {P:Program} {f:Nat} {a:LA} {h:Ap}:∀ {l:List Pt},tI P l→∀ {p},JR f a h l=some p→ri P f a h p.res p.h'
 | [],_,p,e=>by simp[JR] at e
 | q::r,H,p,e=>by
  unfold JR at e
  cases b:beq q.f f&&(fD q.args a&&Aeb q.h h) with
  | false=>rw[b] at e;exact oO H.2 e
  | true =>
   rw[b] at e
   simp only[cond_true,Alx] at e
   subst e
   simp only[Ak1,Aod] at b
   have:=U4 _ _ b.2.1;have:=vj _ _ b.2.2
   obtain⟨rfl,_,_⟩:=b
   subst_vars;exact H.1
theorem Adc {P:Program} {l:List Pt} (H:tI P l) {f:Nat} {t:Tw} (j:iE P f t):iE P f (Afb l f t):=by
 intro a h b h' e
 have e:Aay (fun v h'=>some (v,h')) (t.runK a h fun v h'=>some (v,h')) (JR f a h l)=some (b,h'):=e
 cases hq:JR f a h l with
 | none=>rw[hq] at e;exact j a h b h' e
 | some p =>
  rw[hq] at e
  simp only[Aay,Alx,Apc] at e
  obtain⟨rfl,rfl⟩:=e
  exact oO H hq
def Af0 (P:Program) (muts:Nat→List Bool) (N:Nat) (l:List Pt) (fs:List (Nat×Hints)):Nat→List (Nat×Tw)
 | 0=>[]
 | d+1=>fs.map fun p=>(p.1,Afb l p.1 ⟨fun args h k=>oE P muts (Af0 P muts N l fs d) p.2 N p.1 args h k,fun args h k=>by rw[BA,BA];exact RD ..⟩)
theorem Aaz {P:Program} (b:P.follows .mixedOrders=true) (muts:Nat→List Bool) (N:Nat) {l:List Pt} (H:tI P l) (fs:List (Nat×Hints)):∀ d,iF P (Af0 P muts N l fs d)
 | 0=>trivial
 | d+1=>by
  rw[Af0]
  have key:∀ (q:List (Nat×Hints)),iF P (q.map fun p=>((p.1,Afb l p.1 ⟨fun args h k=>oE P muts (Af0 P muts N l fs d) p.2 N p.1 args h k,fun args h k=>by rw[BA,BA];exact RD ..⟩):Nat×Tw)):=by
   intro q
   induction q with
   | nil=>trivial
   | cons p r e =>
    refine⟨Adc H ?_,e⟩
    intro args h j h' hh
    exact JH (Aaz b muts N H fs d) b ((BA ..).symm.trans hh)
  exact key fs
def Afc (f:Nat):List (Nat×Hints)→Hints
 | []=>⟨.leaf,[],[],[],[]⟩
 | p::r=>cond (beq p.1 f) p.2 (Afc f r)
def cW (p:Pt):Option (AV×Ap)→Bool
 | some (v,h)=>Ah6 p.res v&&Aeb p.h' h
 | none=>false
theorem Uh {P:Program} (b:P.follows .mixedOrders=true) {muts:Nat→List Bool} {N:Nat} {l:List Pt} (H:tI P l) {fs:List (Nat×Hints)} (d:Nat) {p:Pt}
  (e:cW p (oE P muts (Af0 P muts N l fs d) (Afc p.f fs) N p.f p.args p.h fun v h=>some (v,h))=true):Ki P p:=by
 cases hq:oE P muts (Af0 P muts N l fs d) (Afc p.f fs) N p.f p.args p.h fun v h=>some (v,h) with
 | none=>rw[hq] at e;cases e
 | some q =>
  rw[hq] at e
  obtain⟨v,h⟩:=q
  simp only[cW,Ak1] at e
  have:=vh _ _ e.1;have:=vj _ _ e.2
  subst_vars
  exact JH (Aaz b muts N H fs d) b ((BA ..).symm.trans hq)
end Gx
namespace Gx
open Go Go.Proofs
theorem qW {P:Program} {p:Pt} {o:Option (AV×Ap)} (h:∀ v h',o=some (v,h')→ri P p.f p.args p.h v h') (e:cW p o=true):Ki P p:=by
 cases hq:o with
 | none=>rw[hq] at e;cases e
 | some q =>
  rw[hq] at e
  obtain⟨v,h'⟩:=q
  simp only[cW,Ak1] at e
  have b:=vh _ _ e.1;have j:=vj _ _ e.2
  unfold Ki;rw[b,j]
  exact h _ _ hq
def Afd (a:LA) (h:Ap):Option (AV×Ap):=match a,h with
 | [.str s,.str t],[]=>Pg 0 s t fun x y b=>some (.tup [.str x,.str y,.bool b],[])
 | _,_=>none
theorem Add (a:LA) (h:Ap) (v:AV) (h':Ap) (b:Afd a h=some (v,h')):ri Tryz.prog 41 a h v h':=by
 refine iq 0 _ _ _ _ (show G5 0 a h (fun v h'=>some (v,h'))=some (v,h') from ?_)
 unfold Afd at b;unfold G5
 split at b
 ·rw[Nu];exact b
 ·cases b
theorem qX {p:Pt} (b:p.f=41) (e:cW p (Afd p.args p.h)=true):Ki Tryz.prog p:=qW (fun v h' j=>by rw[b];exact Add _ _ _ _ j) e
def Aa0 (a:LA) (h:Ap):Option (AV×Ap):=match a,h with
 | [.int .i64 n],[]=>Nb 0 n fun x=>some (.str x,[])
 | _,_=>none
theorem Aa1 (a:LA) (h:Ap) (v:AV) (h':Ap) (b:Aa0 a h=some (v,h')):ri Tryz.prog 116 a h v h':=by
 refine fB 0 _ _ _ _ (show F3 0 a h (fun v h'=>some (v,h'))=some (v,h') from ?_)
 unfold Aa0 at b;unfold F3
 split at b
 ·rw[Mg];exact b
 ·cases b
theorem UD {p:Pt} (b:p.f=116) (e:cW p (Aa0 p.args p.h)=true):Ki Tryz.prog p:=qW (fun v h' j=>by rw[b];exact Aa1 _ _ _ _ j) e
def Aa2 (a:LA) (h:Ap):Option (AV×Ap):=match a,h with
 | [.str s],[]=>Nc 0 s fun x=>some (.tup [.int .i64 x,.undef],[])
 | _,_=>none
theorem Aa3 (a:LA) (h:Ap) (v:AV) (h':Ap) (b:Aa2 a h=some (v,h')):ri Tryz.prog 239 a h v h':=by
 refine strconv_Atoi_ok 0 _ _ _ _ (show F4 0 a h (fun v h'=>some (v,h'))=some (v,h') from ?_)
 unfold Aa2 at b;unfold F4
 split at b
 ·rw[Mh];exact b
 ·cases b
theorem xl {p:Pt} (b:p.f=239) (e:cW p (Aa2 p.args p.h)=true):Ki Tryz.prog p:=qW (fun v h' j=>by rw[b];exact Aa3 _ _ _ _ j) e
def vq (a:LA) (h:Ap):Option (AV×Ap):=match a,h with
 | [.str s,.str t],[]=>K8 0 s t fun n c=>some (.own 300000 0 n,[(300000,bQ 1 c)])
 | _,_=>none
theorem zB (a:LA) (h:Ap) (v:AV) (h':Ap) (b:vq a h=some (v,h')):ri Tryz.prog 43 a h v h':=by
 refine ZS 0 _ _ _ _ (show Fe 0 a h (fun v h'=>some (v,h'))=some (v,h') from ?_)
 unfold vq at b;unfold Fe
 split at b
 ·rw[Km];exact b
 ·cases b
theorem tJ {p:Pt} (b:p.f=43) (e:cW p (vq p.args p.h)=true):Ki Tryz.prog p:=qW (fun v h' j=>by rw[b];exact zB _ _ _ _ j) e
end Gx
namespace Gx
open Go Go.Proofs
set_option maxRecDepth 100000
set_option linter.unusedVariables false
def Af7:Hints:={ H:=(hS hL (hS hL (hS hL (hS hL (hS hL (hS (hS hL (hS (hP [1,4,42,43,44] hL) hL)) (hS (hS hL (hS (hP [1,4,56,57,58] hL) hL)) (hS (hS hL (hS (hP [4,66,67,68] hL) hL)) hL)))))))) }
def Af8:Hints:={ H:=(hS hL (hS hL (hS hL (hS hL (hS (hS (hP [0,2,5,6] hL) hL) hL))))),modes:=[(3,0),(0,0),(0,0)],cob:=[1000002,1000005] }
def Aif:Hints:={ H:=hL }
def Aig:Hints:={ H:=(hS hL (hS (hS hL (hS (hP [1,10,11,12] hL) hL)) (hS (hS hL (hS (hP [1,28,29,30] hL) hL)) (hS (hS hL (hS (hP [39,40,41] hL) hL)) hL)))) }
def Aih:Hints:={ H:=hL }
def Aii:Hints:={ H:=hL }
def Aa4:Hints:={ H:=hL }
def Af9:Hints:={ H:=hL }
def Aij:Hints:={ H:=hL }
def Aik:Hints:={ H:=hL }
def Ail:Hints:={ H:=hL }
def Aim:Hints:={ H:=hL,modes:=[(3,0)] }
def Aga:Hints:={ H:=hL }
def Ain:Hints:={ H:=(hS hL (hS hL (hS hL (hS (hS hL (hS (hP [1,3,27,28,29] hL) hL)) hL)))) }
def Aio:Hints:={ H:=(hS hL (hS hL (hS (hP [0,11,12,13] hL) hL))) }
def Agb:Hints:={ H:=hL }
def Agc:Hints:={ H:=(hS hL (hS (hS hL (hS (hP [0,13,14,15] hL) hL)) hL)) }
def Aip:Hints:={ H:=hL,nils:=[(2,1)],modes:=[(2,1),(0,0)] }
def Aiq:Hints:={ H:=hL,modes:=[(3,0),(0,0)] }
def Agd:Hints:={ H:=hL,modes:=[(3,0)] }
def Air:Hints:={ H:=hL,modes:=[(3,0)] }
def Ais:Hints:={ H:=hL,modes:=[(3,0),(0,0)] }
def Age:Hints:={ H:=hL }
def Aec:Hints:={ H:=hL }
def oP:Hints:={ H:=hL }
def Aed:Hints:={ H:=hL }
def oQ:Hints:={ H:=hL }
def Agf:Hints:={ H:=(hS hL (hS hL (hS hL (hS hL (hS (hS hL (hS (hP [4,5,14] hL) hL)) hL))))) }
def Agg:Hints:={ H:=(hS hL (hS hL (hS (hS hL (hS (hP [4,12,13,14] hL) hL)) hL))),nils:=[(2,1)],modes:=[(2,1),(0,0)] }
def Agh:Hints:={ H:=(hS hL (hS hL (hS (hS hL (hS (hP [4,6,13,14,15] hL) hL)) hL))),modes:=[(3,0),(0,0)] }
def Agi:Hints:={ H:=hL }
def Agj:Hints:={ H:=hL,modes:=[(3,0)] }
def Agk:Hints:={ H:=(hS hL (hS hL (hS (hS hL (hS (hP [0,1,5] hL) hL)) hL))) }
def Agl:Hints:={ H:=hL,modes:=[(3,0)] }
def Agm:Hints:={ H:=hL,modes:=[(3,0),(3,0),(0,0)] }
def Aee:Hints:={ H:=hL,modes:=[(3,0)] }
def Aa5:Hints:={ H:=hL,nils:=[(2,1)],modes:=[(2,1)] }
def Aef:Hints:={ H:=hL,nils:=[(3,1)],modes:=[(3,0),(1,1)] }
def UE:Hints:={ H:=hL }
def oR:Hints:={ H:=hL }
def Agn:Hints:={ H:=hL }
def xm:Hints:={ H:=hL }
def Ago:Hints:={ H:=(hS hL (hS hL (hS hL (hS (hS hL (hS (hP [4,20] hL) hL)) hL)))) }
def Agp:Hints:={ H:=hL,modes:=[(3,0),(0,0)] }
def Aeg:Hints:={ H:=(hS hL (hS hL (hS (hS (hP [0,1] hL) hL) hL))),nils:=[(4,1)],modes:=[(2,1)] }
def Aeh:Hints:={ H:=(hS hL (hS hL (hS hL (hS hL (hS hL (hS hL (hS (hS hL (hS (hP [0,1,4,5,11] hL) hL)) hL))))))),nils:=[(4,1),(5,1)],modes:=[(2,1),(2,1),(0,0)] }
def Aa6:Hints:={ H:=(hS hL (hS hL (hS (hS (hP [0,3] hL) hL) hL))),nils:=[(2,1)],modes:=[(2,1)] }
def UF:Hints:={ H:=(hS hL (hS hL (hS hL (hS (hS hL (hS (hP [0,1,5] hL) hL)) hL)))) }
def xn:Hints:={ H:=hL,modes:=[(3,0)] }
def Agq:Hints:={ H:=hL }
def Aei:Hints:={ H:=hL }
def UG:Hints:={ H:=hL }
def Aej:Hints:={ H:=hL }
def Aek:Hints:={ H:=hL,modes:=[(3,0),(0,0)] }
def Ael:Hints:={ H:=(hS hL (hS hL (hS hL (hS hL (hS (hS hL (hS (hP [0,4,5] hL) hL)) hL))))) }
def BK:Hints:={ H:=(hS hL (hS hL (hS (hS (hP [0,3] hL) hL) hL))),nils:=[(2,1)],modes:=[(2,1)] }
def xo:Hints:={ H:=hL }
def xp:Hints:={ H:=(hS hL (hS hL (hS hL (hS hL (hS (hS (hP [0,1,4,5,6,7] hL) hL) hL))))),modes:=[(3,0)] }
def Agr:Hints:={ H:=hL }
def UH:Hints:={ H:=hL }
def JT:Hints:={ H:=hL,nils:=[(2,1)],modes:=[(2,1)] }
def Aem:Hints:={ H:=hL }
def Ags:Hints:={ H:=hL }
def Agt:Hints:={ H:=(hS hL (hS hL (hS (hS hL (hS (hP [3,7] hL) hL)) hL))) }
def Agu:Hints:={ H:=hL,modes:=[(3,0),(0,0)],cob:=[2,3] }
def Aa7:Hints:={ H:=(hS hL (hS hL (hS hL (hS hL (hS (hS (hP [0,2,3,4,5] hL) hL) hL))))),modes:=[(3,0)] }
def cX:Hints:={ H:=hL }
def xq:Hints:={ H:=hL,nils:=[(2,1)],modes:=[(2,1)] }
def xr:Hints:={ H:=hL,nils:=[(4,1),(5,1)],modes:=[(2,1),(2,1),(0,0)] }
def oS:Hints:={ H:=(hS hL (hS hL (hS hL (hS hL (hS (hS (hP [3,4,5] hL) hL) (hS hL (hS hL (hS (hS hL (hS (hP [5,11,42,43] hL) hL)) hL)))))))),nils:=[(5,1)] }
def Agv:Hints:={ H:=hL }
def Agw:Hints:={ H:=hL }
def Aa8:Hints:={ H:=hL }
def Agx:Hints:={ H:=(hS hL (hS (hS hL (hS (hP [0,6] hL) hL)) hL)) }
def iw:Hints:={ H:=(hS hL (hS hL (hS (hS (hP [1,2,4,5] hL) hL) hL))) }
def Aen:Hints:={ H:=hL }
def Aeo:Hints:={ H:=hL }
def Aa9:Hints:={ H:=hL }
def cY:Hints:={ H:=(hS hL (hS hL (hS (hS hL (hS (hP [3,6,7,8] hL) hL)) hL))) }
def xt:Hints:={ H:=hL }
def xu:Hints:={ H:=hL,modes:=[(3,0),(3,0),(0,0)] }
def xv:Hints:={ H:=hL }
def Aba:Hints:={ H:=hL }
def Aep:Hints:={ H:=(hS hL (hS hL (hS hL (hS hL (hS hL (hS (hS hL (hS (hP [0,1,5,6,24,25,26] hL) hL)) hL)))))),nils:=[(4,1)],modes:=[(2,1)] }
def Abb:Hints:={ H:=(hS hL (hS hL (hS hL (hS hL (hS (hS hL (hS (hP [1,5,29,30,31] (hS hL (hS hL (hS (hS (hS hL (hS hL (hS hL (hS (hS hL (hS (hP [1,5,6,7,8,29,30,31,38,39,40] hL) hL)) hL)))) hL) hL)))) hL)) hL))))),nils:=[(4,1)],modes:=[(2,1)] }
def Abc:Hints:={ H:=hL }
def Aj0:Pt:=⟨174,[.imm [.int .u32 3] 1 1 false false,.imm [.int .u32 4] 1 1 false false],[],.own 300000 0 1,[(300000,⟨false,false,true,false,1,[.int .u32 1],false,none⟩)]⟩
theorem Akg:Ki Tryz.prog Aj0:=Uh follows (muts:=muts) (N:=1000000) (l:=[]) trivial (fs:=[(135,Aa5),(174,Aeg),(175,Aeh),(179,Aa6),(197,Ael)]) 5 (by kernel_rfl)
def Aj1:Pt:=⟨87,[.pagg [.bool false,.imm [.int .u32 3] 1 1 false false] false,.pagg [.bool false,.imm [.int .u32 4] 1 1 false false] false],[],.pagg [.bool false,.imm [.int .u32 3] 1 1 false false,.imm [.int .u32 4] 1 1 false false] false,[]⟩
theorem Akh:Ki Tryz.prog Aj1:=Uh follows (muts:=muts) (N:=1000000) (l:=[Aj0]) ⟨Akg,trivial⟩ (fs:=[(87,Agd),(127,Agi),(129,Agj),(130,Agk),(131,Agl),(132,Agm),(134,Aee),(135,Aa5),(174,Aeg),(175,Aeh),(179,Aa6),(197,Ael)]) 6 (by kernel_rfl)
def Aj2:Pt:=⟨116,[iv 0],[],.str [48],[]⟩
theorem Aki:Ki Tryz.prog Aj2:=UD (by kernel_rfl) (by kernel_rfl)
def Aj3:Pt:=⟨116,[iv 1],[],.str [49],[]⟩
theorem Akj:Ki Tryz.prog Aj3:=UD (by kernel_rfl) (by kernel_rfl)
def Afe:Pt:=⟨238,[.pagg [.bool false,.imm [.int .u32 10] 1 1 false true] true,iv 9],[],.agg [.bool false,.own 300000 0 1],[(300000,⟨false,false,true,false,1,[.int .u32 1000000000,.int .u32 0],false,none⟩)]⟩
theorem Af1:Ki Tryz.prog Afe:=Uh follows (muts:=muts) (N:=1000000) (l:=[]) trivial (fs:=[(189,UG),(203,BK),(212,UH),(213,JT),(238,iw),(241,Aa9),(262,Abb)]) 5 (by kernel_rfl)
def Ait:Pt:=⟨116,[iv 3],[],.str [51],[]⟩
theorem Aj4:Ki Tryz.prog Ait:=UD (by kernel_rfl) (by kernel_rfl)
def Aj5:Pt:=⟨232,[.pagg [.bool false,.imm [.int .u32 3] 1 1 false false] true],[],.str [51],[]⟩
theorem Akk:Ki Tryz.prog Aj5:=Uh follows (muts:=muts) (N:=1000000) (l:=[Afe,Ait]) ⟨Af1,Aj4,trivial⟩ (fs:=[(40,Aa4),(116,oP),(118,oQ),(159,UE),(161,oR),(183,UF),(189,UG),(203,BK),(212,UH),(213,JT),(227,cX),(229,xq),(231,xr),(232,oS),(238,iw),(246,cY),(251,xt),(252,xu),(253,xv)]) 6 (by kernel_rfl)
def Aiu:Pt:=⟨116,[iv 4],[],.str [52],[]⟩
theorem Aj6:Ki Tryz.prog Aiu:=UD (by kernel_rfl) (by kernel_rfl)
def Aj7:Pt:=⟨232,[.pagg [.bool false,.imm [.int .u32 4] 1 1 false true] true],[],.str [52],[]⟩
theorem Akl:Ki Tryz.prog Aj7:=Uh follows (muts:=muts) (N:=1000000) (l:=[Afe,Aiu]) ⟨Af1,Aj6,trivial⟩ (fs:=[(40,Aa4),(116,oP),(118,oQ),(159,UE),(161,oR),(183,UF),(189,UG),(203,BK),(212,UH),(213,JT),(227,cX),(229,xq),(231,xr),(232,oS),(238,iw),(246,cY),(251,xt),(252,xu),(253,xv)]) 6 (by kernel_rfl)
def Aj8:Pt:=⟨163,[.pagg [.bool false,.imm [.int .u32 3] 1 1 false false,.imm [.int .u32 4] 1 1 false false] true],[],.str [51,47,52],[]⟩
theorem Akm:Ki Tryz.prog Aj8:=Uh follows (muts:=muts) (N:=1000000) (l:=[Aj5,Aj7]) ⟨Akk,Akl,trivial⟩ (fs:=[(159,UE),(163,xm),(183,UF),(186,xn),(188,Aei),(189,UG),(190,Aej),(203,BK),(208,xo),(209,xp),(212,UH),(213,JT),(214,Aem),(227,cX),(232,oS),(246,cY)]) 7 (by kernel_rfl)
def Agy:Pt:=⟨116,[iv 2],[],.str [50],[]⟩
theorem Aiv:Ki Tryz.prog Agy:=UD (by kernel_rfl) (by kernel_rfl)
def Agz:Pt:=⟨78,[.optr 100000 0,.str [98,111,117,110,100],.imm [iv 2,.bool false,.imm [.int .u32 3] 1 1 false false,.imm [.int .u32 4] 1 1 false false] 1 4 false true],[(100000,⟨false,false,false,false,0,[.optr 100000 0,.own 100001 0 10,.bool false],false,some (113,3)⟩),(100001,⟨false,false,true,false,1,[.int .u8 108,.int .u8 111,.int .u8 103,.int .u8 32,.int .u8 48,.int .u8 32,.int .u8 48,.int .u8 32,.int .u8 49,.int .u8 10],false,some (5,0)⟩)],.tup [],[(100000,⟨false,false,false,false,0,[.optr 100000 0,.own 300000 0 22,.bool false],false,some (113,3)⟩),(300000,⟨false,false,true,false,1,[.int .u8 108,.int .u8 111,.int .u8 103,.int .u8 32,.int .u8 48,.int .u8 32,.int .u8 48,.int .u8 32,.int .u8 49,.int .u8 10,.int .u8 98,.int .u8 111,.int .u8 117,.int .u8 110,.int .u8 100,.int .u8 32,.int .u8 50,.int .u8 58,.int .u8 51,.int .u8 47,.int .u8 52,.int .u8 10],false,some (5,0)⟩)]⟩
theorem Aiw:Ki Tryz.prog Agz:=Uh follows (muts:=muts) (N:=1000000) (l:=[Aj8,Agy]) ⟨Akm,Aiv,trivial⟩ (fs:=[(77,Agb),(78,Agc),(116,oP),(117,Aed),(118,oQ),(119,Agf),(161,oR),(162,Agn),(163,xm),(186,xn),(187,Agq),(203,BK),(208,xo),(209,xp),(211,Agr),(213,JT),(227,cX),(246,cY)]) 8 (by kernel_rfl)
def Ag0:Pt:=⟨11,[.pagg [.nsl,.nsl,.imm [iv 1,iv 0,iv 0,iv 0,.imm [iv 2,.bool false,.imm [.int .u32 3] 1 1 false false,.imm [.int .u32 4] 1 1 false false] 1 4 false false] 1 5 false true] true],[],.tup [.str [108,111,103,32,48,32,48,32,49,10,98,111,117,110,100,32,50,58,51,47,52,10],iv 0],[]⟩
theorem Aix:Ki Tryz.prog Ag0:=Uh follows (muts:=muts) (N:=1000000) (l:=[Aj2,Aj3,Agz]) ⟨Aki,Akj,Aiw,trivial⟩ (fs:=[(11,Af7),(36,Aig),(37,Aih),(39,Aii),(40,Aa4),(73,Aga),(75,Ain),(76,Aio),(77,Agb),(78,Agc),(98,Ais),(114,Age),(115,Aec),(116,oP),(117,Aed),(118,oQ),(158,Aef),(159,UE),(161,oR),(183,UF),(203,BK)]) 8 (by kernel_rfl)
def Ag1:Pt:=⟨41,[.str [108,111,103,32,48,32,48,32,49,10,98,111,117,110,100,32,50,58,51,47,52,10],.str [10]],[],.tup [.str [108,111,103,32,48,32,48,32,49],.str [98,111,117,110,100,32,50,58,51,47,52,10],.bool true],[]⟩
theorem Aiy:Ki Tryz.prog Ag1:=qX (by kernel_rfl) (by kernel_rfl)
def Ag2:Pt:=⟨43,[.str [108,111,103,32,48,32,48,32,49],.str [32]],[],.own 300000 0 4,[(300000,⟨false,false,true,false,1,[.str [108,111,103],.str [48],.str [48],.str [49]],false,none⟩)]⟩
theorem Aiz:Ki Tryz.prog Ag2:=tJ (by kernel_rfl) (by kernel_rfl)
def Ag3:Pt:=⟨41,[.str [98,111,117,110,100,32,50,58,51,47,52,10],.str [10]],[],.tup [.str [98,111,117,110,100,32,50,58,51,47,52],.str [],.bool true],[]⟩
theorem Ai0:Ki Tryz.prog Ag3:=qX (by kernel_rfl) (by kernel_rfl)
def Ag4:Pt:=⟨43,[.str [98,111,117,110,100,32,50,58,51,47,52],.str [32]],[],.own 300000 0 2,[(300000,⟨false,false,true,false,1,[.str [98,111,117,110,100],.str [50,58,51,47,52]],false,none⟩)]⟩
theorem Ai1:Ki Tryz.prog Ag4:=tJ (by kernel_rfl) (by kernel_rfl)
def Ag5:Pt:=⟨41,[.str [50,58,51,47,52],.str [58]],[],.tup [.str [50],.str [51,47,52],.bool true],[]⟩
theorem Ai2:Ki Tryz.prog Ag5:=qX (by kernel_rfl) (by kernel_rfl)
def Ag6:Pt:=⟨41,[.str [51,47,52],.str [47]],[],.tup [.str [51],.str [52],.bool true],[]⟩
theorem Ai3:Ki Tryz.prog Ag6:=qX (by kernel_rfl) (by kernel_rfl)
def Ag7:Pt:=⟨239,[.str [51]],[],.tup [iv 3,.undef],[]⟩
theorem Ai4:Ki Tryz.prog Ag7:=xl (by kernel_rfl) (by kernel_rfl)
def Ag8:Pt:=⟨218,[.str [51]],[],.pagg [.bool false,.imm [.int .u32 3] 1 1 false false] false,[]⟩
theorem Ai5:Ki Tryz.prog Ag8:=Uh follows (muts:=muts) (N:=1000000) (l:=[Afe,Ag7]) ⟨Af1,Ai4,trivial⟩ (fs:=[(189,UG),(203,BK),(212,UH),(213,JT),(218,Aa7),(236,Aa8),(238,iw),(239,Aen),(240,Aeo),(241,Aa9),(257,Aba),(260,Aep),(262,Abb),(270,Abc)]) 5 (by kernel_rfl)
def Ag9:Pt:=⟨239,[.str [52]],[],.tup [iv 4,.undef],[]⟩
theorem Ai6:Ki Tryz.prog Ag9:=xl (by kernel_rfl) (by kernel_rfl)
def Aha:Pt:=⟨218,[.str [52]],[],.pagg [.bool false,.imm [.int .u32 4] 1 1 false false] false,[]⟩
theorem Ai7:Ki Tryz.prog Aha:=Uh follows (muts:=muts) (N:=1000000) (l:=[Afe,Ag9]) ⟨Af1,Ai6,trivial⟩ (fs:=[(189,UG),(203,BK),(212,UH),(213,JT),(218,Aa7),(236,Aa8),(238,iw),(239,Aen),(240,Aeo),(241,Aa9),(257,Aba),(260,Aep),(262,Abb),(270,Abc)]) 5 (by kernel_rfl)
def Ahb:Pt:=⟨193,[.str [51,47,52]],[],.tup [.pagg [.bool false,.imm [.int .u32 3] 1 1 false false,.imm [.int .u32 4] 1 1 false false] false,iv 0],[]⟩
theorem Ai8:Ki Tryz.prog Ahb:=Uh follows (muts:=muts) (N:=1000000) (l:=[Ag6,Ag8,Aha]) ⟨Ai3,Ai5,Ai7,trivial⟩ (fs:=[(41,Af9),(159,UE),(183,UF),(186,xn),(193,Aek),(203,BK),(208,xo),(209,xp),(213,JT),(215,Ags),(216,Agt),(217,Agu),(218,Aa7),(227,cX),(234,Agv),(235,Agw),(236,Aa8),(237,Agx),(246,cY),(257,Aba),(270,Abc)]) 7 (by kernel_rfl)
def Ahc:Pt:=⟨232,[.pagg [.bool false,.imm [.int .u32 3] 1 1 false false] false],[],.str [51],[]⟩
theorem Ai9:Ki Tryz.prog Ahc:=Uh follows (muts:=muts) (N:=1000000) (l:=[Afe,Ait]) ⟨Af1,Aj4,trivial⟩ (fs:=[(40,Aa4),(116,oP),(118,oQ),(159,UE),(161,oR),(183,UF),(189,UG),(203,BK),(212,UH),(213,JT),(227,cX),(229,xq),(231,xr),(232,oS),(238,iw),(246,cY),(251,xt),(252,xu),(253,xv)]) 6 (by kernel_rfl)
def Ahd:Pt:=⟨232,[.pagg [.bool false,.imm [.int .u32 4] 1 1 false false] false],[],.str [52],[]⟩
theorem Aja:Ki Tryz.prog Ahd:=Uh follows (muts:=muts) (N:=1000000) (l:=[Afe,Aiu]) ⟨Af1,Aj6,trivial⟩ (fs:=[(40,Aa4),(116,oP),(118,oQ),(159,UE),(161,oR),(183,UF),(189,UG),(203,BK),(212,UH),(213,JT),(227,cX),(229,xq),(231,xr),(232,oS),(238,iw),(246,cY),(251,xt),(252,xu),(253,xv)]) 6 (by kernel_rfl)
def Ahe:Pt:=⟨163,[.pagg [.bool false,.imm [.int .u32 3] 1 1 false false,.imm [.int .u32 4] 1 1 false false] false],[],.str [51,47,52],[]⟩
theorem Ajb:Ki Tryz.prog Ahe:=Uh follows (muts:=muts) (N:=1000000) (l:=[Ahc,Ahd]) ⟨Ai9,Aja,trivial⟩ (fs:=[(159,UE),(163,xm),(183,UF),(186,xn),(188,Aei),(189,UG),(190,Aej),(203,BK),(208,xo),(209,xp),(212,UH),(213,JT),(214,Aem),(227,cX),(232,oS),(246,cY)]) 7 (by kernel_rfl)
def Ahf:Pt:=⟨12,[.str [108,111,103,32,48,32,48,32,49,10,98,111,117,110,100,32,50,58,51,47,52,10]],[],.tup [.pagg [.imm [] 0 2 false false,.imm [] 0 6 false false,.imm [iv 1,iv 0,iv 0,iv 0,.imm [iv 2,.bool false,.imm [.int .u32 3] 1 1 false false,.imm [.int .u32 4] 1 1 false false] 1 4 false false] 1 5 false false] false,iv 0,iv 0],[]⟩
theorem Ajc:Ki Tryz.prog Ahf:=Uh follows (muts:=muts) (N:=1000000) (l:=[Ag1,Ag2,Ag3,Ag4,Ag5,Ahb,Ahe]) ⟨Aiy,Aiz,Ai0,Ai1,Ai2,Ai8,Ajb,trivial⟩ (fs:=[(12,Af8),(41,Af9),(42,Aij),(43,Aik),(44,Ail),(73,Aga),(80,Aip),(83,Aiq),(115,Aec),(121,Agg),(122,Agh),(158,Aef),(159,UE),(163,xm),(168,Ago),(169,Agp),(183,UF),(193,Aek),(203,BK)]) 10 (by kernel_rfl)
def Ajd:Pt:=⟨15,[],[],.bool true,[]⟩
theorem Aje:Ki Tryz.prog Ajd:=Uh follows (muts:=muts) (N:=1000000) (l:=[Aj1,Ag0,Ahf]) ⟨Akh,Aix,Ajc,trivial⟩ (fs:=[(11,Af7),(12,Af8),(15,Aif),(47,Aim),(87,Agd),(88,Air),(134,Aee),(135,Aa5),(179,Aa6)]) 6 (by kernel_rfl)
theorem ZT:ri Tryz.prog 15 [] [] (.bool true) []:=Aje
end Gx
namespace Gx
open Go Go.Proofs
noncomputable section
variable {R:Type} (N:Nat)
def Ph (_N:Nat) (r0:Bool→O R):O R:=r0 true
def Td:=(Ag (@Ph R)).1
theorem G6:@Td R=@Ph R:=(Ag _).2
def PJ:Bd Tryz.prog:=⟨15,fun
 | [],[]=>some fun _ k=>Td N fun b=>k (.bool b) []
 | _,_=>none,(fun a h g e R k=>by
  split at e
  ·cases e;dsimp only;rw[G6,G6];rfl
  ·cases e),(fun a h g res h' e hh=>by
  split at e
  ·cases e;dsimp only at hh;rw[G6] at hh;cases hh;exact ZT
  ·cases e)⟩
end
end Gx
namespace Gx
open Go
section
variable {J:Bool→Nat→Prop} {β:B5} {h:Ap} {w w':World}
theorem Step.junk (S:SimH J β h w) (A:w'.os=w.os) (C:w'.tape=w.tape) (D:w'.output=w.output) (hs:w.heap.size≤w'.heap.size) (q:∀ k,k<w.heap.size→w'.heap[k]?=w.heap[k]?):Step J β h w J β h w':=by
 have F:∀ k,At w k≤At w' k:=fun k=>by
  by_cases v:k<w.heap.size
  ·simp[At,q k v]
  ·simp[At,Alk (Amh v)]
 have E:Ext J β h w J β h w':=⟨fun _ _ e=>e,fun o k e=>q k (S.jlt o k e),fun b x j=>⟨x,⟨j,rfl⟩,by cases s:x.dead<;>simp⟩,fun b k o _=>F k⟩
 refine⟨E,⟨fun o k e=>Ame (S.jlt o k e) hs,S.jft,S.gl.ext E,fun b x j s u=>?_,fun b x j s u=>(S.mblk b x j s u).keep rfl (fun k o G=>q k (My S j s G)) (fun _ _ _ _ e=>e),S.sep⟩,A,C,D,hs,fun k v _=>q k v,fun k u _=>u,fun _ _ e=>.inl e⟩
 rcases S.blk b x j s u with y | ⟨k,o,cs,ty,fr,y,z,I,K,L,M⟩
 ·exact .inl y
 ·exact .inr ⟨k,o,cs,ty,fr,y,by rw[q k (Pa z)];exact z,I,K,L.ext E,M⟩
theorem Step.newAt (S:SimH J β h w) {d k0:Nat} {x:Blk} {cs:Array Value} {ty:TypeId} {fr:Nat×Nat} (hn:Ai h d=none) (hxd:x.dead=false) (L:x.sealed=false)
  (M:FrTy x.ty ty 0 cs.size fr) (Y:x.cells.length≤cs.size) (O:w'.heap[k0]?=some (.cells cs ty fr)) (hge:w.heap.size≤k0)
  (ho:w'.os=w.os) (ht:w'.tape=w.tape) (hu:w'.output=w.output) (hs:w.heap.size≤w'.heap.size) (C:∀ k,k<w.heap.size→w'.heap[k]?=w.heap[k]?)
  (hc:CellsRep J β h w x fun j=>cs[j]?) (T:x.mp=false:=by rfl) :
  Step J β h w J (fun b=>if b=d then some (k0,0) else β b) (Dp h d x) w':=by
 have ne:∀ {b y},Ai h b=some y→b≠d:=fun q e=>by subst e;rw[hn] at q;cases q
 have E:Ext J β h w J (fun b=>if b=d then some (k0,0) else β b) (Dp h d x) w':=by
  refine⟨fun _ _ u=>u,fun o k u=>C k (S.jlt o k u),fun b y q=>⟨y,⟨by rw[Ad,if_neg (ne q)];exact q,rfl⟩,?_⟩,fun b k o s=>?_⟩
  ·cases A:y.dead
   ·exact .inr ⟨rfl,by simp[ne q],rfl,fun _=>rfl⟩
   ·exact .inl rfl
  ·by_cases G:k<w.heap.size
   ·simp[At,C k G]
   ·simp[At,Alk (Amh G)]
 refine⟨E,⟨fun o k u=>Ame (S.jlt o k u) hs,S.jft,S.gl.ext E,fun b y q A I=>?_,fun b y q A I=>by
   rw[Ad] at q
   by_cases e:b=d
   ·rw[if_pos e] at q;simp at q;subst q;simp[T] at I
   ·rw[if_neg e] at q
    exact(S.mblk b y q A I).keep (by simp[e]) (fun k o s=>C k (My S q A s)) (fun _ _ _ _ u=>u),?_⟩,ho,ht,hu,hs,fun k G _=>C k G,?_,fun _ _ u=>.inl u⟩
 ·rw[Ad] at q
  by_cases e:b=d
  ·subst e;simp at q;subst q
   exact .inr ⟨k0,0,cs,ty,fr,by simp,O,M,by omega,by simpa using hc.ext E,fun _ g u=>by have:=S.jlt g _ u;omega,fun hs=>by simp[L] at hs⟩
  ·rw[if_neg e] at q
   rcases S.blk b y q A I with K | ⟨k,o,U,V,X,K,h2,h3,h4,h5,h6⟩
   ·exact .inl ⟨by simp[e,K.1],K.2⟩
   ·exact .inr ⟨k,o,U,V,X,by simp[e,K],by rw[C k (Pa h2)];exact h2,h3,h4,h5.ext E,h6⟩
 ·intro b b' y y' k o o' q v A F hs s z
  rw[Ad] at q v
  by_cases e:b=d<;>by_cases D:b'=d
  ·rw[e,D]
  ·rw[if_neg D] at v
   simp[e] at s;simp[D] at z
   have:=My S v F z;omega
  ·rw[if_neg e] at q
   simp[D] at z;simp[e] at s
   have:=My S q A s;omega
  ·rw[if_neg e] at q;rw[if_neg D] at v
   simp[e] at s;simp[D] at z
   exact S.sep b b' y y' k o o' q v A F hs s z
 ·rintro k ⟨b,y,o,q,A,hs,s⟩ C
  rw[Ad] at q
  by_cases e:b=d
  ·simp[e] at s;omega
  ·rw[if_neg e] at q;simp[e] at s
   exact⟨b,y,o,q,A,hs,s⟩
end
end Gx
namespace Go.Proofs.Bw
open Go Go.RowKit
section
variable {P:Program} (w:World)
theorem tK (base:Nat) (t ty e:TypeId) (i:TypeInfo) (z:Value) (size bytes:Nat) (T:P.underlying t=some (.slice e)) (hi:P.info? e=some i) (U:i.zero=some z)
  (A:i.size=size) (K:i.bytes=bytes) (V:z.cells.size=size) (X:0<size)
  (v:Value) (n:Nat) (xs:List Value) (b:w.ownsRow base e size v n xs)
  (a:Addr) (m c:Nat) (news:List Value) (L:news.length=m*size) (q:∀ j u,news[j]?=some u→w.cell? (a.add j)=some u) (h1:∀ u ∈ news,u.oneCell'=true)
  (hm:0<m) (D:n+m≤maxLen) (s:(n+m)*bytes≤140737488355328) (F:base≤w.heap.size) :
  ∃ v' w',(Builtin.append_ #[t,t] ty #[v,.slice (some a) m c]).run P w=.ok v' w'∧w'.ownsRow base e size v' (n+m) (xs++news)∧w'.ownsRow base e size v n xs∧w.grownBy w' v.ownBlock ∧
   (v'.ownBlock=v.ownBlock∨∃ k,v'.ownBlock=some k∧w.heap.size≤k):=by
 obtain⟨v',w',hr,h2,Y,h4⟩:=run_append_own (P:=P) w base t ty e i z size bytes T hi U A K V X v n xs b a m c news L q h1 D s F
 subst A
 subst K
 refine⟨v',w',hr,h2,?_⟩
 rcases b.2 with⟨rfl,rfl⟩ | ⟨g,cap,cur,rfl,hbg,hg,M,hcm,O,G⟩
 ·have hx:xs=[]:=List.eq_nil_of_length_eq_zero (by simpa using b.1)
  subst hx
  have y:=run_append_nil (P:=P) w t ty e i z T hi U a m c news L q hm (by simp only[maxLen] at D;omega) (by have hb:=s;simp only[Nat.zero_add] at hb;omega)
  rw[hr] at y
  injection y with e1 e2
  subst e1
  exact⟨World.ownsRow_nil _ _ _ _,Y,.inr ⟨w.heap.size,rfl,Nat.le_refl _⟩⟩
 ·by_cases C:n+m≤cap
  ·have S:n*i.size+news.length≤cur.size:=by rw[L,O,←Nat.add_mul];exact Nat.mul_le_mul_right _ C
   have y:=run_append_room (P:=P) w t ty e i T hi g n cap cur hg a m c news L q h1 C S
   rw[hr] at y
   injection y with e1 e2
   subst e1
   refine⟨⟨b.1,?_⟩,Y,.inl rfl⟩
   rcases h2.2 with⟨h5,_⟩ | ⟨g',cap',cur',hv,hb',hg',hn',hc',hs',ht'⟩
   ·cases h5
   ·cases hv
    refine .inr ⟨g,cap,cur',rfl,hb',hg',M,hc',hs',?_⟩
    have:cur'.toList.take (n*i.size)=(cur'.toList.take ((n+m)*i.size)).take (n*i.size):=by
     rw[List.take_take,Nat.min_eq_left (Nat.mul_le_mul_right _ (by omega))]
    rw[this,ht',←b.1]
    exact List.take_left
  ·have I:∀ j u,xs[j]?=some u→w.cell? ((⟨g,0,none⟩:Addr).add j)=some u:=b.cells (g:=g) rfl
   have y:=run_append_grow (P:=P) w t ty e i z T hi U ⟨g,0,none⟩ n cap xs b.1 I a m c news L q (by omega) (by simp only[maxLen] at D;omega) (growslice_fits (by omega) s)
   rw[hr] at y
   injection y with e1 e2
   subst e1 e2
   refine⟨?_,Y,.inr ⟨w.heap.size,rfl,Nat.le_refl _⟩⟩
   have hlt:=(Array.getElem?_eq_some_iff.1 hg).1
   exact⟨b.1,.inr ⟨g,cap,cur,rfl,hbg,(heap_alloc_old w.drew _ hlt).trans hg,M,hcm,O,G⟩⟩
theorem RF {ops:Array Oper} {Ta:List Oper} {o:Oper} {a:Act} {Q:Exit→Act→World→Prop} (D:o.guard=none) (s x:Operand) (t:TypeId)
  (M:o.op=.call { callee:=.builtin .append,args:=#[s,x],argTypes:=#[t,t] })
  (base:Nat) (e:TypeId) (i:TypeInfo) (z:Value) (size bytes:Nat) (O:P.underlying t=some (.slice e)) (hi:P.info? e=some i) (S:i.zero=some z)
  (q:i.size=size) (F:i.bytes=bytes) (G:z.cells.size=size) (I:0<size)
  (v:Value) (n:Nat) (xs:List Value) (hs:a.eval s=v) (C:w.ownsRow base e size v n xs)
  (ad:Addr) (m c:Nat) (news:List Value) (T:a.eval x=.slice (some ad) m c) (U:news.length=m*size) (y:∀ j u,news[j]?=some u→w.cell? (ad.add j)=some u) (V:∀ u ∈ news,u.oneCell'=true)
  (X:0<m) (L:n+m≤maxLen) (b:(n+m)*bytes≤140737488355328) (A:base≤w.heap.size)
  (h:∀ v' w',w'.ownsRow base e size v' (n+m) (xs++news)→w'.ownsRow base e size v n xs→w.grownBy w' v.ownBlock→(v'.ownBlock=v.ownBlock∨∃ k,v'.ownBlock=some k∧w.heap.size≤k)→wpList P ops Q Ta (a.put o.dst v') w'):wpList P ops Q (o::Ta) a w :=
 wpList_plain D fun K hK=>by
  obtain⟨v',w',hr,Y,h3,h4,h5⟩:=tK (P:=P) w base t o.type e i z size bytes O hi S q F G I v n xs C ad m c news U y V X L b A
  unfold Oper.wp execOp
  simp only[M,resolve,invoke,builtin,Sem.run_bind,Sem.run_pure,Result.andThen_ok,List.map_toArray,List.map_cons,List.map_nil,hs,T,hr]
  exact hK _ _ (h v' w' Y h3 h4 h5)
end
end Go.Proofs.Bw
namespace Go.Proofs.Bw
open Go Go.RowKit
theorem Abd:(Tryz.prog.info? 63).map (fun i=>(i.zero,i.size,i.bytes))=some (some (.agg #[.int .i64 0,.int .i64 0,.int .i64 0]),3,24):=by kernel_rfl
theorem Ahg (a:Option Addr) (l c:Nat) (w:World):(binOp .eql 59 (.slice a l c) (.slice none 0 0)).run Tryz.prog w=.ok (.bool a.isNone) w:=run_eql_slice_nil w 59 63 a l c Tryz.underlying59
theorem vt (a:Addr) (n:Nat):(a.add n).block=a.block:=by unfold Addr.add;split<;>rfl
theorem zC {w w':World} {row:Option Nat} (h:w.grownBy w' row) (a:Addr) (e:a.block<w.heap.size) (b:some a.block≠row:=by simp):w'.cell? a=w.cell? a:=by unfold World.cell?;rw[h.block a.block e b]
theorem JU (w:World) (o:Obj) {k:Nat} (b:k<w.heap.size):(w.alloc o).heap[k]?=w.heap[k]?:=by
 show(w.heap.push o)[k]?=_
 rw[Array.getElem?_push,if_neg (by omega)]
theorem vu {w:World} {b j e size:Nat} {v:Value} {n:Nat} {xs:List Value} (h:w.ownsRow b e size v n xs) (k:j≤b):w.ownsRow j e size v n xs:=by
 refine⟨h.1,?_⟩
 rcases h.2 with q | ⟨g,cap,cur,s,u,y⟩
 ·exact .inl q
 ·exact .inr ⟨g,cap,cur,s,Nat.le_trans k u,y⟩
theorem H7 {w:World} {k o:Nat} {cs:Array Value} {v:Value} {ty:TypeId} {fr:Nat×Nat} (h:w.heap[k]?=some (.cells (cs.setIfInBounds o v) ty fr)) (b:o<cs.size):w.cell? ⟨k,o,none⟩=some v:=by
 simp[World.cell?,h,b]
theorem zD {w:World} {k o:Nat} {cs:Array Value} {v:Value} {ty:TypeId} {fr:Nat×Nat} (h:w.heap[k]?=some (.cells (cs.setIfInBounds o v) ty fr)) (b:o<cs.size) (e:fr.1=fr.2∨cs.size≤fr.1):w.frozen? ⟨k,o,none⟩=false:=by
 simp only[World.frozen?,h]
 simp;omega
theorem zE {w:World} {k o:Nat} {cs:Array Value} {v:Value} {ty:TypeId} {fr:Nat×Nat} (h:w.heap[k]?=some (.cells (cs.setIfInBounds o v) ty fr)) (u:Value):(w.setCell ⟨k,o,none⟩ u).heap[k]?=some (.cells (cs.setIfInBounds o u) ty fr):=by
 have e:(cs.setIfInBounds o v).setIfInBounds o u=cs.setIfInBounds o u:=by
  apply Array.ext_getElem?;intro i
  simp only[Array.getElem?_setIfInBounds,Array.size_setIfInBounds]
  by_cases hi:o=i<;>simp[hi]
 simp[World.setCell,Array.getElem?_modify,h,e]
theorem zF {w:World} {k o j:Nat} (u:Value) (b:j≠k):(w.setCell ⟨k,o,none⟩ u).heap[j]?=w.heap[j]?:=by
 simp only[World.setCell,Array.getElem?_modify];rw[if_neg (fun e=>b e.symm)]
def vw (w w':World):Prop:=w.grownBy w' none
set_option maxRecDepth 100000 in
set_option maxHeartbeats 1000000 in
theorem zG (w:World):Calls Tryz.prog 57 #[.slice none 0 0] w fun e w'=>e=.returned (.slice none 0 0)∧w'=w:=by
 have b:=Ahg
 go_enter Tryz.func57,Tryz.ntmps57
 go_wp2
 go_ret
 exact⟨rfl,rfl⟩
set_option maxRecDepth 100000 in
set_option maxHeartbeats 1000000 in
theorem vz (B g n cap:Nat) (xs:List Value) (w:World) (h:w.ownsRow B 63 3 (.slice (some ⟨g,0,none⟩) n cap) n xs) (hB:B≤w.heap.size) (hn:n≤1000000000) (I:∀ u ∈ xs,u.oneCell'=true) :
  Calls Tryz.prog 57 #[.slice (some ⟨g,0,none⟩) n cap] w fun e w'=>∃ v,e=.returned v∧w'.ownsRow B 63 3 v n xs∧vw w w'∧∃ k,v.ownBlock=some k∧w.heap.size≤k:=by
 obtain⟨i0,hi,z,A,C⟩:=info_parts Abd
 have K:∀ j u,xs[j]?=some u→w.cell? ((⟨g,0,none⟩:Addr).add j)=some u:=h.cells rfl
 have s:xs.length=n*3:=h.1
 have D:g<w.heap.size:=(h.lt g rfl).2
 clear h
 have y:(w.alloc (.cells #[] 63)).ownsRow w.heap.size 63 3 (.slice (some ⟨w.heap.size,0,none⟩) 0 0) 0 [] :=
  ⟨rfl,.inr ⟨w.heap.size,0,#[],rfl,Nat.le_refl _,heap_alloc_new w _,Nat.le_refl _,by simp[maxLen],rfl,rfl⟩⟩
 have L:=Ahg
 go_enter Tryz.func57,Tryz.ntmps57
 go_wp2_with (first
  | (at_builtin;refine wpList_append_own _ rfl _ _ 59 rfl w.heap.size 63 i0 _ 3 24 Tryz.underlying59 hi z A C rfl (by decide) _ _ _ rfl y ⟨g,0,none⟩ n cap xs rfl s ?c1 I ?c3 ?c4 ?c5 ?_)
  | go_in)
 case c1=>intro j u M;rw[←K j u M];exact zC (World.grownBy_alloc w _ none) _ (by rw[vt];exact D)
 case c3=>simp[maxLen];omega
 case c4=>omega
 case c5=>simp
 intro v' O b q F
 go_wp2
 go_ret
 have S:vw w O:=⟨q.os,q.tape,q.output,by have:=q.size;simp at this;omega,fun k T _=>by
  rw[q.block k (by simp;omega) (by simp[Value.ownBlock];omega)];exact JU w _ T⟩
 refine⟨v',rfl,vu b hB,S,?_⟩
 rcases b.2 with⟨U,X⟩ | ⟨g',cap',cur',V,G,_⟩
 ·exact absurd U F
 ·exact⟨g',by rw[V];rfl,G⟩
theorem Abe (B n:Nat) (fx:Value) (xs:List Value) (w:World) (h:w.ownsRow B 63 3 fx n xs) (hB:B≤w.heap.size) (hn:n≤1000000000) (s:∀ u ∈ xs,u.oneCell'=true) :
  Calls Tryz.prog 57 #[fx] w fun e w'=>∃ A c,e=.returned (.slice A n c)∧w'.ownsRow B 63 3 (.slice A n c) n xs∧vw w w'∧∀ k,(Value.slice A n c).ownBlock=some k→w.heap.size≤k:=by
 rcases h.2 with⟨rfl,rfl⟩ | ⟨g,cap,cur,rfl,_⟩
 ·have y:xs=[]:=List.eq_nil_of_length_eq_zero (by simpa using h.1)
  subst y
  refine(zG w).mono ?_
  rintro e w' ⟨rfl,rfl⟩
  exact⟨_,_,rfl,World.ownsRow_nil _ _ _ _,⟨rfl,rfl,rfl,Nat.le_refl _,fun _ _ _=>rfl⟩,fun k z=>by simp[Value.ownBlock] at z⟩
 ·refine(vz B g n cap xs w h hB hn s).mono ?_
  rintro e w' ⟨v,rfl,j,C,k,q,D⟩
  rcases j.2 with⟨rfl,F⟩ | ⟨g',cap',cur',rfl,_⟩
  ·simp[Value.ownBlock] at q
  ·exact⟨_,_,rfl,j,C,fun G b=>by rw[q] at b;cases b;exact D⟩
structure Fr (kf:Nat) (x:Option Nat) (w w':World):Prop where
 os:w'.os=w.os
 tape:w'.tape=w.tape
 output:w'.output=w.output
 size:w.heap.size≤w'.heap.size
 block:∀ k,k<w.heap.size→k≠kf→some k≠x→w'.heap[k]?=w.heap[k]?
section
variable {B kf of:Nat} {csF:Array Value} {tyF:TypeId} {frF:Nat×Nat}
structure Fd (B kf of:Nat) (csF:Array Value) (tyF:TypeId) (frF:Nat×Nat) (w:World) (fv:Value) (m:Nat) (ys:List Value) (vis:Prop):Prop where
 blk:w.heap[kf]?=some (.cells (csF.setIfInBounds of fv) tyF frF)
 row:vis→w.ownsRow B 63 3 fv m ys
 lt:vis→∀ k,fv.ownBlock=some k→k<w.heap.size
set_option maxRecDepth 100000 in
set_option maxHeartbeats 1000000 in
theorem tL (kn on:Nat) (node at_:Int) (fx:Value) (w:World) (b:w.cell? ⟨kn,on,none⟩=some (.int .i64 node)) (j:at_≠node) :
  Calls Tryz.prog 56 #[.int .i64 at_,fx,.pointer (some ⟨kn,on,none⟩),.pointer (some ⟨kf,of,none⟩)] w fun e w'=>e=.returned (.tuple #[])∧w'=w:=by
 go_enter Tryz.func56,Tryz.ntmps56
 go_wp2
 go_end0
 exact⟨rfl,rfl⟩
set_option maxRecDepth 100000 in
set_option maxHeartbeats 1000000 in
theorem wA (kn on n m:Nat) (node:Int) (fx fv:Value) (xs ys:List Value) (w:World) (M:w.cell? ⟨kn,on,none⟩=some (.int .i64 node))
  (v:w.ownsRow B 63 3 fx n xs) (hB:B≤w.heap.size) (hn:n≤1000000000) (O:∀ u ∈ xs,u.oneCell'=true) {vis:Prop} (y:Fd B kf of csF tyF frF w fv m ys vis) (K:of<csF.size) (z:frF.1=frF.2∨csF.size≤frF.1) (hkB:kf<B) :
  Calls Tryz.prog 56 #[.int .i64 node,fx,.pointer (some ⟨kn,on,none⟩),.pointer (some ⟨kf,of,none⟩)] w fun e w'=>e=.returned (.tuple #[]) ∧
   ∃ s,Fd B kf of csF tyF frF w' s n xs True∧Fr kf none w w'∧∀ k,s.ownBlock=some k→w.heap.size≤k:=by
 have C:=Abe B n fx xs w v hB hn O
 have D:kf<w.heap.size:=by omega
 go_enter Tryz.func56,Tryz.ntmps56
 go_wp2_with (first
  | (go_at_call 57;refine C.mono ?_;rintro e F ⟨A,c,rfl,b,q,L⟩;have j:F.heap[kf]?=some (.cells (csF.setIfInBounds of fv) tyF frF):=(q.block kf D (by simp)).trans y.blk;have S:F.cell? ⟨kf,of,none⟩=some fv:=H7 j K;have T:F.frozen? ⟨kf,of,none⟩=false:=zD j K z)
  | go_in)
 go_end0
 refine⟨rfl,_,⟨zE j _,fun _=>ownsRow_setCell_other b (fun e=>by have:=L kf e;omega) _,fun _ k e=>by have:=(b.lt k e).2;simpa[World.setCell] using this⟩,⟨q.os,q.tape,q.output,?_,fun k G I _=>?_⟩,L⟩
 ·have:=q.size;simpa[World.setCell] using this
 ·rw[zF _ I];exact q.block k G (by simp)
end
end Go.Proofs.Bw
namespace Go.Proofs.Bw
open Go Go.RowKit
abbrev Nd:=Int×Int×Int
def fC (f:Nd):List Value:=[.int .i64 f.1,.int .i64 f.2.1,.int .i64 f.2.2]
def Ok (s:List (List Nd)) (n:Nd):List (List Nd):=match s with
 | []=>[]
 | p::r=>if n.1=0 then (p++[(n.2.1,n.2.2,0)])::(p++[(n.2.1,n.2.2,1)])::(p++[(n.2.1,n.2.2,2)])::r else r
def Yd (ns:List Nd) (i:Nat):List (List Nd):=(ns.take i).foldl Ok [[]]
theorem UI {ns:List Nd} {i:Nat} {n:Nd} (h:ns[i]?=some n):Yd ns (i+1)=Ok (Yd ns i) n:=by
 have hi:=(List.getElem?_eq_some_iff.1 h).1
 unfold Yd
 rw[List.take_add_one,h,List.foldl_append];rfl
def NodesAt (kb ko:Nat) (ns:List Nd) (w:World):Prop:=∀ i n,ns[i]?=some n→∃ o A l c,w.cell? ⟨kb,ko+i*5,none⟩=some (.int .i64 n.1)∧w.cell? ⟨kb,ko+i*5+1,none⟩=some (.int .i64 n.2.1)∧w.cell? ⟨kb,ko+i*5+2,none⟩=some (.int .i64 n.2.2) ∧
 w.cell? ⟨kb,ko+i*5+3,none⟩=some (.int .i64 o)∧w.cell? ⟨kb,ko+i*5+4,none⟩=some (.slice A l c)
section
variable {B kf of:Nat} {csF:Array Value} {tyF:TypeId} {frF:Nat×Nat}
def seen (ns:List Nd) (node:Int) (i:Nat):List Nd:=if 0≤node∧node<(i:Int) then (Yd ns node.toNat).headD [] else []
variable {kb ko cap kn on:Nat} {node:Int} {ns:List Nd}
structure Pre (B kf of:Nat) (csF:Array Value) (tyF:TypeId) (frF:Nat×Nat) (kb ko kn on:Nat) (node:Int) (ns:List Nd) (w:World) (fx:Value) (xs:List Nd) (i:Nat) (fv:Value):Prop where
 hB:B≤w.heap.size
 nodes:NodesAt kb ko ns w
 nd:w.cell? ⟨kn,on,none⟩=some (.int .i64 node)
 row:w.ownsRow B 63 3 fx xs.length (xs.flatMap fC)
 fd:Fd B kf of csF tyF frF w fv (seen ns node i).length ((seen ns node i).flatMap fC) (0≤node∧node<(i:Int))
 ne:0≤node∧node<(i:Int)→∀ k,fv.ownBlock=some k→fx.ownBlock≠some k
theorem Aff (xs:List Nd):∀ u ∈ xs.flatMap fC,u.oneCell'=true:=by
 intro u b
 obtain⟨f,_,h⟩:=List.mem_flatMap.1 b
 simp[fC] at h
 rcases h with rfl | rfl | rfl<;>rfl
theorem Fr.refl (kf:Nat) (x:Option Nat) (w:World):Fr kf x w w:=⟨rfl,rfl,rfl,Nat.le_refl _,fun _ _ _ _=>rfl⟩
theorem Fr.trans {kf:Nat} {x:Option Nat} {e j w3:World} (a:Fr kf x e j) (b:Fr kf x j w3):Fr kf x e w3 :=
 ⟨b.os.trans a.os,b.tape.trans a.tape,b.output.trans a.output,Nat.le_trans a.size b.size,fun k q s u=>(b.block k (Nat.lt_of_lt_of_le q a.size) s u).trans (a.block k q s u)⟩
theorem Fr.of_grown {kf:Nat} {x:Option Nat} {b e:World} (a:b.grownBy e x):Fr kf x b e:=⟨a.os,a.tape,a.output,a.size,fun k j _ q=>a.block k j q⟩
theorem Fr.of_kept {kf:Nat} {x:Option Nat} {b e:World} (a:vw b e):Fr kf x b e:=⟨a.os,a.tape,a.output,a.size,fun k j _ q=>a.block k j (by simp)⟩
theorem Fr.mono {kf:Nat} {x y:Option Nat} {b j:World} (a:Fr kf x b j) (h:∀ k,k<b.heap.size→x=some k→y=some k):Fr kf y b j:=⟨a.os,a.tape,a.output,a.size,fun k q s u=>a.block k q s (fun e=>u (h k q e.symm).symm)⟩
theorem U5 {kf:Nat} {x:Option Nat} {w w':World} (h:Fr kf x w w') {a:Addr} {v:Value} (h0:w.cell? a=some v) (e:a.block≠kf) (j:some a.block≠x):w'.cell? a=some v:=by
 have b:a.block<w.heap.size:=by
  rcases Nat.lt_or_ge a.block w.heap.size with b | b
  ·exact b
  ·simp[World.cell?,Array.getElem?_eq_none b] at h0
 unfold World.cell? at h0 ⊢;rw[h.block a.block b e j];exact h0
theorem NodesAt.fr {kf:Nat} {x:Option Nat} {w w':World} (h:Fr kf x w w') (hn:NodesAt kb ko ns w) (b:kb≠kf) (e:some kb≠x):NodesAt kb ko ns w':=by
 intro i n hi
 obtain⟨o,A,l,c,j,c1,c2,c3,c4⟩:=hn i n hi
 exact⟨o,A,l,c,U5 h j b e,U5 h c1 b e,U5 h c2 b e,U5 h c3 b e,U5 h c4 b e⟩
theorem Abf {kf:Nat} {x:Option Nat} {w w':World} {v:Value} {n:Nat} {xs:List Value} (h:Fr kf x w w') (hr:w.ownsRow B 63 3 v n xs) (s:kf<B) (j:∀ k,v.ownBlock=some k→x≠some k):w'.ownsRow B 63 3 v n xs:=by
 refine⟨hr.1,?_⟩
 rcases hr.2 with hn | ⟨g,cap,cur,rfl,q,b,Ta⟩
 ·exact .inl hn
 ·exact .inr ⟨g,cap,cur,rfl,q,by rw[h.block g (Array.getElem?_eq_some_iff.1 b).1 (by omega) (fun e=>j g rfl e.symm)];exact b,Ta⟩
theorem Pre.kept {w w':World} {fx fv:Value} {xs:List Nd} {i:Nat} (p:Pre B kf of csF tyF frF kb ko kn on node ns w fx xs i fv) (k:vw w w') (hkB:kf<B):Pre B kf of csF tyF frF kb ko kn on node ns w' fx xs i fv:=by
 have b:∀ {a:Addr} {v:Value},w.cell? a=some v→w'.cell? a=some v:=by
  intro a v h0
  have e:a.block<w.heap.size:=by
   rcases Nat.lt_or_ge a.block w.heap.size with e | e
   ·exact e
   ·simp[World.cell?,Array.getElem?_eq_none e] at h0
  unfold World.cell? at h0 ⊢;rw[k.block a.block e (by simp)];exact h0
 refine⟨Nat.le_trans p.hB k.size,fun i n hi=>?_,b p.nd,p.row.kept k (by cases fx.ownBlock<;>simp),⟨?_,fun j=>(p.fd.row j).kept k (by cases fv.ownBlock<;>simp),fun j q hq=>Nat.lt_of_lt_of_le (p.fd.lt j q hq) k.size⟩,p.ne⟩
 ·obtain⟨o,A,l,c,s,c1,c2,c3,c4⟩:=p.nodes i n hi
  exact⟨o,A,l,c,b s,b c1,b c2,b c3,b c4⟩
 ·rw[k.block kf (by have:=p.hB;omega) (by simp)];exact p.fd.blk
theorem qY {i:Nat} (h:(i:Int)≠node):seen ns node (i+1)=seen ns node i:=by
 unfold seen
 by_cases b:0≤node∧node<(i:Int)
 ·rw[if_pos b,if_pos (by omega)]
 ·rw[if_neg b,if_neg (by omega)]
theorem qZ {i:Nat} (h:(i:Int)=node) {xs:List Nd} {st:List (List Nd)} (hs:Yd ns i=xs::st):seen ns node (i+1)=xs:=by
 unfold seen
 subst h
 rw[if_pos (by omega),Int.toNat_natCast,hs];rfl
theorem Abg {w:World} {fx fv:Value} {xs:List Nd} {st:List (List Nd)} {i:Nat} (p:Pre B kf of csF tyF frF kb ko kn on node ns w fx xs i fv) (hs:Yd ns i=xs::st) (v:xs.length≤1000000000)
  (y:of<csF.size) (s:frF.1=frF.2∨csF.size≤frF.1) (hkB:kf<B) (z:kb≠kf) (hbB:kb<B) (hn:kn≠kf) :
  Calls Tryz.prog 56 #[.int .i64 i,fx,.pointer (some ⟨kn,on,none⟩),.pointer (some ⟨kf,of,none⟩)] w fun e w'=>e=.returned (.tuple #[])∧Fr kf none w w' ∧
   ∃ b,Pre B kf of csF tyF frF kb ko kn on node ns w' fx xs (i+1) b∧(b=fv∧(0≤node∧node<((i+1:Nat):Int)→0≤node∧node<(i:Int))∨∀ k,b.ownBlock=some k→w.heap.size≤k):=by
 by_cases h:(i:Int)=node
 ·rw[h]
  refine(wA kn on xs.length _ node fx fv _ _ w p.nd p.row p.hB v (Aff xs) p.fd y s hkB).mono ?_
  rintro e w' ⟨rfl,b,q,hF,j⟩
  refine⟨rfl,hF,b,⟨Nat.le_trans p.hB hF.size,p.nodes.fr hF z (by simp),U5 hF p.nd hn (by simp),Abf hF p.row hkB (by simp),?_,fun _ k A e=>?_⟩,.inr j⟩
  ·rw[qZ h hs];exact⟨q.blk,fun _=>q.row trivial,fun _=>q.lt trivial⟩
  ·have:=j k A;have:=(p.row.lt k e).2;omega
 ·refine(tL kn on node i fx w p.nd h).mono ?_
  rintro e w' ⟨rfl,rfl⟩
  exact⟨rfl,Fr.refl ..,fv,⟨p.hB,p.nodes,p.nd,p.row,by rw[qY h];exact⟨p.fd.blk,fun u=>p.fd.row (by omega),fun u=>p.fd.lt (by omega)⟩,fun u=>p.ne (by omega)⟩,.inl ⟨rfl,by omega⟩⟩
end
end Go.Proofs.Bw
namespace Go.Proofs.Bw
open Go Go.RowKit
section
variable {B kf of:Nat} {csF:Array Value} {tyF:TypeId} {frF:Nat×Nat}
variable {kb ko cap kn on:Nat} {node:Int} {ns:List Nd}
theorem wB {w w':World} {B e size:Nat} {v v':Value} {n m:Nat} {xs ys:List Value} (h0:w.ownsRow B e size v n xs) (z:w.ownsRow B e size v' m (xs++ys)) (A:w'.ownsRow B e size v' m (xs++ys)) (j:v'.ownBlock=v.ownBlock) (k:n≤m):w'.ownsRow B e size v n xs:=by
 refine⟨h0.1,?_⟩
 rcases h0.2 with hn | ⟨g,cap,cur,rfl,C,D,F,G,hs,Y⟩
 ·exact .inl hn
 ·rcases z.2 with⟨rfl,_⟩ | ⟨I,cap1,cur1,rfl,K,b,L,M,q,O⟩
  ·simp[Value.ownBlock] at j
  ·rcases A.2 with⟨S,_⟩ | ⟨g2,cap2,cur2,T,U,s,V,X,u,y⟩
   ·cases S
   ·cases T
    simp only[Value.ownBlock,Option.some.injEq] at j
    subst j
    rw[D] at b
    simp only[Option.some.injEq,Obj.cells.injEq,and_true] at b
    subst b
    refine .inr ⟨I,cap,cur2,rfl,C,s,F,G,by rw[u,←q,hs],?_⟩
    have:cur2.toList.take (n*size)=(cur2.toList.take (m*size)).take (n*size):=by rw[List.take_take,Nat.min_eq_left (Nat.mul_le_mul_right _ k)]
    rw[this,y,←h0.1,List.take_left]
def kids (xs:List Nd) (nd:Nd) (st:List (List Nd)):Nat→List (List Nd)
 | 0=>(xs++[(nd.2.1,nd.2.2,0)])::(xs++[(nd.2.1,nd.2.2,1)])::(xs++[(nd.2.1,nd.2.2,2)])::st
 | 1=>(xs++[(nd.2.1,nd.2.2,1)])::(xs++[(nd.2.1,nd.2.2,2)])::st
 | 2=>(xs++[(nd.2.1,nd.2.2,2)])::st
 | _=>st
theorem oT (xs:List Nd) (nd:Nd) (st:List (List Nd)):∀ k,k<3→kids xs nd st k=(xs++[(nd.2.1,nd.2.2,(k:Int))])::kids xs nd st (k+1)
 | 0,_=>rfl
 | 1,_=>rfl
 | 2,_=>rfl
 | k+3,h=>by omega
theorem q_:∀ (k i:Nat),ns.length=i+k→Yd ns ns.length=[]→∀ p st,Yd ns i=p::st→i<ns.length
 | 0,i,h,h0,p,st,hs=>by rw[h,Nat.add_zero,hs] at h0;cases h0
 | k+1,i,h,_,_,_,_=>by omega
theorem cZ {w w':World} {o:Obj} {x:Option Nat} (h:(w.alloc o).grownBy w' x):w.grownBy w' x :=
 ⟨h.os,h.tape,h.output,by have:=h.size;simp at this;omega,fun k b e=>(h.block k (by simp;omega) e).trans (JU w o b)⟩
theorem zH {w w':World} {fx v' fv:Value} {xs:List Nd} {f:Nd} {i:Nat} {o:Obj} (p:Pre B kf of csF tyF frF kb ko kn on node ns w fx xs i fv) (hkB:kf<B) (z:kb≠kf) (hbB:kb<B) (hn:kn≠kf) (hnB:kn<B)
  (u:w'.ownsRow B 63 3 v' (xs.length+1) (xs.flatMap fC++fC f)) (C:(w.alloc o).grownBy w' fx.ownBlock) (y:v'.ownBlock=fx.ownBlock∨∃ k,v'.ownBlock=some k∧(w.alloc o).heap.size≤k) :
  Pre B kf of csF tyF frF kb ko kn on node ns w' v' (xs++[f]) i fv:=by
 have hG:=cZ C
 have j:∀ b,b<B→some b≠fx.ownBlock:=fun b z e=>by have:=(p.row.lt b e.symm).1;omega
 have hF:Fr kf fx.ownBlock w w':=Fr.of_grown hG
 refine⟨Nat.le_trans p.hB hG.size,p.nodes.fr hF z (j _ hbB),U5 hF p.nd hn (j _ hnB),?_,⟨?_,fun s=>(p.fd.row s).kept hG ?_,fun s q hq=>Nat.lt_of_lt_of_le (p.fd.lt s q hq) hG.size⟩,fun s k A e=>?_⟩
 ·have e1:(xs++[f]).length=xs.length+1:=by simp
  have D:(xs++[f]).flatMap fC=xs.flatMap fC++fC f:=by simp
  rw[e1,D];exact u
 ·rw[hG.block kf (by have:=p.hB;omega) (j _ hkB)];exact p.fd.blk
 ·cases hq:fv.ownBlock with
  | none=>exact .inl rfl
  | some q=>exact .inr (fun e=>p.ne s q hq e.symm)
 ·rcases y with h | ⟨q,h,F⟩
  ·rw[h] at e;exact p.ne s k A e
  ·rw[h] at e;cases e
   have:=p.fd.lt s k A
   simp at F;omega
theorem Abh {w y w':World} {fx v' fv s:Value} {xs:List Nd} {f:Nd} {i j:Nat} {o:Obj} (p:Pre B kf of csF tyF frF kb ko kn on node ns w fx xs i fv) (hkB:kf<B)
  (u:y.ownsRow B 63 3 v' (xs.length+1) (xs.flatMap fC++fC f)) (b:y.ownsRow B 63 3 fx xs.length (xs.flatMap fC)) (I:(w.alloc o).grownBy y fx.ownBlock) (z:v'.ownBlock=fx.ownBlock∨∃ k,v'.ownBlock=some k∧(w.alloc o).heap.size≤k)
  (hF:Fr kf v'.ownBlock y w') (q:Pre B kf of csF tyF frF kb ko kn on node ns w' v' (xs++[f]) j s) (A:s=fv∧(0≤node∧node<(j:Int)→0≤node∧node<(i:Int))∨∀ k,s.ownBlock=some k→y.heap.size≤k) :
  Pre B kf of csF tyF frF kb ko kn on node ns w' fx xs j s∧Fr kf fx.ownBlock w w':=by
 have hG:=cZ I
 have hF2:Fr kf fx.ownBlock w w':=⟨hF.os.trans hG.os,hF.tape.trans hG.tape,hF.output.trans hG.output,Nat.le_trans hG.size hF.size,fun k F K G=>by
  rw[hF.block k (Nat.lt_of_lt_of_le F hG.size) K ?_,hG.block k F G]
  rcases z with h | ⟨r,h,D⟩
  ·rw[h];exact G
  ·rw[h];simp at D;simp;omega⟩
 refine⟨⟨q.hB,q.nodes,q.nd,?_,q.fd,fun L k C e=>?_⟩,hF2⟩
 ·rcases z with h | ⟨r,h,D⟩
  ·refine wB b u ?_ h (Nat.le_succ _)
   have:=q.row
   have e1:(xs++[f]).length=xs.length+1:=by simp
   have M:(xs++[f]).flatMap fC=xs.flatMap fC++fC f:=by simp
   rw[e1,M] at this;exact this
  ·exact Abf hF b hkB (fun k C e=>by rw[h] at e;cases e;have:=(p.row.lt _ C).2;simp at D;omega)
 ·rcases A with⟨h,hi⟩ | h
  ·subst h;exact p.ne (hi L) k C e
  ·have:=h k C;have:=(p.row.lt k e).2;have:=hG.size;omega
set_option maxRecDepth 100000 in
set_option maxHeartbeats 4000000 in
theorem Ade (hcap:ns.length≤cap) (hlen:ns.length≤1000000) (ho:of<csF.size) (hfr:frF.1=frF.2∨csF.size≤frF.1) (hkB:kf<B) (hb:kb≠kf) (hbB:kb<B) (hn:kn≠kf) (hnB:kn<B) (y:Yd ns ns.length=[]) :
  ∀ (d i:Nat) (fx fv:Value) (xs:List Nd) (st:List (List Nd)) (w:World),ns.length - i≤d→i≤ns.length→Yd ns i=xs::st→xs.length≤i→Pre B kf of csF tyF frF kb ko kn on node ns w fx xs i fv →
  Calls Tryz.prog 55 #[.slice (some ⟨kb,ko,none⟩) ns.length cap,.int .i64 i,fx,.func (.func 56) #[] #[.pointer (some ⟨kn,on,none⟩),.pointer (some ⟨kf,of,none⟩)]] w fun e w' =>
   ∃ j:Nat,e=.returned (.int .i64 j)∧i<j∧j≤ns.length∧Yd ns j=st∧Fr kf fx.ownBlock w w'∧∃ b,Pre B kf of csF tyF frF kb ko kn on node ns w' fx xs j b∧(b=fv∧(0≤node∧node<(j:Int)→0≤node∧node<(i:Int))∨∀ k,b.ownBlock=some k→w.heap.size≤k):=by
 intro d
 induction d with
 | zero =>
  intro i fx fv xs st w h1 h2 hs
  have:=q_ (ns.length - i) i (by omega) y xs st hs
  omega
 | succ d ih =>
  intro i fx fv xs st w h1 h2 hs hxi p
  have hlt:=q_ (ns.length - i) i (by omega) y xs st hs
  obtain⟨nd,hi⟩:∃ nd,ns[i]?=some nd:=⟨_,List.getElem?_eq_getElem hlt⟩
  have s:=UI hi
  rw[hs] at s
  have I:=Abg p hs (by omega) ho hfr hkB hb hbB hn
  have G:=p.row
  clear p
  obtain⟨i0,h63,hz0,hz1,hz2⟩:=info_parts Abd
  by_cases T:nd.1=0
  ·obtain⟨kd,un,hr⟩:=nd
   simp only at T
   subst T
   have s:Yd ns (i+1)=kids xs (0,un,hr) st 0:=by rw[s];simp[Ok,kids]
   have hshape:∃ A n c,fx=.slice A n c:=by
    rcases G.2 with⟨rfl,_⟩ | ⟨g,cap,cur,rfl,_⟩
    ·exact⟨_,_,_,rfl⟩
    ·exact⟨_,_,_,rfl⟩
   clear G
   go_enter Tryz.func55,Tryz.ntmps55
   go_wp2_with (first
    | (go_at_call 56;refine I.mono ?_;rintro e u ⟨rfl,hF,b,K,z⟩;obtain⟨o,A,l,c,c0,c1,c2,c3,c4⟩:=K.nodes i _ hi)
    | go_in)
   generalize F:u.alloc (Obj.cells #[Value.int IntKind.i64 0,Value.int IntKind.i64 un,Value.int IntKind.i64 hr,Value.int IntKind.i64 o,Value.slice A l c] 55)=U
   have hK2:vw u U:=by rw[←F];exact World.grownBy_alloc u _ none
   have hn1:U.cell? ⟨u.heap.size,1,none⟩=some (.int .i64 un):=by rw[←F];unfold World.cell?;rw[heap_alloc_new];rfl
   have hn2:U.cell? ⟨u.heap.size,2,none⟩=some (.int .i64 hr):=by rw[←F];unfold World.cell?;rw[heap_alloc_new];rfl
   have hp2:=K.kept hK2 hkB
   have hF2:Fr kf fx.ownBlock w U:=(hF.mono (by simp)).trans (Fr.of_kept hK2)
   have V:fx.ownBlock≠some u.heap.size:=fun e=>by have:=(K.row.lt _ e).2;omega
   have X:u.heap.size≠kf:=by have:=K.hB;omega
   generalize hbn:u.heap.size=bn at *
   clear F hK2 I
   go_loopw [1,26] (fun v1 v26 wr=>∃ (k j:Nat),v1=.int .i64 j∧v26=.int .i64 k∧k≤3∧i<j∧j≤ns.length∧Yd ns j=kids xs (0,un,hr) st k∧Fr kf fx.ownBlock U wr∧∃ fr,Pre B kf of csF tyF frF kb ko kn on node ns wr fx xs j fr∧(fr=b∧(0≤node∧node<(j:Int)→0≤node∧node<((i+1:Nat):Int))∨∀ q,fr.ownBlock=some q→w.heap.size≤q))
    (fun _ v26 _=>3 - (intOf v26).toNat)
   case atStart=>exact⟨0,i+1,by simp,rfl,by omega,by omega,by omega,s,Fr.refl ..,b,hp2,.inl ⟨rfl,fun h=>h⟩⟩
   case round =>
    obtain⟨k,j,rfl,rfl,hk3,hij,Y,L,hFr,fr,C,hfn⟩:=hrel
    rcases Nat.lt_or_ge k 3 with T | T
    ·have q1:wr.cell? ⟨bn,1,none⟩=some (.int .i64 un):=U5 hFr hn1 X (fun e=>V e.symm)
     have q2:wr.cell? ⟨bn,2,none⟩=some (.int .i64 hr):=U5 hFr hn2 X (fun e=>V e.symm)
     have hks:=oT xs (0,un,hr) st k T
     go_wp2_with (first
      | (at_builtin;refine RF _ rfl _ _ 59 rfl B 63 i0 _ 3 24 Tryz.underlying59 h63 hz0 hz1 hz2 rfl (by decide) fx xs.length (xs.flatMap fC) rfl (C.row.alloc _) ⟨wr.heap.size,0,none⟩ 1 1 [.int .i64 un,.int .i64 hr,.int .i64 k] rfl rfl ?c1 ?c2 (by decide) ?c3 ?c4 ?c5 ?_)
      | go_in)
     case c2=>exact⟨rfl,rfl,rfl⟩
     case c3=>simp only[maxLen];omega
     case c4=>omega
     case c5=>have:=C.hB;omega
     ·intro v' w4 D M O hbl
      have hpc:=zH (f:=(un,hr,(k:Int))) C hkB hb hbB hn hnB D O (by simpa using hbl)
      have hjlt:=q_ (ns.length - j) j (by omega) y _ _ (L.trans hks)
      have hrec:=ih j v' fr (xs++[(un,hr,(k:Int))]) (kids xs (0,un,hr) st (k+1)) w4 (by omega) Y (L.trans hks) (by simp;omega) hpc
      go_wp2_with (first
       | (go_at_call 55;refine hrec.mono ?_;rintro e w5 ⟨j',rfl,hj1,hj2,hj3,hF5,fr',hp5,hn5⟩)
       | go_in)
      go_roundw
      case rel =>
       obtain⟨hpb,hFb⟩:=Abh (f:=(un,hr,(k:Int))) C hkB D M O (by simpa using hbl) hF5 hp5 hn5
       refine⟨k+1,j',rfl,by simp,by omega,by omega,hj2,hj3,hFr.trans hFb,fr',hpb,?_⟩
       rcases hn5 with⟨h,hi5⟩ | h
       ·subst h
        rcases hfn with⟨h,S⟩ | h
        ·exact .inl ⟨h,fun I=>S (hi5 I)⟩
        ·exact .inr h
       ·exact .inr fun q hq=>by have:=h q hq;have:=O.size;have:=hFr.size;have:=hF2.size;simp at *;omega
      case measure=>simp[intOf];omega
    ·obtain rfl:k=3:=by omega
     go_wp2
     go_ret
     refine⟨j,by simp,hij,Y,L,hF2.trans hFr,fr,C,?_⟩
     rcases hfn with⟨h,S⟩ | h
     ·subst h
      rcases z with⟨h,hi7⟩ | h
      ·exact .inl ⟨h,fun I=>hi7 (S I)⟩
      ·exact .inr h
     ·exact .inr h
  ·have s:Yd ns (i+1)=st:=by rw[s];simp[Ok,T]
   go_enter Tryz.func55,Tryz.ntmps55
   go_wp2_with (first
    | (go_at_call 56;refine I.mono ?_;rintro e u ⟨rfl,hF,b,K,z⟩;obtain⟨o,A,l,c,c0,c1,c2,c3,c4⟩:=K.nodes i nd hi)
    | go_in)
   go_ret
   have hK2:vw u (u.alloc (Obj.cells #[Value.int IntKind.i64 nd.fst,Value.int IntKind.i64 nd.snd.fst,Value.int IntKind.i64 nd.snd.snd,Value.int IntKind.i64 o,Value.slice A l c] 55)):=World.grownBy_alloc u _ none
   exact⟨i+1,by simp,by omega,by omega,s,(hF.mono (by simp)).trans (Fr.of_kept hK2),b,K.kept hK2 hkB,z⟩
end
end Go.Proofs.Bw
namespace Gx
open Go Go.Proofs Go.Proofs.Bw
def tM:Nat→LA→Option (List Nd)
 | 0,_=>some []
 | n+1,.int .i64 k::.int .i64 u::.int .i64 h::.int .i64 _::y::r=>(rj 4 y).bind fun _=>(tM n r).bind fun l=>some ((k,u,h)::l)
 | _+1,_=>none
def Ei:Nat→List Nd→Bool
 | 0,[]=>true
 | 0,_::_=>false
 | _+1,[]=>false
 | o+1,n::l=>Ei (o+cond (n.1==0) 3 0) l
def fA (f:Nd):LA:=[.int .i64 f.1,.int .i64 f.2.1,.int .i64 f.2.2]
theorem ix:∀ (l:List Nd) (s:List (List Nd)),Ei s.length l=true→l.foldl Ok s=[]∧∀ i,i<l.length→(l.take i).foldl Ok s≠[]
 | [],[],_=>⟨rfl,fun i h=>by simp at h⟩
 | [],_::_,h=>by simp[Ei] at h
 | _::_,[],h=>by simp[Ei] at h
 | n::l,p::s,h=>by
  rw[Ak8,Ei] at h
  have e:(Ok (p::s) n).length=s.length+cond (n.1==0) 3 0:=by
   unfold Ok
   by_cases h0:n.1=0
   ·simp[h0]
   ·have b:(n.1==0)=false:=by simp[h0]
    rw[b];simp[h0]
  rw[←e] at h
  obtain⟨j,k⟩:=ix l _ h
  refine⟨j,fun i hi=>?_⟩
  cases i with
  | zero=>simp
  | succ i=>exact k i (by simpa using hi)
noncomputable section
variable {R:Type} (N:Nat)
def JV (_N:Nat) (c:LA) (n:Nat) (t o:Bool) (a node:Int) (m:Nat) (L:LA) (r0:Int→Int→Nat→LA→LA→O R):O R :=
 match tM n c with
 | some ns=>cond (Ei 1 ns&&(ble n 1000000&&(decide (a=0)&&(beq m 0&&(decide (0≤node)&&decide (node<(n:Int))))))) (r0 n node (seen ns node n).length L ((seen ns node n).flatMap fA)) none
 | none=>none
def qa:=(Ag (@JV R)).1
theorem Ye:@qa R=@JV R:=(Ag _).2
def BL (node:Int) (b m:Nat) (L:LA):Ap:=[(100000,bN 0 [.int .i64 node]),(100001,bN 0 [.own b 0 m]),(100002,bQ 3 L)]
def JW:LA→Ap→Option ((R:Type)→KF R→O R)
 | [.imm c n 5 t o,.int .i64 a,.nsl,.fn 56 [.optr 100000 0,.optr 100001 0]],[(100000,⟨false,false,false,false,0,[.int .i64 node],false,none⟩),(100001,⟨false,false,false,false,0,[.own 100002 0 m],false,none⟩),(100002,⟨false,false,true,false,3,L,false,none⟩)] =>
  some fun _ k=>qa N c n t o a node m L fun e nd m2 L2 c2=>k (iv e) (BL nd 300000 m2 L2++[(300000,bQ 3 c2)])
 | _,_=>none
end
theorem iy {J:Nat→Prop} {w:World}:∀ (n:Nat) (c:LA) (ns:List Nd) (a:Addr) (off:Nat),tM n c=some ns→a.spot=none→RepCs J w c (fun j=>w.cell? (a.add j)) off→NodesAt a.block (a.off+off) ns w∧ns.length=n
 | 0,c,ns,a,off,h,_,_=>by cases h;exact⟨fun i n hi=>by simp at hi,rfl⟩
 | n+1,c,ns,a,off,h,q,hr=>by
  unfold tM at h
  split at h
  ·cases ‹n+1=0›
  ·rename_i V k u hh o y r e
   cases e
   obtain⟨p,s,M⟩:=ub h
   obtain⟨l,O,S⟩:=ub M
   cases S
   have ad:∀ j,a.add j=⟨a.block,a.off+j,none⟩:=fun j=>by
    unfold Addr.add
    split
    ·subst_vars;cases a;simp at q;simp[q]
    ·rfl
   rw[RepCs,RepCs,RepCs,RepCs,RepCs] at hr
   obtain⟨⟨v0,v,z⟩,⟨v1,C,D⟩,⟨v2,F,G⟩,⟨v3,I,K⟩,⟨v4,L,b⟩,hr⟩:=hr
   simp only[RepC] at z D G K
   subst z D G K
   obtain⟨A,l4,c4,rfl⟩:∃ A l4 c4,v4=.slice A l4 c4:=by
    unfold rj at s
    split at s
    ·rw[RepC] at b;obtain⟨_,A,cap,rfl,_⟩:=b;exact⟨_,_,_,rfl⟩
    ·rw[RepC] at b;exact⟨_,_,_,b⟩
    ·cases s
   obtain⟨T,U⟩:=iy n r l a (off+5) O q hr
   refine⟨fun i nd hi=>?_,by simp[U]⟩
   cases i with
   | zero =>
    simp at hi;subst hi
    rw[ad] at v C F I L
    exact⟨o,A,l4,c4,by simpa using v,by simpa[Alv] using C,by simpa[Alv] using F,by simpa[Alv] using I,by simpa[Alv] using L⟩
   | succ i =>
    have:=T i nd (by simpa using hi)
    have e:a.off+off+(i+1)*5=a.off+(off+5)+i*5:=by omega
    rw[e];exact this
  ·cases h
theorem tN {w:World} {k j:Nat} {cs:Array Value} {ty:TypeId} {fr:Nat×Nat} (h:w.heap[k]?=some (.cells cs ty fr)):w.cell? ⟨k,j,none⟩=cs[j]?:=by simp[World.cell?,h]
theorem Abi {J:Nat→Prop} {w:World}:∀ (l:List Nd) (cs:Nat→Option Value) (i:Nat),(∀ j u,(l.flatMap fC)[j]?=some u→cs (i+j)=some u)→RepCs J w (l.flatMap fA) cs i
 | [],_,_,_=>trivial
 | f::l,cs,i,h=>by
  have h0:=h 0 (.int .i64 f.1) (by simp[fC])
  have b:=h 1 (.int .i64 f.2.1) (by simp[fC])
  have e:=h 2 (.int .i64 f.2.2) (by simp[fC])
  show RepCs J w (.int .i64 f.1::.int .i64 f.2.1::.int .i64 f.2.2::l.flatMap fA) cs i
  rw[RepCs,RepCs,RepCs]
  refine⟨⟨_,h0,by rw[RepC]⟩,⟨_,b,by rw[RepC]⟩,⟨_,e,by rw[RepC]⟩,?_⟩
  exact Abi l cs (i+3) fun j u k=>by
   have:=h (j+3) u (by simpa[fC] using k)
   rw[show i+3+j=i+(j+3) by omega];exact this
theorem wC (l:List Nd):(l.flatMap fA).length=l.length*3:=by induction l with
 | nil=>rfl
 | cons f l b=>simp[fA] at b ⊢;omega
set_option maxRecDepth 100000 in
theorem Abj {c:LA} {n:Nat} {t o:Bool} {node:Int} {L:LA} {ns:List Nd} (hd:tM n c=some ns) (ht:Ei 1 ns=true) (hn:n≤1000000) (h0:0≤node) (h1:node<(n:Int)) :
  ri Tryz.prog 55 [.imm c n 5 t o,.int .i64 0,.nsl,.fn 56 [.optr 100000 0,.optr 100001 0]] (BL node 100002 0 L) (iv n) (BL node 300000 (seen ns node n).length L++[(300000,bQ 3 ((seen ns node n).flatMap fA))]):=by
 intro J β w vs S hr
 obtain⟨hs1,hs2⟩:=ix ns [[]] ht
 rw[Reps] at hr
 obtain⟨v0,us,rfl,r0,hr⟩:=hr
 rw[Reps] at hr
 obtain⟨v1,us,rfl,r1,hr⟩:=hr
 rw[Reps] at hr
 obtain⟨v2,us,rfl,r2,hr⟩:=hr
 obtain⟨v3,rfl,r3⟩:=TG hr
 simp only[Rep] at r1 r2
 subst r1 r2
 rw[Rep] at r3
 obtain⟨caps,rfl,hc⟩:=r3
 obtain⟨p1,p2,rfl,c1,c2⟩:=iN hc
 rw[Rep] at c1 c2
 obtain⟨x1,kn,on,⟨g1,_⟩,rfl,b1⟩:=c1
 obtain⟨x2,kf,off,⟨g2,_⟩,rfl,T⟩:=c2
 have G0:Ai (BL node 100002 0 L) 100000=some (bN 0 [.int .i64 node]):=rfl
 have G1:Ai (BL node 100002 0 L) 100001=some (bN 0 [.own 100002 0 0]):=rfl
 rw[G0] at g1;rw[G1] at g2
 cases g1;cases g2
 have b1:β 100000=some (kn,on):=b1.elim (fun h=>nomatch h) id
 have T:β 100001=some (kf,off):=T.elim (fun h=>nomatch h) id
 have hne:kn≠kf:=fun e=>by subst e;have:=S.sep 100000 100001 _ _ kn on off G0 G1 rfl rfl rfl b1 T;omega
 obtain⟨k1,o1,cs1,ty1,fr1,e1,hb1,_,hl1,hc1,_⟩:∃ k o cs ty fr,β 100000=some (k,o)∧w.heap[k]?=some (.cells cs ty fr)∧FrTy none ty o cs.size fr∧o+1≤cs.size∧CellsRep J β (BL node 100002 0 L) w (bN 0 [.int .i64 node]) (fun j=>cs[o+j]?)∧True:=by
  rcases S.blk _ _ G0 rfl rfl with⟨h,_⟩ | ⟨k,o,cs,ty,fr,h1,h2,h3,h4,h5,_⟩
  ·rw[b1] at h;cases h
  ·exact⟨k,o,cs,ty,fr,h1,h2,h3,h4,h5,trivial⟩
 rw[b1] at e1;cases e1
 obtain⟨u1,hu1,hu2,_⟩:=hc1.2 rfl 0 _ rfl
 rw[Rep] at hu2;subst hu2
 have hnd:w.cell? ⟨kn,on,none⟩=some (.int .i64 node):=by rw[tN hb1];simpa using hu1
 obtain⟨k2,o2,csF,tyF,frF,e2,G,hfr,hl2,hc2,hnJ⟩:∃ k o cs ty fr,β 100001=some (k,o)∧w.heap[k]?=some (.cells cs ty fr)∧FrTy none ty o cs.size fr∧o+1≤cs.size∧CellsRep J β (BL node 100002 0 L) w (bN 0 [.own 100002 0 0]) (fun j=>cs[o+j]?)∧∀ g,¬ J g k:=by
  rcases S.blk _ _ G1 rfl rfl with⟨h,_⟩ | ⟨k,o,cs,ty,fr,h1,h2,h3,h4,h5,h6,_⟩
  ·rw[T] at h;cases h
  ·exact⟨k,o,cs,ty,fr,h1,h2,h3,h4,h5,h6 rfl⟩
 rw[T] at e2;cases e2
 obtain⟨fv0,hv0,_,_⟩:=hc2.2 rfl 0 _ rfl
 simp only[Alt] at hv0
 have hkf:=Pa G
 have hkn:=Pa hb1
 rw[Rep,RepC] at r0
 obtain⟨hcl,A,cap,rfl,hcap,_,hA⟩:=r0
 rcases hA with rfl | ⟨a,rfl,hJ,U⟩
 ·cases hd;simp[Ei] at ht
 have K:a.block≠kf:=fun e=>by subst e;exact hnJ _ hJ
 have s:a.spot=none:=by
  cases c with
  | nil =>
   cases n with
   | zero=>cases hd;simp[Ei] at ht
   | succ n=>simp at hcl
  | cons x r =>
   rw[RepCs] at U
   obtain⟨⟨u,Y,_⟩,_⟩:=U
   have e:a.add 0=a:=by simp[Addr.add]
   rw[e] at Y
   unfold World.cell? at Y
   split at Y
   ·split at Y
    ·cases Y
    ·rename_i h;simpa using h
   ·cases Y
 obtain⟨hN,rfl⟩:=iy n c ns a 0 hd s U
 have hJlt:=S.jlt _ _ hJ
 obtain⟨kb,ko,sp⟩:=a
 simp only at s hJ K hN hJlt
 subst s
 rw[Alt] at hN
 have hset:csF.setIfInBounds off fv0=csF:=by
  apply Apf;intro i
  rw[Amn]
  by_cases hi:off=i
  ·subst hi;simp[hv0];omega
  ·simp[hi]
 have hend:Yd ns ns.length=[]:=by unfold Yd;rw[Amt];exact hs1
 have pre:Pre w.heap.size kf off csF tyF frF kb ko kn on node ns w (.slice none 0 0) [] 0 fv0 :=
  ⟨Akw _,hN,hnd,World.ownsRow_nil _ _ _ _,⟨by rw[hset];exact G,fun h=>by omega,fun h=>by omega⟩,fun h=>by omega⟩
 refine(Ade hcap hn (by omega) hfr.1 hkf K hJlt hne hkn hend ns.length 0 (.slice none 0 0) fv0 [] [] w (by omega) (by omega) rfl (by simp) pre).mono ?_
 rintro e w' ⟨j,rfl,hj1,hj2,hj3,hF,z,hp,_⟩
 obtain rfl:j=ns.length:=by
  rcases An7 j ns.length with h | h
  ·exact absurd hj3 (hs2 j h)
  ·omega
 have hrow:=hp.fd.row ⟨h0,h1⟩
 have M:=hp.fd.blk
 have hsz:kf<w'.heap.size:=Ame hkf hF.size
 obtain⟨y,D⟩:∃ y:World,y={ w' with heap:=w'.heap.setIfInBounds kf (.cells csF tyF frF) }:=⟨_,rfl⟩
 have k1:y.heap[kf]?=some (.cells csF tyF frF):=by rw[D];simp[hsz]
 have k2:∀ k,k≠kf→y.heap[k]?=w'.heap[k]?:=fun k hk=>by rw[D];simp[Amn,Ne.symm hk]
 have k3:y.heap.size=w'.heap.size:=by rw[D];simp
 have I:y.os=w'.os∧y.tape=w'.tape∧y.output=w'.output:=by rw[D];exact⟨rfl,rfl,rfl⟩
 clear D
 have kold:∀ k,k<w.heap.size→y.heap[k]?=w.heap[k]?:=fun k hk=>by
  by_cases e:k=kf
  ·subst e;rw[k1,G]
  ·rw[k2 k e];exact hF.block k hk e (by simp[Value.ownBlock])
 have O:OnlyBlk y w' kf csF (csF.setIfInBounds off z) tyF frF:=⟨k1,M,by simp,fun q hq=>(k2 q hq).symm,k3.symm,I.1.symm,I.2.1.symm,I.2.2.symm⟩
 generalize hp0:seen ns node ns.length=p at *
 have F:Ai (BL node 100002 0 L) 300000=none:=rfl
 obtain⟨β1,A,hβ1,hrep,hone⟩:∃ β1,Step J β (BL node 100002 0 L) w J β1 (Dp (BL node 100002 0 L) 300000 (bQ 3 (p.flatMap fA))) y∧β1 100001=some (kf,off) ∧
   Rep J β1 (Dp (BL node 100002 0 L) 300000 (bQ 3 (p.flatMap fA))) y (.own 300000 0 p.length) z∧z.oneCell'=true:=by
  have hgx:Ai (Dp (BL node 100002 0 L) 300000 (bQ 3 (p.flatMap fA))) 300000=some (bQ 3 (p.flatMap fA)):=rfl
  rcases hrow.2 with⟨rfl,hl⟩ | ⟨g,cap',cur,rfl,hbg,hg,hnc,_,hcs,V⟩
  ·have hp1:p=[]:=Amj hl
   subst hp1
   have A1:=Step.junk S (w':=y) (I.1.trans hF.os) (I.2.1.trans hF.tape) (I.2.2.trans hF.output) (by rw[k3];exact hF.size) kold
   have A2:=Step.newNone A1.sim (d:=300000) (x:=bQ 3 []) F rfl
   refine⟨_,A1.trans A2 (fun b k o hb=>A1.ext.size b k o hb),by simp[T],?_,rfl⟩
   rw[Rep]
   exact⟨_,none,0,⟨hgx,rfl⟩,rfl,Akw _,.inl rfl⟩
  ·have hgk:g≠kf:=by omega
   have A1:=Step.newAt S (w':=y) (d:=300000) (k0:=g) (x:=bQ 3 (p.flatMap fA)) (cs:=cur) (ty:=63) (fr:=(0,0)) F rfl rfl FrTy.un0
    (by show(p.flatMap fA).length≤_;rw[wC,hcs];exact Alg _ hnc) ((k2 g hgk).trans hg) hbg (I.1.trans hF.os) (I.2.1.trans hF.tape) (I.2.2.trans hF.output) (by rw[k3];exact hF.size) kold
    ⟨fun _=>Abi p _ 0 (fun q u hq=>by
     rw[←V,Al4] at hq
     split at hq
     ·simpa using hq
     ·cases hq),fun h=>(by cases h)⟩
   refine⟨_,A1,by simp[T],?_,rfl⟩
   rw[Rep]
   refine⟨_,_,cap',⟨hgx,rfl⟩,rfl,hnc,.inr ⟨g,0,rfl,.inr ⟨by simp,?_,?_⟩⟩⟩
   ·rw[Co ((k2 g hgk).trans hg),hcs];simp[bQ]
   ·show 0+p.length*3≤(p.flatMap fA).length;rw[wC];omega
 have X:(csF.setIfInBounds off z)[off+0]?=some z:=by rw[Alt,Amn,if_pos rfl,if_pos (by omega)]
 have B:=Step.set A.sim (d:=100001) (k:=kf) (o:=off) (x:=bN 0 [.own 100002 0 0]) (x':=bN 0 [.own 300000 0 p.length]) rfl rfl rfl hβ1 O rfl rfl rfl rfl
  ⟨fun h=>(by cases h),fun _ q c hq=>(by
   cases q with
   | zero =>
    simp[bN] at hq;subst hq
    exact⟨z,X,hrep,hone⟩
   | succ q=>simp[bN] at hq)⟩ rfl
 have hz:∀ k,At w k≤At w' k:=fun k=>by
  by_cases hk:k<w.heap.size
  ·by_cases e:k=kf
   ·subst e;rw[Co G,Co M];simp
   ·have:=hF.block k hk e (by simp[Value.ownBlock]);simp[At,this]
  ·simp[At,Alk (Amh hk)]
 have C:=A.trans B (fun b k o _=>hz k)
 refine⟨_,J,β1,rfl,⟨C.sim,C.os,C.tape,C.output,C.size,C.frame,C.wr,C.ext.jsub,C.jup,hz,fun b x0 x hx0 v hdd=>?_,fun b x v=>?_⟩,by rw[iv,Rep]⟩
 ·obtain⟨x',⟨hx',hm'⟩,hr'⟩:=C.ext.blk b x0 hx0
  have e:x'=x:=by
   have:some x'=some x:=hx'.symm.trans v
   exact Option.some.inj this
  subst e
  rcases hr' with h | ⟨h3,h4,h5,h6⟩
  ·rw[hdd] at h;cases h
  ·exact⟨⟨h4,hm'⟩,h5,h6,h3⟩
 ·simp only[BL,Alh,Al1,Ai] at v
  cases q0:beq 100000 b<;>rw[q0] at v<;>simp only[cond_true,cond_false,Alx] at v
  ·cases q1:beq 100001 b<;>rw[q1] at v<;>simp only[cond_true,cond_false,Alx] at v
   ·cases q2:beq 100002 b<;>rw[q2] at v<;>simp only[cond_true,cond_false,Alx] at v
    ·cases q3:beq 300000 b<;>rw[q3] at v<;>simp only[cond_true,cond_false,Alx,reduceCtorEq] at v
     subst v;rfl
    ·subst v;rfl
   ·subst v;rfl
  ·subst v;rfl
theorem Abk (N:Nat) (a:LA) (h:Ap) (g) (b:AV) (h':Ap) (e:JW N a h=some g) (hh:(g (AV×Ap) fun v h=>some (v,h))=some (b,h')):ri Tryz.prog 55 a h b h':=by
 unfold JW at e
 split at e
 ·rename_i c n t o a node m L
  cases e
  dsimp only at hh
  rw[Ye] at hh
  unfold JV at hh
  split at hh
  ·rename_i ns k
   obtain⟨j,q⟩:=uc hh
   simp only[Ak1,Aov,Aod,decide_eq_true_eq] at j
   obtain⟨s,hn,rfl,rfl,h0,u⟩:=j
   cases q
   exact Abj k s hn h0 u
  ·cases hh
 ·cases e
theorem Abl (N:Nat) (a:LA) (h:Ap) (g) (e:JW N a h=some g) (R:Type) (k:KF R):g R k=(g (AV×Ap) fun v h=>some (v,h)).bind fun p=>k p.1 p.2:=by
 unfold JW at e
 split at e
 ·cases e
  dsimp only
  rw[Ye,Ye];unfold JV
  split
  ·cases (Ei _ _&&_)<;>rfl
  ·rfl
 ·cases e
noncomputable def zI (N:Nat):Bd Tryz.prog:=⟨55,JW N,Abl N,Abk N⟩
end Gx
