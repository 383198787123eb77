/- A part of the proof: what it holds is said by each theorem. -/
import Derived.ProofKit
import Derived.OpenShut
import Derived.ChangeOld
import Derived.Below
import Derived.Lib.LaidTab
import Derived.JoinedOf
import Derived.Test.YtjmfofdghmlldaaGreatDoorCards
import Derived.Test.YtjmfofdghmlldaaGreatDoorTie
import Derived.Deep.DeepHandedRow
import Derived.Deep.DeepWitnessRowRef
import Derived.LaidMore
import Derived.Shelf.Vars
import Derived.SevenTiedAt
import Derived.IntWalk
import Derived.Test.YtjmfofdghmlldaaGreatDoorProg
import Derived.Test.YtjmfofdghmlldaaGreatDoorRows
import Derived.ChangeSame
import Derived.Lib.ItoaNum
import Derived.Shelf.Strings.Repeat
import Derived.Shelf.Strings.Split
import Derived.Shelf.Strings.Cut
import Derived.Shelf.Strconv.AtoiAll
import Derived.Shelf.Strconv.Itoa3
import Derived.Shelf.LaysM
import Derived.Shelf.LaysC
import Derived.Lib.RepeatB
import Derived.Test.YtjmfofdghmlldaaGreatDoorP0F
set_option linter.unusedVariables false
set_option linter.defProp false
set_option linter.unusedSimpArgs false
namespace Gx
open Go
theorem F5:∀ {l:List Nat} {b:Nat},E5 l b=true↔b ∈ l
  | [],b=>by simp[E5]
  | i::r,b=>by
    rw[E5]
    cases c:Nat.beq i b with
    | true=>have:=Nat.eq_of_beq_eq_true c;subst this;simp
    | false => have := Mo c; simp only [cond_false, List.mem_cons]; rw [F5]; constructor
               · exact fun h=>.inr h
               · rintro(h | h)
                 · exact absurd h.symm this
                 · exact h
theorem Kv:∀ {l:List Nat},Wr l=true→l.Nodup
 | [],_=>List.nodup_nil
 | i::r,h=>by
  rw[Wr] at h;simp at h
  refine List.nodup_cons.2 ⟨fun b=>?_,Kv h.2⟩
  rw[F5.2 b] at h;simp at h
theorem LX {g:Aw} {ids:List Nat}:∀ {l:List Nat},UB g ids l=true→∀ b ∈ l,∀ x,Di g b=some x→b ∈ ids
 | [],_,b,c,_,_=>by simp at c
 | i::r,h,b,c,x,f=>by
  rw[UB] at h;simp at h
  rcases List.mem_cons.1 c with e | c
  ·subst e
   rcases h.1 with d | d
   ·exact F5.1 d
   ·rw[f] at d;simp at d
  ·exact LX h.2 b c x f
theorem ik:∀ {l:List Nat},nG l=true→∀ b ∈ l,D6≤b→F4 b<100000
 | [],_,b,c,_=>by simp at c
 | i::r,h,b,c,d=>by
  rw[nG] at h;simp at h
  rcases List.mem_cons.1 c with e | c
  ·subst e
   have:Nat.ble D6 b=true:=by simpa using d
   rw[this] at h;simpa using h.1
  ·exact ik h.2 b c d
theorem N2 (g:Aw):∀ c:LA,(Fn g c).length=c.length
 | []=>rfl
 | x::r=>by rw[Fn,List.length_cons,List.length_cons,N2 g r]
section
variable {R:Type} {r:R} {Z:Start} {nt:Nat} {J J':Bool→Nat→Prop} {β β':Bf} {st:St} {h h':Ai} {a:Act} {w w':World} {ids:List Nat}
def G5 (g:Aw) (x:Blk):Blk:={ x with cells:=cond x.pure x.cells (Fn g x.cells) }
theorem ES {g:Aw}:∀ {ids:List Nat},(ids.map F4).Nodup→∀ c y,Ah (Ny g ids) c=some y→∃ b x,b ∈ ids∧F4 b=c∧Di g b=some x∧y=G5 g x
 | [],_,c,y,d=>by simp[Ny,Ah] at d
 | b::r,f,c,y,d=>by
  rw[List.map_cons,List.nodup_cons] at f
  rw[Ny] at d
  split at d
  ·rename_i x n
   rw[Ad] at d
   by_cases e:c=F4 b
   ·rw[if_pos e] at d;simp at d
    exact⟨b,x,by simp,e.symm,n,d.symm⟩
   ·rw[if_neg e] at d
    obtain⟨i,x',j,k,l,m⟩:=ES f.2 c y d
    exact⟨i,x',by simp[j],k,l,m⟩
  ·obtain⟨i,x',j,k,l,m⟩:=ES f.2 c y d
   exact⟨i,x',by simp[j],k,l,m⟩
theorem N3 {g:Aw}:∀ {ids:List Nat},(ids.map F4).Nodup→∀ b x,b ∈ ids→Di g b=some x→Ah (Ny g ids) (F4 b)=some (G5 g x)
 | [],_,b,x,d,_=>by simp at d
 | j::r,c,b,x,d,f=>by
  rw[List.map_cons,List.nodup_cons] at c
  rw[Ny]
  by_cases e:b=j
  ·subst e
   rw[f]
   simp only
   rw[Ad,if_pos rfl];rfl
  ·have i:b ∈ r:=by simpa[e] using d
   have ne:F4 b≠F4 j:=fun h=>c.1 (by rw[←h];exact List.mem_map.2 ⟨b,i,rfl⟩)
   split
   ·rw[Ad,if_neg ne];exact N3 c.2 b x i f
   ·exact N3 c.2 b x i f
def UR (ids:List Nat) (c:Nat):Option Nat:=ids.find? fun b=>Nat.beq (F4 b) c
theorem Gf (c:(ids.map F4).Nodup) {b:Nat} (d:b ∈ ids):UR ids (F4 b)=some b:=by
 induction ids with
 | nil=>simp at d
 | cons i r f =>
  rw[List.map_cons,List.nodup_cons] at c
  unfold UR at f ⊢
  rw[List.find?_cons]
  by_cases e:b=i
  ·subst e;simp
  ·have j:b ∈ r:=by simpa[e] using d
   have ne:F4 i≠F4 b:=fun h=>c.1 (by rw[h];exact List.mem_map.2 ⟨b,j,rfl⟩)
   rw[Wx ne];exact f c.2 j
def sF (g:Aw) (ids:List Nat) (l:List Nat):Prop:=∀ b ∈ l,∀ x,Di g b=some x→b ∈ ids
theorem ny {b:Nat}:Di (Ah h) b=(Ah h b).bind fun x=>cond x.dead none (some x):=rfl
theorem ET {b:Nat} {x y:Blk} (e:Ah h b=some x) (c:Di (Ah h) b=some y):y=x∧x.dead=false:=by
 rw[ny,e] at c
 cases d:x.dead with
 | true=>simp[d] at c
 | false=>simp[d] at c;exact⟨c.symm,rfl⟩
mutual
theorem Rep.clean (hn:(ids.map F4).Nodup):∀ {x:AV} {v:Value},sF (Ah h) ids (Dw x)→Rep J β h w x v →
  Rep J (fun c=>(UR ids c).bind β) (Ny (Ah h) ids) w (Nx (Ah h) x) v
 | .own b off n,v,hm,hr=>by
  rw[Rep] at hr
  obtain⟨x,A,cap,⟨hx,hmp⟩,h1,h2,h3⟩:=hr
  rw[Nx]
  cases hv:Di (Ah h) b with
  | none=>simp only;rw[Rep];trivial
  | some y =>
   obtain⟨rfl,hd⟩:=ET hx hv
   have hb:=hm b (by simp[Dw]) _ hv
   simp only
   rw[Rep]
   refine⟨G5 (Ah h) y,A,cap,⟨N3 hn b y hb hv,hmp⟩,h1,h2,?_⟩
   rcases h3 with h3 | ⟨k,o,h4,h5⟩
   ·exact .inl h3
   ·refine .inr ⟨k,o,h4,?_⟩
    rcases h5 with h5 | ⟨h5,h6,h7⟩
    ·simp[hd] at h5
    ·refine .inr ⟨by rw[Gf hn hb];exact h5,h6,?_⟩
     have:(G5 (Ah h) y).cells.length=y.cells.length:=by
      unfold G5;cases y.pure
      ·simp;exact N2 _ _
      ·rfl
     rw[this];exact h7
 | .optr b off,v,hm,hr=>by
  rw[Rep] at hr
  obtain⟨x,k,o,⟨hx,hmp⟩,h1,h2⟩:=hr
  rw[Nx]
  cases hv:Di (Ah h) b with
  | none=>simp only;rw[Rep];trivial
  | some y =>
   obtain⟨rfl,hd⟩:=ET hx hv
   have hb:=hm b (by simp[Dw]) _ hv
   simp only
   rw[Rep]
   refine⟨G5 (Ah h) y,k,o,⟨N3 hn b y hb hv,hmp⟩,h1,?_⟩
   rcases h2 with h2 | h2
   ·simp[hd] at h2
   ·exact .inr (by rw[Gf hn hb];exact h2)
 | .omap b,v,hm,hr=>by
  rw[Rep] at hr
  obtain⟨x,k,⟨hx,hmp⟩,h2⟩:=hr
  rw[Nx]
  cases hv:Di (Ah h) b with
  | none=>simp only;rw[Rep];trivial
  | some y =>
   obtain⟨rfl,hd⟩:=ET hx hv
   have hb:=hm b (by simp[Dw]) _ hv
   simp only
   rw[Rep]
   refine⟨G5 (Ah h) y,k,⟨N3 hn b y hb hv,hmp⟩,?_⟩
   rcases h2 with h2 | h2
   ·simp[hd] at h2
   ·exact .inr (by rw[Gf hn hb];exact h2)
 | .agg c,v,hm,hr=>by
  rw[Rep] at hr
  obtain⟨cs,h1,h2⟩:=hr
  rw[Nx,Rep]
  exact⟨cs,h1,Reps.clean hn (by simpa[Dw] using hm) h2⟩
 | .tup c,v,hm,hr=>by
  rw[Rep] at hr
  obtain⟨cs,h1,h2⟩:=hr
  rw[Nx,Rep]
  exact⟨cs,h1,Reps.clean hn (by simpa[Dw] using hm) h2⟩
 | .fn f c,v,hm,hr=>by
  rw[Rep] at hr
  obtain⟨cs,h1,h2⟩:=hr
  rw[Nx,Rep]
  exact⟨cs,h1,Reps.clean hn (by simpa[Dw] using hm) h2⟩
 | .pagg c o,v,hm,hr=>by show Rep J _ _ w (.pagg c o) v;rw[Rep] at hr ⊢;exact hr
 | .undef,v,hm,hr=>by show Rep J _ _ w (.undef) v;rw[Rep] at hr ⊢;exact hr
 | .imm c n sz t o,v,hm,hr=>by show Rep J _ _ w (.imm c n sz t o) v;rw[Rep] at hr ⊢;exact hr
 | .iptr c o,v,hm,hr=>by show Rep J _ _ w (.iptr c o) v;rw[Rep] at hr ⊢;exact hr
 | .int k n,v,hm,hr=>by show Rep J _ _ w (.int k n) v;rw[Rep] at hr ⊢;exact hr
 | .bool b,v,hm,hr=>by show Rep J _ _ w (.bool b) v;rw[Rep] at hr ⊢;exact hr
 | .str s,v,hm,hr=>by show Rep J _ _ w (.str s) v;rw[Rep] at hr ⊢;exact hr
 | .nsl,v,hm,hr=>by show Rep J _ _ w (.nsl) v;rw[Rep] at hr ⊢;exact hr
 | .nilptr,v,hm,hr=>by show Rep J _ _ w (.nilptr) v;rw[Rep] at hr ⊢;exact hr
 | .nilfn,v,hm,hr=>by show Rep J _ _ w (.nilfn) v;rw[Rep] at hr ⊢;exact hr
theorem Reps.clean (hn:(ids.map F4).Nodup):∀ {c:List AV} {cs:List Value},sF (Ah h) ids (Es c)→Reps J β h w c cs →
  Reps J (fun c=>(UR ids c).bind β) (Ny (Ah h) ids) w (Fn (Ah h) c) cs
 | [],cs,hm,hr=>by rw[Reps] at hr;rw[Fn,Reps];exact hr
 | x::r,cs,hm,hr=>by
  rw[Reps] at hr
  obtain⟨u,us,h1,h2,h3⟩:=hr
  rw[Fn,Reps]
  exact⟨u,us,h1,Rep.clean hn (fun b hb=>hm b (by simp[Es,hb])) h2,Reps.clean hn (fun b hb=>hm b (by simp[Es,hb])) h3⟩
end
theorem Pg {g:Aw} {K:List Nat}:∀ {s:Dv} {i:Nat},Dd (LO g K s) i=if E5 K i=true then Nx g (Dd s i) else .undef
 | [],i=>by
  simp only[LO,Dd]
  show AV.undef=if E5 K i=true then AV.undef else AV.undef
  split<;>rfl
 | (t,v)::r,i=>by
  rw[LO,Dd]
  cases c:E5 K t with
  | true =>
   simp only[cond_true,Dd]
   cases b:Nat.beq t i with
   | true =>
    have:=Nat.eq_of_beq_eq_true b;subst this
    simp[c]
   | false=>simp only[cond_false];exact Pg
  | false =>
   simp only[cond_false]
   rw[Pg]
   cases b:Nat.beq t i with
   | true =>
    have:=Nat.eq_of_beq_eq_true b;subst this
    simp[c]
   | false=>rfl
theorem US {K:List Nat}:∀ {s:Dv} {i:Nat},E5 K i=true→∀ b ∈ Dw (Dd s i),b ∈ UA K s
 | [],i,_,b,c=>by simp[Dd,Dw] at c
 | (t,v)::r,i,e,b,c=>by
  rw[Dd] at c
  rw[UA]
  cases d:Nat.beq t i with
  | true =>
   have:=Nat.eq_of_beq_eq_true d;subst this
   rw[d] at c
   rw[e];simp at c ⊢;exact .inl c
  | false =>
   rw[d] at c
   have:=US e b c
   cases E5 K t
   ·exact this
   ·simp;exact .inr this
theorem LY {g:Aw}:∀ {ids:List Nat} {b:Nat} {x:Blk},b ∈ ids→g b=some x→x.pure=false→∀ c ∈ Es x.cells,c ∈ F3 g ids
 | [],b,x,d,_,_,_,_=>by simp at d
 | i::r,b,x,d,f,j,c,k=>by
  rw[F3]
  by_cases e:b=i
  ·subst e;rw[f];simp only[j,cond_false];exact List.mem_append.2 (.inl k)
  ·exact List.mem_append.2 (.inr (LY (by simpa[e] using d) f j c k))
theorem LZ:∀ {c:LA} {j:Nat} {x:AV},c[j]?=some x→∀ b ∈ Dw x,b ∈ Es c
 | [],j,x,d,_,_=>by simp at d
 | y::r,j,x,d,b,e=>by
  rw[Es]
  cases j with
  | zero=>simp at d;subst d;exact List.mem_append.2 (.inl e)
  | succ j=>exact List.mem_append.2 (.inr (LZ (by simpa using d) b e))
theorem OJ {g:Aw}:∀ {c:LA} {j:Nat} {y:AV},(Fn g c)[j]?=some y→∃ x,c[j]?=some x∧y=Nx g x
 | [],j,y,b=>by simp[Fn] at b
 | x::r,j,y,b=>by
  rw[Fn] at b
  cases j with
  | zero=>simp at b;exact⟨x,by simp,b.symm⟩
  | succ j=>obtain⟨x',d,e⟩:=OJ (c:=r) (j:=j) (by simpa using b);exact⟨x',by simpa using d,e⟩
theorem nz {b:Nat} (c:b<D6):F4 b=b:=by
 unfold F4
 have:Nat.ble D6 b=false:=by
  cases h:Nat.ble D6 b with
  | false=>rfl
  | true=>have:=Nat.le_of_ble_eq_true h;omega
 rw[this];rfl
theorem il {K roots:List Nat} {st':St} (I:Inv Z nt J β st a w) (hh:clean K roots st=some st'):∃ β',Inv Z nt J β' st' a w:=by
 unfold clean at hh
 obtain⟨hc,h1⟩:_∧_:=uc hh
 simp only[Bool.and_eq_true] at hc
 obtain⟨c1,c2,c3,c4⟩:=hc
 generalize hids:Pd (Ah st.h) (Nw (Ah st.h) (UA K st.s++roots))=ids at *
 simp at h1
 have t:=Kv c1
 have blk:∀ c y,Ah (Ny (Ah st.h) ids) c=some y→∃ b x,b ∈ ids∧F4 b=c∧Ah st.h b=some x∧x.dead=false∧y=G5 (Ah st.h) x:=by
  intro c y m
  obtain⟨b,x,z,A,D,F⟩:=ES t c y m
  have e:Ah st.h b=some x∧x.dead=false:=Cl (fun _ _ h=>h) D
  exact⟨b,x,z,A,e.1,e.2,F⟩
 have n:∀ x:Blk,(G5 (Ah st.h) x).cells.length=x.cells.length:=fun x=>by
  unfold G5;cases x.pure
  ·simp;exact N2 _ _
  ·rfl
 refine⟨fun c=>(UR ids c).bind β,?_⟩
 subst h1
 refine⟨⟨I.sim.jlt,I.sim.jft,I.sim.gl,fun c y m T X=>?_,fun c y m T X=>by
   obtain⟨b,x,f,rfl,e,d,rfl⟩:=blk c y m
   obtain⟨z,A,k,ob,D,F,U,Y⟩:=I.sim.mblk b x e d X
   have:(G5 (Ah st.h) x).cells=x.cells:=by unfold G5;rw[z];rfl
   exact⟨z,A,k,ob,by simp only[Gf t f,Option.bind_some];exact D,F,by rw[ObjIs,show(G5 (Ah st.h) x).sz=x.sz from rfl,this];exact U,Y⟩,?_⟩,⟨fun i v hv=>?_,fun i hi=>?_⟩,I.tmps,I.defers,I.os,I.tape,I.output,I.size,I.frame,?_,I.jsub,I.jup,I.sizes,I.zlt,I.zge,?_⟩
 ·obtain⟨b,x,f,rfl,e,d,rfl⟩:=blk c y m
  rcases I.sim.blk b x e d X with⟨z,A⟩ | ⟨k,o,cs,ty,fr,z,A,D,F,U,Y,g7⟩
  ·refine .inl ⟨by simp only[Gf t f,Option.bind_some];exact z,?_⟩
   have:=n x;rw[A] at this;simpa using this
  ·refine .inr ⟨k,o,cs,ty,fr,by simp only[Gf t f,Option.bind_some];exact z,A,D,by rw[n];exact F,⟨fun hp=>?_,fun hp j q hj=>?_⟩,Y,g7⟩
   ·have l:x.pure=true:=hp
    have:(G5 (Ah st.h) x).cells=x.cells:=by unfold G5;rw[l];rfl
    rw[this];exact U.1 l
   ·have l:x.pure=false:=hp
    have:(G5 (Ah st.h) x).cells=Fn (Ah st.h) x.cells:=by unfold G5;rw[l];rfl
    rw[this] at hj
    obtain⟨q',hq,rfl⟩:=OJ hj
    obtain⟨u,hu,hr,ho⟩:=U.2 l j q' hq
    exact⟨u,hu,Rep.clean t (fun G B x' C=>LX c3 G (LY f e l G (LZ hq G B)) x' C) hr,ho⟩
 ·intro c c' y y' k o o' m hy' T hd' hs L M
  obtain⟨b,x,f,rfl,e,d,rfl⟩:=blk c y m
  obtain⟨G,x',B,rfl,C,O,rfl⟩:=blk c' y' hy'
  simp only[Gf t f,Option.bind_some] at L
  simp only[Gf t B,Option.bind_some] at M
  rw[I.sim.sep b G x x' k o o' e C d O hs L M]
 ·rw[Pg]
  split
  ·rename_i hk
   exact Rep.clean t (fun b f x e=>LX c2 b (US hk b f) x e) (I.ss.slot i v hv)
  ·rw[Rep];trivial
 ·rw[Pg,I.ss.out i hi]
  split
  ·rfl
  ·rfl
 ·rintro k ⟨c,y,o,m,T,hs,L⟩ hk
  obtain⟨b,x,f,rfl,e,d,rfl⟩:=blk c y m
  simp only[Gf t f,Option.bind_some] at L
  exact I.wr k ⟨b,x,o,e,d,hs,L⟩ hk
 ·intro c x0 y V m T
  obtain⟨b,x,f,rfl,e,d,rfl⟩:=blk c y m
  have hlt:=I.zlt _ _ V
  have hge:=I.zge _ _ V
  have S:F4 b=b:=by
   by_cases hnb:D6≤b
   ·have:=ik c4 b f hnb;omega
   ·exact nz (by omega)
  rw[S] at V
  obtain⟨⟨e1,em⟩,e2,e3,e4⟩:=I.outs b x0 x V e d
  refine⟨⟨?_,em⟩,e2,by rw[n];exact e3,e4⟩
  simp only[Gf t f,Option.bind_some];rw[S];exact e1
end
end Gx

namespace Gx
open Go
section
variable {R:Type}
theorem Ak {α β:Type} (b:Bool) (x y:Option α) (f:α→Option β):(cond b x y).bind f=cond b (x.bind f) (y.bind f):=by cases b<;>rfl
theorem Ts {R':Type} (P:Program) (t:TypeId) (c:LA) (o:Bool) (k:Bool→Option R') (f:R'→O R):(Mw P t c o k).bind f=Mw P t c o fun o=>(k o).bind f:=by
 unfold Mw;simp only[Ak,Option.bind_none]
theorem Kw (P:Program) (t:TypeId) (c:LA) (org:Bool) (k:AV→O R):Wm P t c org k=(Wm P t c org some).bind k:=by
 unfold Wm
 split<;>simp[Option.bind_assoc,Ak,Ts]<;>rfl
theorem lJ (P:Program) (t:TypeId) (c:LA) (k:AV→O R):N_ P t c k=(N_ P t c some).bind k:=by
 unfold N_
 split<;>simp[Option.bind_assoc,Ak]
theorem OK (n:Nat) (k:AV→O R):∀ (c:LA) (i:Nat),Tg n k c i=(Tg n some c i).bind k
 | [],_=>rfl
 | v::r,i=>by rw[Tg,Tg,Ak,OK n k r (i+1)];rfl
theorem OL (P:Program) (t:TypeId) (c:LA) (off:Nat) (k:AV→O R):Wn P t c off k=(Wn P t c off some).bind k:=by
 unfold Wn
 split
 ·simp[Option.bind_assoc,Ak]
 ·simp[Option.bind_assoc,Ak]
 ·exact OK ..
 ·rfl
theorem Tt (P:Program) (g:Aw) (t:TypeId) (p:AV) (k:AV→O R):TW P g t p k=(TW P g t p some).bind k:=by
 unfold TW
 split
 ·exact Kw ..
 ·rw[Option.bind_assoc]
  congr 1;funext x
  rw[Ak,←Kw,←OL]
 ·rfl
theorem Vg (P:Program) (t:TypeId) (x i:AV) (k:AV→O R):Kn P t x i k=(Kn P t x i some).bind k:=by
 unfold Kn
 split<;>simp[Option.bind_assoc,Ak]
theorem Vh (P:Program) (t:TypeId) (x:AV) (f:Nat) (k:AV→O R):Ko P t x f k=(Ko P t x f some).bind k:=by
 unfold Ko
 simp only[Option.bind_assoc,Ak]
 congr 1;funext p;congr 1;funext n;congr 1
 split<;>rfl
theorem OM (P:Program) (t:TypeId) (x:AV) (f:Nat) (k:AV→O R):LE P t x f k=(LE P t x f some).bind k:=by
 unfold LE
 rw[Option.bind_assoc]
 congr 1;funext p
 split
 ·exact Kw ..
 ·exact lJ ..
 ·rfl
theorem ON (P:Program) (t:TypeId) (x i:AV) (k:AV→O R):LF P t x i k=(LF P t x i some).bind k:=by
 unfold LF
 split
 ·simp[Ak]
 ·simp only[Option.bind_assoc,Ak,←Kw];rfl
 ·simp only[Option.bind_assoc,Ak,←OL];rfl
 ·rfl
theorem M0 {α:Type} (lo b mx:Option AV) (n:Nat) (f:Nat→Nat→α) (k:α→O R):(Mx lo b mx n fun l h=>k (f l h))=(Mx lo b mx n fun l h=>some (f l h)).bind k:=by
 unfold Mx
 simp[Option.bind_assoc,Ak]
theorem OO (P:Program) (g:Aw) (t:TypeId) (x:AV) (lo b mx:Option AV) (k:AV→O R):LG P g t x lo b mx k=(LG P g t x lo b mx some).bind k:=by
 unfold LG
 split
 ·rw[Ak,←M0];rfl
 ·rw[Option.bind_assoc];congr 1;funext _;exact M0 lo b mx 0 (fun _ _=>AV.nsl) k
 ·rw[Option.bind_assoc];congr 1;funext _;rw[Ak,←M0];rfl
 ·rw[Option.bind_assoc];congr 1;funext _;rw[Option.bind_assoc];congr 1;funext _;rw[Ak,←M0];rfl
 ·rfl
theorem oA (P:Program) (t:TypeId) (op:BinOp) (x y:AV) (k:AV→O R):ni P t op x y k=(ni P t op x y some).bind k:=by
 unfold ni
 split
 ·split<;>simp[Ak]
 ·split<;>simp[Ak]
 ·split<;>simp[Ak]
 ·rfl
def pr (v:AV) (u:Cy):Option (AV×Cy):=some (v,u)
theorem io (P:Program) (g:Aw) (t:TypeId) (p v:AV) (k:AV→Cy→O R):LH P g t p v k=(LH P g t p v pr).bind fun q=>k q.1 q.2:=by
 unfold LH
 split
 ·simp only[Option.bind_assoc,Ak]
  congr 1;funext x;congr 1;funext n;congr 1;congr 1
  split<;>simp[Ak,pr]
 ·rfl
theorem EU (P:Program) (c:LA) (org:Bool):∀ (L:List (Nat×TypeId)) (b:LA) (k:LA→O R),GK P c org L b k=(GK P c org L b some).bind k
 | [],b,k=>rfl
 | (off,t)::L,b,k=>by
  rw[GK,GK,Ak]
  congr 1
  rw[Kw,Kw (k:=fun v=>GK P c org L (b++[v]) some),Option.bind_assoc]
  congr 1;funext v
  exact EU P c org L _ k
theorem OP (P:Program) (co:Bool) (t:TypeId) (v:AV) (k:AV→O R):LJ P co t v k=(LJ P co t v some).bind k:=by
 unfold LJ
 split
 ·rename_i c org
  rw[EU,EU (k:=fun l=>cond (Nat.beq c.length l.length) (some (AV.agg l)) none),Option.bind_assoc]
  congr 1;funext l
  rw[Ak];rfl
 ·rfl
theorem d6 (P:Program) (g:Aw) (d:Nat) (t:TypeId) (v:AV) (k:AV→Cy→O R):iN P g d t v k=(iN P g d t v pr).bind fun q=>k q.1 q.2:=by
 unfold iN
 split<;>simp[Option.bind_assoc,Ak,pr]
theorem L_ (P:Program) (g:Aw) (d:Nat) (t:TypeId) (len:Nat) (ps:List (Nat×AV)) (k:AV→Cy→O R):I5 P g d t len ps k=(I5 P g d t len ps pr).bind fun q=>k q.1 q.2:=by
 unfold I5
 split<;>simp[Option.bind_assoc,Ak,pr,Rr]
theorem SQ (P:Program) (g:Aw) (d:Nat) (t:TypeId) (len:Nat) (ps:List (Nat×AV)) (k:AV→Cy→O R):Kp P g d t len ps k=(Kp P g d t len ps pr).bind fun q=>k q.1 q.2:=by
 unfold Kp
 split<;>simp[Option.bind_assoc,Ak,pr]
theorem oB (P:Program) (t:TypeId) (co:Bool) (d:Nat) (v:AV) (k:AV→Cy→O R):nk P t co d v k=(nk P t co d v pr).bind fun q=>k q.1 q.2:=by
 unfold nk
 split<;>simp[Ak,pr]
theorem lK (P:Program) (d:Nat) (t:TypeId) (l c:AV) (k:AV→Cy→O R):dO P d t l c k=(dO P d t l c pr).bind fun q=>k q.1 q.2:=by
 unfold dO
 split<;>simp[Option.bind_assoc,Ak,pr]
theorem fx (P:Program) (g:Aw) (d:Nat) (t tx:TypeId) (s x:AV) (k:AV→Cy→O R):Zo P g d t tx s x k=(Zo P g d t tx s x pr).bind fun q=>k q.1 q.2:=by
 unfold Zo EI
 split<;>simp[Option.bind_assoc,Ak,pr,Ts]
theorem lL (P:Program) (g:Aw) (t:TypeId) (s x:AV) (k:AV→Cy→O R):dP P g t s x k=(dP P g t s x pr).bind fun q=>k q.1 q.2:=by
 unfold dP EI
 split<;>simp[Option.bind_assoc,Ak,pr,Ts]
theorem lM (P:Program) (g:Aw) (d:Nat) (src dst:TypeId) (x:AV) (k:AV→Cy→O R):dQ P g d src dst x k=(dQ P g d src dst x pr).bind fun q=>k q.1 q.2:=by
 unfold dQ
 split
 ·split<;>simp[Ak,pr]
 ·split
  ·split<;>simp[pr]
  ·split
   ·split<;>simp[Option.bind_assoc,pr]
   ·rfl
  ·rfl
 ·split
  ·rw[Ak,Option.bind_assoc];simp only[Ak];rfl
  ·rfl
  ·rfl
 ·rfl
theorem ip (P:Program) (g:Aw) (d:Nat) (src dst:TypeId) (x:AV) (k:AV→Cy→O R):LK P g d src dst x k=(LK P g d src dst x pr).bind fun q=>k q.1 q.2:=by
 unfold LK
 split
 ·split
  ·simp only[Option.bind_assoc,Ak];rfl
  ·rfl
 ·split
  ·simp only[Option.bind_assoc,Ak];rfl
  ·rfl
 ·exact lM ..
theorem SR (g:Aw) (x:AV) (k:AV→Cy→O R):Kq g x k=(Kq g x pr).bind fun q=>k q.1 q.2:=by
 unfold Kq
 split
 ·rfl
 ·simp only[Option.bind_assoc,Ak];rfl
 ·rfl
theorem ST (P:Program) (g:Aw) (t:TypeId) (x n:AV) (k:AV→Cy→O R):Kr P g t x n k=(Kr P g t x n pr).bind fun q=>k q.1 q.2:=by
 unfold Kr
 split
 ·rw[Ak];rfl
 ·simp only[Option.bind_assoc]
  congr 1;funext y;congr 1;funext q
  split
  ·simp only[Option.bind_assoc,Ak];rfl
  ·rfl
 ·rfl
theorem EV {R':Type} {f:R'→O R} {s1:TypeId→LA→LA→(Bool→Option R')→Option R'} {s2:TypeId→LA→LA→(Bool→O R)→O R} (c:∀ t x y k,(s1 t x y k).bind f=s2 t x y fun b=>(k b).bind f) {x y:LA} :
  ∀ (l:List (Nat×TypeId)) (k:Bool→Option R'),(Ri s1 x y l k).bind f=Ri s2 x y l fun b=>(k b).bind f
 | [],k=>rfl
 | (o,t)::r,k=>by
  rw[Ri,Ri,c]
  congr 1;funext b
  exact EV c r _
theorem Zx {R':Type} {f:R'→O R} (P:Program):∀ (d:Nat) (t:TypeId) (x y:LA) (k:Bool→Option R'),(SO P d t x y k).bind f=SO P d t x y fun b=>(k b).bind f
 | 0,t,x,y,k=>rfl
 | d+1,t,x,y,k=>by
  rw[SO,SO]
  split<;>simp only[Option.bind_assoc,Ak,Option.bind_none]
  ·congr 1;funext sz;rw[EV (Zx P d)]
  ·congr 1;funext s;congr 1;funext sz;rw[EV (Zx P d)]
theorem lN (P:Program) (t:TypeId) (op:BinOp) (x y:AV) (k:AV→O R):dL P t op x y k=(dL P t op x y some).bind k:=by
 unfold dL
 split
 ·rw[Option.bind_assoc]
  congr 1;funext s
  rw[Ak]
  congr 1
  split
  ·rw[Zx];rfl
  ·rw[Zx];rfl
  ·rfl
 ·exact oA ..
theorem UT (P:Program) (g:Aw) (t:TypeId) (op:BinOp) (x y:AV) (k:AV→O R):dT P g t op x y k=(dT P g t op x y some).bind k:=by
 unfold dT
 split
 ·rw[Ak];congr 1;split<;>rfl
 ·exact lN ..
theorem UU (c x y:AV) (k:AV→O R):dV c x y k=(dV c x y some).bind k:=by
 unfold dV
 split<;>first | rfl | (rw[Ak];rfl)
theorem iq (P:Program) (g:Aw) (co:Bool) (d:Nat) (t:TypeId) (k:AV→Cy→O R):LI P g co d t k=(LI P g co d t pr).bind fun q=>k q.1 q.2:=by
 unfold LI
 split
 ·rw[Option.bind_assoc];rfl
 ·exact d6 ..
 ·rfl
theorem UV:∀ (T:List (Nat×Tw)) (f:Nat) (b:LA) (h:Ai) (k:AV→Ai→O R),GL T f b h k=(GL T f b h fun v h'=>some (v,h')).bind fun p=>k p.1 p.2
 | [],f,b,h,k=>rfl
 | (g,t)::r,f,b,h,k=>by
  rw[GL,GL]
  cases Nat.beq g f
  ·exact UV r f b h k
  ·exact t.eq b h k
theorem lO (E:Env) (g:Aw) (d f:Nat) (b:LA) (k:AV→Cy→O R):dU E g d f b k=(dU E g d f b pr).bind fun q=>k q.1 q.2:=by
 unfold dU
 rw[Option.bind_assoc]
 congr 1;funext q
 simp only[Ak,Option.bind_none]
 congr 1
 rw[UV,UV (R:=AV×Cy),Option.bind_assoc]
 congr 1;funext p
 simp only[Ak,Option.bind_none,pr,Option.bind_some]
theorem b8 (d:Nat) (o:Option AV) (k:AV→Cy→O R):Nv d o k=(Nv d o pr).bind fun q=>k q.1 q.2:=by
 unfold Nv
 split<;>rfl
theorem ir (P:Program) (g:Aw) (t:TypeId) (m x y:AV) (k:AV→Cy→O R):LL P g t m x y k=(LL P g t m x y pr).bind fun q=>k q.1 q.2:=by
 unfold LL
 split<;>simp[Ak,Option.bind_assoc,pr]
theorem iu (P:Program) (d:Nat) (t:TypeId) (x:AV) (k:AV→Cy→O R):LM P d t x k=(LM P d t x pr).bind fun q=>k q.1 q.2:=by
 unfold LM
 split<;>rfl
theorem lP (g:Aw) (it:AV) (b:Bool) (k:AV→Cy→O R):dS g it b k=(dS g it b pr).bind fun q=>k q.1 q.2:=by
 unfold dS
 split
 ·rw[Option.bind_assoc];congr 1;funext x
  rw[Ak];congr 1
  split
  ·rename_i s p _
   cases decide (p<(s.length:Int))<;>rfl
  ·rfl
 ·rfl
theorem UW (P:Program) (g:Aw) (t:TypeId) (m x:AV) (c:Bool) (k:AV→O R):dR P g t m x c k=(dR P g t m x c some).bind k:=by
 unfold dR
 split<;>simp[Ak,Option.bind_assoc]
theorem oC (E:Env) (g:Aw) (d:Nat) (v:Operand→AV) (o:Op) (k:AV→Cy→O R):bY E g d v o k=(bY E g d v o pr).bind fun q=>k q.1 q.2:=by
 unfold bY
 split
 ·rfl
 ·rfl
 ·rw[UU,UU (k:=fun r=>pr r []),Option.bind_assoc];rfl
 ·exact iq ..
 ·rw[OP,OP (k:=fun u=>iN E.P g d _ u pr),Option.bind_assoc];congr 1;funext u;exact d6 ..
 ·rw[EP,EP,Option.bind_assoc];congr 1;funext x;exact oB ..
 ·rw[Ak,←SQ,←L_]
 ·rw[Tt,Tt (k:=fun r=>pr r []),Option.bind_assoc];rfl
 ·exact io ..
 ·split<;>rfl
 ·rw[UT,UT (k:=fun r=>pr r []),Option.bind_assoc];rfl
 ·rw[Option.bind_assoc];rfl
 ·exact ip ..
 ·rw[Ak];rfl
 ·exact lK ..
 ·rw[OO,OO (k:=fun r=>pr r []),Option.bind_assoc];rfl
 ·rw[Vh,Vh (k:=fun r=>pr r []),Option.bind_assoc];rfl
 ·rw[OM,OM (k:=fun r=>pr r []),Option.bind_assoc];rfl
 ·rw[Vg,Vg (k:=fun r=>pr r []),Option.bind_assoc];rfl
 ·rw[ON,ON (k:=fun r=>pr r []),Option.bind_assoc];rfl
 ·exact b8 ..
 ·exact ir ..
 ·rw[UW,UW (k:=fun r=>pr r []),Option.bind_assoc];rfl
 ·exact iu ..
 ·exact lP ..
 ·split
  ·rw[Option.bind_assoc];rfl
  ·rfl
 ·split
  ·split
   ·rw[Option.bind_assoc];rfl
   ·rfl
  ·split
   ·exact fx ..
   ·rfl
  ·split
   ·exact lL ..
   ·rfl
  ·split
   ·rw[Option.bind_assoc];rfl
   ·simp only[Option.bind_assoc];rfl
   ·rfl
  ·split
   ·rw[Option.bind_assoc];rfl
   ·simp only[Option.bind_assoc];rfl
   ·rfl
  ·split
   ·exact SR ..
   ·rfl
  ·split
   ·exact ST ..
   ·rfl
  ·split
   ·rw[Ak,←lO,Ak];congr 1;congr 1
    split<;>rfl
   ·rfl
  ·rfl
 ·rfl
end
end Gx

namespace Gx
open Go
theorem Rt:∀ {l c:List Nat} {b:Nat},b ∈ OB l c↔b ∈ l∨b ∈ c
 | [],c,b=>by simp[OB]
 | i::r,c,b=>by
  rw[OB]
  cases d:E5 c i with
  | true =>
   simp only[cond_true]
   rw[Rt]
   have:=F5.1 d
   constructor
   ·rintro(h | h)
    ·exact .inl (by simp[h])
    ·exact .inr h
   ·rintro(h | h)
    ·rcases List.mem_cons.1 h with e | h
     ·subst e;exact .inr this
     ·exact .inl h
    ·exact .inr h
  | false =>
   simp only[cond_false]
   rw[Rt]
   simp only[List.mem_cons]
   constructor
   ·rintro(h | h | h)
    ·exact .inl (.inr h)
    ·exact .inl (.inl h)
    ·exact .inr h
   ·rintro((h | h) | h)
    ·exact .inr (.inl h)
    ·exact .inl h
    ·exact .inr (.inr h)
theorem Ph {g g':Aw}:∀ {l:List Nat},(∀ b ∈ l,g' b=g b)→F3 g' l=F3 g l
 | [],_=>rfl
 | i::r,h=>by
  rw[F3,F3,h i (by simp),Ph (fun b c=>h b (by simp[c]))]
theorem GX {g:Aw}:∀ {a b:List Nat},F3 g (a++b)=F3 g a++F3 g b
 | [],b=>rfl
 | i::r,b=>by rw[List.cons_append,F3,F3,GX,List.append_assoc]
theorem iw {g g':Aw} {ids:List Nat} (h:∀ b ∈ Nw g ids,g' b=g b):Nw g' ids=Nw g ids:=by
 have d:∀ b ∈ ids,g' b=g b:=fun b c=>h b (Rt.2 (.inl (List.mem_append.2 (.inl c))))
 have e:F3 g' ids=F3 g ids:=Ph d
 have f:∀ b ∈ F3 g ids,g' b=g b:=fun b c=>h b (Rt.2 (.inl (List.mem_append.2 (.inr (by rw[GX];exact List.mem_append.2 (.inl c))))))
 unfold Nw
 rw[e,Ph (l:=ids++F3 g ids) (fun b c=>by
  rcases List.mem_append.1 c with c | c
  ·exact d b c
  ·exact f b c)]
section
variable {R:Type} {E:Env} {ops:Array Oper} {o p:Oper} {st d5 st2:St}
theorem OQ {v v':Operand→AV} {parts:Array (Nat×Operand)} (h:∀ q ∈ parts.toList,v' q.2=v q.2):(parts.toList.map fun q=>(q.1,v' q.2))=(parts.toList.map fun q=>(q.1,v q.2)) :=
 List.map_congr_left (fun q hq=>by rw[h q hq])
theorem lR {g:Aw} {d:Nat} {v v':Operand→AV} {op:Op} {k:AV→Cy→O R} (h:∀ x ∈ op.operands.toList,v' x=v x):bY E g d v' op k=bY E g d v op k:=by
  unfold bY
  cases op
  case build t parts =>
    simp only
    rw[OQ (v:=v) (v':=v') (fun q hq=>h q.2 (by simp[Op.operands];exact⟨q.1,by simpa using hq⟩))]
  case buildSlice t n parts =>
    simp only
    rw[OQ (v:=v) (v':=v') (fun q hq=>h q.2 (by simp[Op.operands];exact⟨q.1,by simpa using hq⟩))]
  case slice t x lo j mx =>
    simp only
    have e:v' x=v x:=h x (by simp[Op.operands])
    have m:lo.map v'=lo.map v:=by
      cases lo with
      | none=>rfl
      | some y=>simp;exact h y (by simp[Op.operands])
    have s:j.map v'=j.map v:=by
      cases j with
      | none=>rfl
      | some y=>simp;exact h y (by simp[Op.operands])
    have u:mx.map v'=mx.map v:=by
      cases mx with
      | none=>rfl
      | some y=>simp;exact h y (by simp[Op.operands])
    rw[e,m,s,u]
  case makeMap t rr =>
    simp only
    have e:rr.map v'=rr.map v:=by
      cases rr with
      | none=>rfl
      | some y=>simp;exact h y (by simp[Op.operands])
    rw[e]
  case makeFunc f first caps =>
    cases f<;>try rfl
    simp only
    have:(first.toList++caps.toList).map v'=(first.toList++caps.toList).map v:=List.map_congr_left (fun x l=>h x (by simp[Op.operands];simpa using l))
    rw[this]
  case call c =>
    have i:∀ x ∈ c.args.toList,v' x=v x:=fun x l=>h x (by
      simp only[Op.operands,Call.operands,Array.toList_append]
      exact List.mem_append.2 (.inr l))
    have z:c.args.toList.map v'=c.args.toList.map v:=List.map_congr_left i
    simp only
    cases A:c.callee with
    | value f =>
      have B:v' f=v f:=h f (by simp[Op.operands,Call.operands,A])
      simp only[B,z]
    | invoke a b=>rfl
    | builtin b =>
      cases b<;>try rfl
      all_goals
        simp only
        split
        · first
            | (rename_i e m
               simp only[e,List.mem_cons,List.not_mem_nil,or_false,forall_eq_or_imp,forall_eq] at i
               simp only[i])
            | (rename_i e
               simp only[e,List.mem_cons,List.not_mem_nil,or_false,forall_eq_or_imp,forall_eq] at i
               simp only[i])
        all_goals first
          | rfl
          | (rename_i e
             simp only[e,List.mem_cons,List.not_mem_nil,or_false,forall_eq_or_imp,forall_eq] at i
             simp only[i])
  all_goals first
    | rfl
    | (simp[Op.operands] at h;simp[h])
end
end Gx

namespace Gx
open Go
section
variable {R:Type} {E:Env} {ops:Array Oper} {o p:Oper} {st d5 st2 st3:St}
def nM (ops:Array Oper) (o:Oper):List Nat:=match Zp ops o with | some p=>[p.1] | none=>[]
def Q3 (o:Oper) (s:Dv):LA:=o.op.operands.toList.map (ev s)
def fy (h:Ai) (F:List Nat):Aw:=fun b=>cond (E5 F b) (Ah h b) none
def uM (o:Oper):Nat:=o.dst.getD 50000
def Kj (E:Env) (ops:Array Oper) (o:Oper) (st:St):Option (AV×Cy×Foot) :=
  (Tj ops st.s o).bind fun wanted=>cond wanted
    ((bY E (fy st.h (Mi st.h o.op (Q3 o st.s))) (uM o) (ev st.s) o.op pr).bind fun q =>
      cond (AR (uM o) (Mi st.h o.op (Q3 o st.s)) st.h q.2) (some (q.1,q.2,{ r:=nM ops o++EL o.op.operands.toList,w:=o.dst,f:=Mi st.h o.op (Q3 o st.s),u:=q.2.map (·.1) })) none)
    (some (.tup [],[],{ r:=nM ops o,w:=o.dst,f:=[],u:=[] }))
def after (E:Env) (o:Oper) (st:St) (q:AV×Cy×Foot):St:={ s:=ku E.nt st.s o.dst q.1,h:=Ag q.2.1 st.h }
theorem Zy (k:St→Foot→O R):iQ E ops o st k=(Kj E ops o st).bind fun q=>k (after E o st q) q.2.2:=by
 unfold iQ Kj
 rw[Option.bind_assoc]
 congr 1;funext t
 rw[Ak]
 congr 1
 rw[oC,Option.bind_assoc]
 congr 1;funext q
 rw[Ak]
 rfl
theorem UX:∀ {l:List Operand} {t:Nat},Operand.tmp t ∈ l→t ∈ EL l
 | [],t,h=>by simp at h
 | x::r,t,h=>by
  rcases List.mem_cons.1 h with e | h'
  ·subst e;simp[EL]
  ·have b:=UX h'
   cases x<;>simp[EL]<;>first | exact .inr b | exact b
theorem OR {d:Nat} {F:List Nat} {h e:Ai}:∀ {ups:Cy},(∀ b ∈ ups.map (·.1),Ah e b=Ah h b)→AR d F e ups=AR d F h ups
 | [],_=>rfl
 | (b,_)::r,f=>by rw[AR,AR,f b (by simp),OR (fun c i=>f c (by simp at i ⊢;exact .inr i))]
theorem AZ {s s2:Dv} (h:∀ t ∈ nM ops o,Dd s2 t=Dd s t):Tj ops s2 o=Tj ops s o:=by
 unfold Tj
 cases b:o.guard with
 | none=>rfl
 | some q =>
  obtain⟨j,want⟩:=q
  simp only
  cases c:(ops[j]?).bind (·.dst) with
  | none=>rfl
  | some t =>
   have:Dd s2 t=Dd s t:=h t (by simp[nM,Zp,b,c])
   simp only[this]
theorem W3 {q:AV×Cy×Foot} (l:Kj E ops o st=some q) (i:∀ t ∈ q.2.2.r,Dd st2.s t=Dd st.s t) (c:∀ b,b ∈ q.2.2.f∨b ∈ q.2.2.u→Ah st2.h b=Ah st.h b):Kj E ops o st2=some q:=by
 have A:=l
 unfold Kj at l
 obtain⟨t,j,k⟩:=ub l
 cases t with
 | false =>
  simp at k;subst k
  unfold Kj
  rw[AZ (s:=st.s) i,j];rfl
 | true =>
  rw[cond_true] at k
  obtain⟨x,B,C⟩:=ub k
  obtain⟨D,v⟩:=uc C
  simp at v;subst v
  simp only at i c
  have z:∀ y ∈ o.op.operands.toList,ev st2.s y=ev st.s y:=fun y F=>by
   cases y with
   | tmp t=>exact i t (List.mem_append.2 (.inr (UX F)))
   | const _=>rfl
   | global _=>rfl
   | func _=>rfl
  have d:Q3 o st2.s=Q3 o st.s:=List.map_congr_left z
  have hF:Mi st2.h o.op (Q3 o st.s)=Mi st.h o.op (Q3 o st.s):=by
   unfold Mi at c ⊢
   cases m:nE o.op with
   | true =>
    rw[m] at c
    cases n:nF o.op with
    | true=>rfl
    | false=>rw[n] at c;exact iw (fun b e=>c b (.inl e))
   | false=>rfl
  have G:fy st2.h (Mi st.h o.op (Q3 o st.s))=fy st.h (Mi st.h o.op (Q3 o st.s)):=by
   funext b
   unfold fy
   cases e:E5 (Mi st.h o.op (Q3 o st.s)) b with
   | false=>rfl
   | true=>simp only[cond_true];exact c b (.inl (F5.1 e))
  unfold Kj
  rw[AZ (s:=st.s) (fun t j=>i t (List.mem_append.2 (.inl j))),j]
  simp only[Option.bind_some,cond_true]
  rw[d,hF,G,lR z,B]
  simp only[Option.bind_some]
  rw[OR (h:=st.h) (fun b e=>c b (.inr e)),D]
  rfl
theorem Zz:∀ {ups:Cy} {b:Nat},As ups b=true↔b ∈ ups.map (·.1)
 | [],b=>by simp[As]
 | (i,_)::r,b=>by
  rw[As]
  cases c:Nat.beq i b with
  | true=>have:=Nat.eq_of_beq_eq_true c;subst this;simp
  | false =>
   have ne:=Mo c
   simp only[cond_false]
   rw[Zz]
   simp only[List.map_cons,List.mem_cons]
   constructor
   ·exact fun h=>.inr h
   ·rintro(h | h)
    ·exact absurd h.symm ne
    ·exact h
theorem nN {q:AV×Cy×Foot} (c:Kj E ops o st=some q):q.2.2.w=o.dst∧q.2.2.u=q.2.1.map (·.1):=by
 unfold Kj at c
 obtain⟨t,f,b⟩:=ub c
 cases t with
 | false=>simp at b;subst b;simp
 | true =>
  rw[cond_true] at b
  obtain⟨x,i,e⟩:=ub b
  obtain⟨j,d⟩:=uc e
  simp at d;subst d;simp
theorem Dy:∀ (ups:Cy) {h e:Ai},(∀ b,Ah e b=Ah h b)→∀ b,Ah (Ag ups e) b=Ah (Ag ups h) b
 | [],_,_,d,b=>d b
 | (i,some x)::r,h,e,d,b=>Dy r (fun c=>by rw[Ad,Ad,d c]) b
 | (i,none)::r,h,e,d,b=>by
  rw[Ag,Ag]
  refine Dy r (fun c=>?_) b
  rw[d i]
  split
  ·rw[Ad,Ad,d c]
  ·exact d c
theorem ix {q:AV×Cy×Foot} (h:Eqv st st2):Eqv (after E o st q) (after E o st2 q):=by
 refine⟨fun t=>?_,fun b=>?_⟩
 ·unfold after;simp only;rw[Hq,Hq,h.1 t]
 ·exact(Dy q.2.1 (fun b=>(h.2 b).symm) b).symm
theorem Jp {i:Nat} {y:Blk}:∀ (ups:Cy) {h:Ai},As ups i=false→∀ b,Ah (Ag ups (Cu h i y)) b=if b=i then some y else Ah (Ag ups h) b
 | [],h,_,b=>Ad h i y b
 | (j,some x)::r,h,d,b=>by
  rw[As] at d
  cases e:Nat.beq j i with
  | true=>rw[e] at d;simp at d
  | false =>
   rw[e] at d
   have ne:=Mo e
   rw[Ag,Ag,Dy r (h:=Cu (Cu h j x) i y) (fun c=>by
    rw[Ad,Ad,Ad,Ad]
    by_cases f:c=j
    ·subst f;simp[ne]
    ·simp[f]) b]
   exact Jp r d b
 | (j,none)::r,h,d,b=>by
  rw[As] at d
  cases e:Nat.beq j i with
  | true=>rw[e] at d;simp at d
  | false =>
   rw[e] at d
   have ne:=Mo e
   rw[Ag,Ag,Ad,if_neg ne]
   split
   ·rename_i x k
    rw[Dy r (h:=Cu (Cu h j { x with dead:=true,pure:=true,cells:=[] }) i y) (fun c=>by
     rw[Ad,Ad,Ad,Ad]
     by_cases f:c=j
     ·subst f;simp[ne]
     ·simp[f]) b]
    exact Jp r d b
   ·exact Jp r d b
theorem Lp:∀ (u1 u2:Cy) (h:Ai),(∀ b,As u1 b=true→As u2 b=false)→∀ b,Ah (Ag u2 (Ag u1 h)) b=Ah (Ag u1 (Ag u2 h)) b
 | [],u2,h,_,b=>rfl
 | (i,some x)::r,u2,h,d,b=>by
  rw[Ag,Ag]
  have f:As u2 i=false:=d i (by simp[As])
  rw[Lp r u2 (Cu h i x) (fun c e=>d c (by rw[As,e];cases Nat.beq i c<;>rfl)) b]
  refine Dy r (fun c=>?_) b
  rw[Jp u2 f,Ad]
 | (i,none)::r,u2,h,d,b=>by
  rw[Ag,Ag]
  have f:As u2 i=false:=d i (by simp[As])
  rw[Bs u2 h i f]
  split
  ·rename_i x j
   rw[Lp r u2 _ (fun c e=>d c (by rw[As,e];cases Nat.beq i c<;>rfl)) b]
   refine Dy r (fun c=>?_) b
   rw[Jp u2 f,Ad]
  ·exact Lp r u2 h (fun c e=>d c (by rw[As,e];cases Nat.beq i c<;>rfl)) b
theorem UY:∀ {a l:List Nat},iP a l=true→∀ b ∈ a,b ∉ l
 | [],l,_,b,c=>by simp at c
 | i::r,l,h,b,c=>by
  rw[iP] at h;simp at h
  rcases List.mem_cons.1 c with e | c
  ·subst e;intro d;rw[F5.2 d] at h;simp at h
  ·exact UY h.2 b c
theorem UZ {q:AV×Cy×Foot} {t:Nat} (h:o.dst≠some t):Dd (after E o st q).s t=Dd st.s t:=by
 unfold after;simp only;rw[Hq,if_neg (fun b=>h b.1)]
theorem U_ {q:AV×Cy×Foot} {b:Nat} (h:b ∉ q.2.1.map (·.1)):Ah (after E o st q).h b=Ah st.h b:=by
 unfold after;simp only
 rw[Bs]
 cases c:As q.2.1 b with
 | false=>rfl
 | true=>exact absurd (Zz.1 c) h
theorem d7 {w:Option Nat} {l:List Nat} (h:ta w l=false):∀ t ∈ l,w≠some t:=by
 intro t b e
 subst e
 rw[ta,F5.2 b] at h;cases h
theorem tn {f d:AV×Cy×Foot} (q:Kj E ops p st=some f) (s:Kj E ops o (after E p st f)=some d) (l:OC f.2.2 d.2.2=true) :
  Kj E ops o st=some d∧Kj E ops p (after E o st d)=some f∧Eqv (after E p (after E o st d) f) (after E o (after E p st f) d):=by
 unfold OC at l
 simp only[Bool.and_eq_true,Bool.not_eq_true'] at l
 obtain⟨⟨⟨⟨i1,i2⟩,i3⟩,i4⟩,i5⟩:=l
 obtain⟨v,u1⟩:=nN q
 obtain⟨x,u2⟩:=nN s
 have m:=UY i4
 have y:=UY i5
 have a1:Kj E ops o st=some d:=W3 s (fun t n=>(UZ (by rw[←v];exact d7 i1 t n)).symm) (fun b e=>(U_ (fun j=>by
  rw[←u1] at j
  exact m b j (by rcases e with e | e<;>simp[e]))).symm)
 have a2:Kj E ops p (after E o st d)=some f:=W3 q (fun t n=>UZ (by rw[←x];exact d7 i2 t n)) (fun b e=>U_ (fun j=>by
  rw[←u2] at j
  rcases e with e | e
  ·exact y b j e
  ·exact m b e (by simp[j])))
 refine⟨a1,a2,fun t=>?_,fun b=>?_⟩
 ·unfold after;simp only
  rw[Hq,Hq,Hq,Hq]
  by_cases k:p.dst=some t∧t<E.nt
  ·by_cases i:o.dst=some t∧t<E.nt
   ·exfalso
    rw[v,x,k.1,i.1] at i3
    simp at i3
   ·rw[if_pos k,if_neg i,if_pos k]
  ·by_cases i:o.dst=some t∧t<E.nt
   ·rw[if_neg k,if_pos i,if_pos i]
   ·rw[if_neg k,if_neg i,if_neg i,if_neg k]
 ·unfold after;simp only
  refine(Lp f.2.1 d.2.1 st.h (fun c z=>?_) b).symm
  cases A:As d.2.1 c with
  | false=>rfl
  | true =>
   have m1:c ∈ f.2.2.u:=by rw[u1];exact Zz.1 z
   have m2:c ∈ d.2.2.u:=by rw[u2];exact Zz.1 A
   exact absurd (by simp[m2]) (m c m1)
def RunF (E:Env) (ops:Array Oper) (fp:Nat→Foot):List (Nat×Oper)→St→St→Prop
 | [],st,e=>Eqv st e
 | (i,o)::r,st,e=>∃ q,Kj E ops o st=some q∧q.2.2=fp i∧RunF E ops fp r (after E o st q) e
theorem RunF.congr {fp:Nat→Foot}:∀ {l:List (Nat×Oper)} {st st2 e:St},RunF E ops fp l st e→Eqv st st2→RunF E ops fp l st2 e
 | [],st,st2,e,h,c=>c.symm.trans h
 | (i,o)::r,st,st2,e,h,c=>by
  rw[RunF] at h ⊢
  obtain⟨q,d,f,j⟩:=h
  exact⟨q,W3 d (fun t _=>(c.1 t).symm) (fun b _=>(c.2 b).symm),f,RunF.congr j (ix c)⟩
theorem RunF.pull {fp:Nat→Foot} {i:Nat} {o:Oper} {B:List (Nat×Oper)}:∀ {A:List (Nat×Oper)} {st e:St},RunF E ops fp (A++(i,o)::B) st e→(∀ jp ∈ A,OC (fp jp.1) (fp i)=true) →
  ∃ q,Kj E ops o st=some q∧q.2.2=fp i∧RunF E ops fp (A++B) (after E o st q) e
 | [],st,e,h,_=>h
 | (j,p)::A,st,e,h,hA=>by
  rw[List.cons_append,RunF] at h
  obtain⟨b,k,c,l⟩:=h
  obtain⟨d,m,f,n⟩:=RunF.pull l (fun jp s=>hA jp (by simp[s]))
  have t:OC b.2.2 d.2.2=true:=by rw[c,f];exact hA (j,p) (by simp)
  obtain⟨a1,a2,a3⟩:=tn k m t
  refine⟨d,a1,f,?_⟩
  rw[List.cons_append,RunF]
  exact⟨b,a2,c,RunF.congr n a3.symm⟩
end
end Gx

namespace Gx
open Go
def nO:Nat→List Oper→List (Nat×Oper)
 | _,[]=>[]
 | n,o::r=>(n,o)::nO (n+1) r
theorem TM:∀ {l:List Oper} {n:Nat} {p:Nat×Oper},p ∈ nO n l↔n≤p.1∧l[p.1 - n]?=some p.2
 | [],n,p=>by simp[nO]
 | o::r,n,p=>by
  rw[nO,List.mem_cons,TM]
  constructor
  ·rintro(rfl | ⟨d,c⟩)
   ·simp
   ·refine⟨by omega,?_⟩
    rw[show p.1 - n=(p.1 - (n+1))+1 by omega];simpa using c
  ·rintro⟨d,c⟩
   by_cases e:p.1=n
   ·left
    rw[e] at c;simp at c
    obtain⟨a,b⟩:=p
    simp at e c;subst e c;rfl
   ·right
    refine⟨by omega,?_⟩
    rw[show p.1 - n=(p.1 - (n+1))+1 by omega] at c;simpa using c
theorem VA:∀ (l:List Oper) (n:Nat),(nO n l).Pairwise (fun a b=>a.1<b.1)
 | [],n=>List.Pairwise.nil
 | o::r,n=>by
  rw[nO]
  refine List.pairwise_cons.2 ⟨fun p c=>?_,VA r (n+1)⟩
  have:=(TM.1 c).1
  show n<p.1;omega
section
variable {R:Type} {r:R} {Z:Start} {E:Env} {ops:Array Oper}
def RunL (E:Env) (ops:Array Oper):List Oper→List Foot→St→St→Prop
 | [],[],st,e=>st=e
 | o::l,f::fs,st,e=>∃ st' q,Eqv st st'∧Kj E ops o st'=some q∧q.2.2=f∧RunL E ops l fs (after E o st' q) e
 | _,_,_,_=>False
theorem iy:∀ {l:List Oper} {st:St} {tr:List Foot} {k:St→List Foot→O R},T' E ops l st tr k=some r→∃ fs e,k e (fs.reverse++tr)=some r∧RunL E ops l fs st e
 | [],st,tr,k,h=>⟨[],st,by simpa[T'] using h,rfl⟩
 | o::l,st,tr,k,h=>by
  rw[T'] at h
  obtain⟨st',b,h⟩:=UP h
  rw[Zy] at h
  obtain⟨q,c,d⟩:=ub h
  obtain⟨fs,e,f,i⟩:=iy d
  exact⟨q.2.2::fs,e,by simpa using f,st',q,b,c,rfl,i⟩
theorem RunL.length:∀ {l:List Oper} {fs:List Foot} {st e:St},RunL E ops l fs st e→fs.length=l.length
 | [],[],_,_,_=>rfl
 | [],_::_,_,_,h=>h.elim
 | _::_,[],_,_,h=>h.elim
 | o::l,f::fs,st,e,⟨_,q,_,_,_,h⟩=>by simp[RunL.length h]
theorem RunL.runF {fp:Nat→Foot}:∀ {l:List Oper} {fs:List Foot} {n:Nat} {st e:St},RunL E ops l fs st e→(∀ (j:Nat) (f:Foot),fs[j]?=some f→fp (n+j)=f)→RunF E ops fp (nO n l) st e
 | [],[],n,st,e,h,_=>by subst h;exact Eqv.refl _
 | [],_::_,_,_,_,h,_=>h.elim
 | _::_,[],_,_,_,h,_=>h.elim
 | o::l,f::fs,n,st,e,⟨st',q,c,d,i,k⟩,b=>by
  rw[nO]
  refine RunF.congr ?_ c.symm
  rw[RunF]
  refine⟨q,d,by rw[i];exact(b 0 f (by simp)).symm,RunL.runF k (fun j g m=>?_)⟩
  have:=b (j+1) g (by simpa using m)
  rwa [show n+(j+1)=n+1+j by omega] at this
theorem OS {f:Foot} {anc:List Nat}:∀ {seen:List Foot} {i:Nat},GN f anc i seen=true→∀ (j:Nat) (g:Foot),seen[j]?=some g→(i+j) ∈ anc∨OC g f=true
 | [],i,_,j,g,b=>by simp at b
 | x::r,i,h,j,g,b=>by
  rw[GN] at h;simp only[Bool.and_eq_true,Bool.or_eq_true] at h
  cases j with
  | zero =>
   simp at b;subst b
   rcases h.1 with c | c
   ·exact .inl (F5.1 c)
   ·exact .inr c
  | succ j =>
   have:=OS h.2 j g (by simpa using b)
   rwa [show i+1+j=i+(j+1) by omega] at this
theorem VB:∀ {fs:List Foot} {az9:List (List Nat)} {seen:List Foot},Zq fs az9 seen=true→∀ (i:Nat) (f:Foot),fs[i]?=some f →
  ∃ a,az9[i]?=some a∧∀ (j:Nat) (g:Foot),(seen++fs)[j]?=some g→j<seen.length+i→j ∈ a∨OC g f=true
 | [],az9,seen,_,i,f,b=>by simp at b
 | x::r,[],seen,h,i,f,b=>by simp[Zq] at h
 | x::r,a::az9,seen,h,i,f,b=>by
  rw[Zq] at h;simp only[Bool.and_eq_true] at h
  cases i with
  | zero =>
   simp at b;subst b
   refine⟨a,by simp,fun j g c d=>?_⟩
   rw[List.getElem?_append,if_pos (by omega)] at c
   simpa using OS h.1 j g c
  | succ i =>
   obtain⟨e,k,l⟩:=VB h.2 i f (by simpa using b)
   refine⟨e,by simpa using k,fun j g c d=>l j g ?_ (by simp;omega)⟩
   simpa using c
theorem Q4:∀ {l:List Oper} {b:List (List Nat)} {i:Nat},i<b.length→(Dr l b)[i]?=b[i]?
 | [],b,i,_=>rfl
 | o::r,b,i,c=>by
  rw[Dr,Ro,Q4 (by simp;omega),List.getElem?_append,if_pos c]
theorem Tu:∀ {l:List Oper} {b:List (List Nat)} {i:Nat} {a:List Nat},(Dr l b)[i]?=some a→b.length≤i→∃ o,l[i - b.length]?=some o ∧
  ∀ k ∈ a,k ∈ Tk o∨∃ j f,j ∈ Tk o∧j<i∧(Dr l b)[j]?=some f∧k ∈ f
 | [],b,i,a,h,n=>by
  rw[Dr,List.getElem?_eq_none n] at h;cases h
 | o::r,b,i,a,h,n=>by
  by_cases e:i=b.length
  ·subst e
   rw[Dr,Ro,Q4 (by simp)] at h
   simp only[List.getElem?_concat_length,Option.some.injEq] at h
   refine⟨o,by simp,fun k c=>?_⟩
   rw[←h,Rt] at c
   replace c:=c.resolve_right (by simp)
   rcases List.mem_append.1 c with c | c
   ·exact .inl c
   ·right
    obtain⟨j,s,c⟩:=List.mem_flatMap.1 c
    cases m:b[j]? with
    | none=>rw[m] at c;simp at c
    | some f =>
     rw[m] at c;simp at c
     have d:j<b.length:=(List.getElem?_eq_some_iff.1 m).1
     exact⟨j,f,s,d,by rw[Q4 d];exact m,c⟩
  ·rw[Dr,Ro] at h
   obtain⟨o',q,t⟩:=Tu h (by simp;omega)
   refine⟨o',?_,fun k c=>?_⟩
   ·simp at q
    rw[show i - b.length=(i - (b.length+1))+1 by omega];simpa using q
   ·rw[Dr,Ro];exact t k c
theorem GY:∀ {l:List Oper} {n i:Nat} {o:Oper},Nk n l=true→l[i]?=some o→∀ e ∈ o.after,Wt e=true→e.on<n+i
 | [],n,i,o,_,b,_,_,_=>by simp at b
 | x::r,n,i,o,h,b,e,c,d=>by
  rw[Nk] at h;simp only[Bool.and_eq_true] at h
  cases i with
  | zero =>
   simp at b;subst b
   have:=List.all_eq_true.1 h.1 e (by simpa using c)
   rw[d] at this;simpa using this
  | succ i =>
   have:=GY h.2 (by simpa using b) e c d
   omega
theorem d8 (e:Edge):Region.binds .any e=Wt e:=by
 unfold Region.binds Wt
 cases e.ground<;>rfl
theorem lS {listed:Array Bool} (hclosed:∀ (j:Nat) (o:Oper),ops[j]?=some o→listed.getD j true=true→∀ k ∈ Tk o,listed.getD k false=true) :
  ∀ (i:Nat) (a:List Nat) (o:Oper),(Dr ops.toList [])[i]?=some a→ops[i]?=some o→(∀ k ∈ Tk o,listed.getD k false=true)→∀ k ∈ a,listed.getD k false=true:=by
 intro i
 induction i using Nat.strongRecOn with
 | _ i s =>
  intro a o t u m k v
  obtain⟨o',e,x⟩:=Tu t (by simp)
  simp at e
  rw[u] at e;simp at e;subst e
  rcases x k v with f | ⟨j,y,f,z,n,A⟩
  ·exact m k f
  ·have c:=m j f
   obtain⟨oj,d,_⟩:=Tu n (by simp)
   simp at d
   have l:listed.getD j true=true:=by
    rw[Array.getD_eq_getD_getElem?] at c ⊢
    cases q:listed[j]? with
    | none=>rw[q] at c;simp at c
    | some b=>rw[q] at c;simpa using c
   exact s j z y oj n d (hclosed j oj d l) k A
def E6 (ops:Array Oper) (listed:Array Bool):List (Nat×Oper):=(nO 0 ops.toList).filter fun p=>!listed.getD p.1 true
theorem W4 (listed:Array Bool):(E6 ops listed).Pairwise (fun a b=>a.1<b.1):=(VA _ _).filter _
theorem Ru {listed:Array Bool} {p:Nat×Oper}:p ∈ E6 ops listed↔ops[p.1]?=some p.2∧listed.getD p.1 true=false:=by
 unfold E6
 rw[List.mem_filter,TM]
 simp
theorem iz {listed:Array Bool} {i:Nat} {o:Oper} {A B:List (Nat×Oper)} (h:E6 ops listed=A++(i,o)::B):E6 ops (listed.setIfInBounds i true)=A++B:=by
 have l:(i,o) ∈ E6 ops listed:=by rw[h];simp
 have b:=(Ru.1 l).2
 have d:i<listed.size:=by
  rw[Array.getD_eq_getD_getElem?] at b
  rcases Nat.lt_or_ge i listed.size with f | f
  ·exact f
  ·rw[Array.getElem?_eq_none f] at b;simp at b
 have m:E6 ops (listed.setIfInBounds i true)=(E6 ops listed).filter fun p=>!Nat.beq p.1 i:=by
  unfold E6
  rw[List.filter_filter]
  congr 1;funext p
  by_cases e:p.1=i
  ·rw[e];simp[d]
  ·rw[getD_set_ne true (fun n=>e n.symm),Wx e];simp
 rw[m,h,List.filter_append,List.filter_cons]
 have k:=W4 (ops:=ops) listed
 rw[h] at k
 have c:=List.pairwise_append.1 k
 have hB:=List.pairwise_cons.1 c.2.1
 have q:A.filter (fun p=>!Nat.beq p.1 i)=A:=List.filter_eq_self.2 (fun p j=>by
  have:p.1<i:=c.2.2 p j (i,o) (by simp)
  rw[Wx (by omega)];rfl)
 have s:B.filter (fun p=>!Nat.beq p.1 i)=B:=List.filter_eq_self.2 (fun p j=>by
  have:i<p.1:=hB.1 p j
  rw[Wx (by omega)];rfl)
 rw[q,s];simp
theorem oD (hC:ER E) {Q:Exit→Act→World→Prop} {fp:Nat→Foot} {e:St} (hfw:Nk 0 ops.toList=true)
  (F:∀ (i j:Nat) (o:Oper),ops[i]?=some o→j<i→∃ a,(Dr ops.toList [])[i]?=some a∧(j ∈ a∨OC (fp j) (fp i)=true))
  (hQ:∀ a' w' J' β',Inv Z E.nt J' β' e a' w'→Q .normal a' w') :
  ∀ (d:Nat) (listed:Array Bool) {st:St} {a:Act} {w:World} {J:Bool→Nat→Prop} {β:Bf},listed.size=ops.size→(E6 ops listed).length=d →
   (∀ (j:Nat) (o:Oper),ops[j]?=some o→listed.getD j true=true→∀ k ∈ Tk o,listed.getD k false=true) →
   RunF E ops fp (E6 ops listed) st e→Inv Z E.nt J β st a w→wpAny E.P .any ops Q d listed a w:=by
 intro d
 have fin:∀ (listed:Array Bool) {st:St} {a:Act} {w:World} {J:Bool→Nat→Prop} {β:Bf},E6 ops listed=[]→RunF E ops fp (E6 ops listed) st e→Inv Z E.nt J β st a w→Region.ready .any ops listed=[]∧Q .normal a w:=by
  intro listed st a w J β hr c I
  refine⟨List.eq_nil_iff_forall_not_mem.2 (fun i hi=>?_),?_⟩
  ·obtain⟨G,o,t,_⟩:=mem_ready.1 hi
   have:(i,o) ∈ E6 ops listed:=Ru.2 ⟨t,G⟩
   rw[hr] at this;simp at this
  ·rw[hr,RunF] at c
   exact hQ _ _ J β (I.eqv c)
 induction d with
 | zero =>
  intro listed st a w J β _ l _ c I
  exact fin listed (List.length_eq_zero_iff.1 l) c I
 | succ d ih =>
  intro listed st a w J β L l hclosed c I
  refine⟨fun M=>?_,fun i hi=>?_⟩
  ·
   cases m:E6 ops listed with
   | nil=>rw[m] at l;simp at l
   | cons p r =>
    exfalso
    have hp:p ∈ E6 ops listed:=by rw[m];simp
    obtain⟨n,hl⟩:=Ru.1 hp
    have O:=W4 (ops:=ops) listed
    rw[m] at O
    have S:=(List.pairwise_cons.1 O).1
    have:p.1 ∈ Region.ready .any ops listed:=mem_ready.2 ⟨hl,p.2,n,fun x z hb=>by
     rw[d8] at hb
     have u:=GY hfw (i:=p.1) (o:=p.2) (by simpa using n) x z hb
     simp at u
     have T:x.on<ops.size:=by have:=(Array.getElem?_eq_some_iff.1 n).1;omega
     cases C:listed.getD x.on true with
     | true =>
      rw[Array.getD_eq_getD_getElem?] at C ⊢
      rw[Array.getElem?_eq_getElem (by omega)] at C ⊢
      simpa using C
     | false =>
      have hm:(x.on,ops[x.on]) ∈ E6 ops listed:=Ru.2 ⟨by simp[T],C⟩
      rw[m] at hm
      rcases List.mem_cons.1 hm with D | D
      ·have:x.on=p.1:=by rw[←D]
       omega
      ·have:=S _ D
       simp at this;omega⟩
    rw[M] at this;simp at this
  ·obtain⟨hl,o,n,U⟩:=mem_ready.1 hi
   have V:(i,o) ∈ E6 ops listed:=Ru.2 ⟨n,hl⟩
   obtain⟨A,B,hAB⟩:=List.append_of_mem V
   have y:∀ k ∈ Tk o,listed.getD k false=true:=by
    intro k X
    unfold Tk at X
    obtain⟨x,z,rfl⟩:=List.mem_map.1 X
    obtain⟨G,t⟩:=List.mem_filter.1 z
    exact U x (by simpa using G) (by rw[d8];exact t)
   have O:=W4 (ops:=ops) listed
   rw[hAB] at O
   have hs':=List.pairwise_append.1 O
   rw[hAB] at c
   obtain⟨q,g1,g2,g3⟩:=c.pull (fun jp Y=>by
    have u:jp.1<i:=hs'.2.2 jp Y (i,o) (by simp)
    obtain⟨an,G,t⟩:=F i jp.1 o n u
    rcases t with t | t
    ·exfalso
     have:=lS hclosed i an o G n y jp.1 t
     have hjm:jp ∈ E6 ops listed:=by rw[hAB];simp[Y]
     have h3:=(Ru.1 hjm).2
     rw[Array.getD_eq_getD_getElem?] at this h3
     cases C:listed[jp.1]? with
     | none=>rw[C] at this;simp at this
     | some b=>rw[C] at this h3;simp at this h3;rw[this] at h3;cases h3
    ·exact t)
   have hone:iQ E ops o st (fun s f=>some (s,f))=some (after E o st q,q.2.2):=by rw[Zy,g1];rfl
   obtain⟨st',f,h4,h5⟩:=UO (K:=wpAny E.P .any ops Q d (listed.setIfInBounds i true)) (Q:=Q) hC I hone
   simp only[Option.some.injEq,Prod.mk.injEq] at h4
   obtain⟨rfl,rfl⟩:=h4
   have u:i<listed.size:=by rw[L];exact(Array.getElem?_eq_some_iff.1 n).1
   have:=h5 (fun a' w' J' β' I'=>ih (listed.setIfInBounds i true) (by simp[L]) (by
     rw[iz hAB];rw[hAB] at l;simp at l ⊢;omega) (fun j oj v hj k X=>?_) (by rw[iz hAB];exact g3) I')
   ·unfold wpOp
    rw[n]
    simp only
    split
    ·rename_i hw;rw[if_pos hw] at this;exact .inl this
    ·rename_i hw;rw[if_neg hw] at this;exact this
   ·by_cases D:j=i
    ·subst D
     rw[n] at v;simp at v;subst v
     exact getD_set_true (y k X)
    ·rw[getD_set_ne true (fun e'=>D e'.symm)] at hj
     exact getD_set_true (hclosed j oj v hj k X)
end
end Gx

namespace Gx
open Go
section
variable {R:Type} {r:R} {Z:Start} {E:Env}
theorem b9 (hC:ER E) (T:E.P.follows .mixedOrders=true) {roots:List Nat} {id:Nat} {ops:Array Oper} {draw:Bool} {st:St} {k:St→O R} {a:Act} {w:World} {J:Bool→Nat→Prop} {β:Bf} {Q:Exit→Act→World→Prop}
  (I:Inv Z E.nt J β st a w) (C:Zr E roots ops draw st k=some r) (hQ:∀ st' d w' J' β',Inv Z E.nt J' β' st' d w'→k st'=some r→Q .normal d w'):(Code.region id ops draw).wp E.P Q a w:=by
 unfold Zr at C
 have done:∀ {st':St} {tr:List Foot} {d:Act} {w':World} {J':Bool→Nat→Prop} {β':Bf},Inv Z E.nt J' β' st' d w' →
   cond (!draw||(Nk 0 ops.toList&&Zq tr.reverse (Dr ops.toList []) [])) ((clean (st'.s.map (·.1)) roots st').bind k) none=some r→Q .normal d w':=by
  intro st' tr d w' J' β' I' h'
  obtain⟨_,A⟩:=uc h'
  obtain⟨st2,B,K⟩:=ub A
  obtain⟨β2,I2⟩:=il I' B
  exact hQ _ _ _ _ _ I2 K
 cases draw with
 | false=>exact wp_region_list (UQ hC _ I C (fun st' U d w' J' β' I' h'=>done I' h'))
 | true =>
  obtain⟨fs,e,A,B⟩:=iy C
  obtain⟨L,K⟩:=uc A
  simp at L
  obtain⟨D,t⟩:=L
  have v:=B.length
  refine wp_region_any T ?_
  have I':Inv Z E.nt J β st a w.drew:=I.step (Step.drew I.sim) (fun b x V M=>by rw[V] at M;cases M)
  have c:E6 ops (Array.replicate ops.size false)=nO 0 ops.toList:=by
   unfold E6
   refine List.filter_eq_self.2 (fun p X=>?_)
   have:=(TM.1 X).2
   have m:p.1<ops.size:=by
    simp at this
    exact(Array.getElem?_eq_some_iff.1 this).1
   simp[m]
  have y:(nO 0 ops.toList).length=ops.size:=by
   have:∀ (l:List Oper) (n:Nat),(nO n l).length=l.length:=by
    intro l
    induction l with
    | nil=>intro n;rfl
    | cons o r Y=>intro n;simp[nO,Y]
   rw[this];simp
  have z:RunF E ops (fun i=>fs.getD i { r:=[],w:=none,f:=[],u:=[] }) (nO 0 ops.toList) st e:=B.runF (fun j f q=>by simp[q])
  refine oD hC (fp:=fun i=>fs.getD i { r:=[],w:=none,f:=[],u:=[] }) (e:=e) D (fun i j o F G=>?_) (fun d w' J' β' Ie=>done (tr:=fs.reverse++[]) Ie A) ops.size _ (by simp) (by rw[c,y]) (fun j o F q=>?_) (by rw[c];exact z) I'
  ·have S:i<fs.length:=by rw[v];simpa using(Array.getElem?_eq_some_iff.1 F).1
   obtain⟨an,g1,g2⟩:=VB t i fs[i] (List.getElem?_eq_getElem S)
   refine⟨an,g1,?_⟩
   have q:j<fs.length:=by omega
   have:=g2 j fs[j] (by simp[q]) (by simpa using G)
   simpa[S,q] using this
  ·exfalso
   have m:j<ops.size:=(Array.getElem?_eq_some_iff.1 F).1
   simp[m] at q
end
end Gx

namespace Gx
open Go
theorem GZ (ρ:Nat→Nat):∀ c:LA,(Mn ρ c).length=c.length
 | []=>rfl
 | x::r=>by rw[Mn,List.length_cons,List.length_cons,GZ ρ r]
theorem G6 (ρ:Nat→Nat) (x:Blk):(Pa ρ x).cells.length=x.cells.length:=by
 unfold Pa;cases x.pure
 ·simp;exact GZ _ _
 ·rfl
theorem d9 {ρ:Nat→Nat}:∀ {c:LA} {j:Nat} {y:AV},(Mn ρ c)[j]?=some y→∃ x,c[j]?=some x∧y=AO ρ x
 | [],j,y,b=>by simp[Mn] at b
 | x::r,j,y,b=>by
  rw[Mn] at b
  cases j with
  | zero=>simp at b;exact⟨x,by simp,b.symm⟩
  | succ j=>obtain⟨x',d,e⟩:=d9 (c:=r) (j:=j) (by simpa using b);exact⟨x',by simpa using d,e⟩
section
variable {R:Type} {r:R} {J J':Bool→Nat→Prop} {β β':Bf} {h h':Ai} {w w':World} {ids:List Nat} {ρ:Nat→Nat}
theorem Hr {g:Aw}:∀ {ids:List Nat},(ids.map ρ).Nodup→∀ c y,Ah (sub g ρ ids) c=some y→∃ b x,b ∈ ids∧ρ b=c∧g b=some x∧y=Pa ρ x
 | [],_,c,y,d=>by simp[sub,Ah] at d
 | b::r,f,c,y,d=>by
  rw[List.map_cons,List.nodup_cons] at f
  rw[sub] at d
  split at d
  ·rename_i x n
   rw[Ad] at d
   by_cases e:c=ρ b
   ·rw[if_pos e] at d;simp at d
    exact⟨b,x,by simp,e.symm,n,d.symm⟩
   ·rw[if_neg e] at d
    obtain⟨i,x',j,k,l,m⟩:=Hr f.2 c y d
    exact⟨i,x',by simp[j],k,l,m⟩
  ·obtain⟨i,x',j,k,l,m⟩:=Hr f.2 c y d
   exact⟨i,x',by simp[j],k,l,m⟩
theorem Pi {g:Aw}:∀ {ids:List Nat},(ids.map ρ).Nodup→∀ b x,b ∈ ids→g b=some x→Ah (sub g ρ ids) (ρ b)=some (Pa ρ x)
 | [],_,b,x,d,_=>by simp at d
 | j::r,c,b,x,d,f=>by
  rw[List.map_cons,List.nodup_cons] at c
  rw[sub]
  by_cases e:b=j
  ·subst e
   rw[f]
   simp only
   rw[Ad,if_pos rfl]
  ·have i:b ∈ r:=by simpa[e] using d
   have ne:ρ b≠ρ j:=fun h=>c.1 (by rw[←h];exact List.mem_map.2 ⟨b,i,rfl⟩)
   split
   ·rw[Ad,if_neg ne];exact Pi c.2 b x i f
   ·exact Pi c.2 b x i f
def qQ (ρ:Nat→Nat) (ids:List Nat) (c:Nat):Option Nat:=ids.find? fun b=>Nat.beq (ρ b) c
theorem qR (c:(ids.map ρ).Nodup) {b:Nat} (d:b ∈ ids):qQ ρ ids (ρ b)=some b:=by
 induction ids with
 | nil=>simp at d
 | cons i r f =>
  rw[List.map_cons,List.nodup_cons] at c
  unfold qQ at f ⊢
  rw[List.find?_cons]
  by_cases e:b=i
  ·subst e;simp
  ·have j:b ∈ r:=by simpa[e] using d
   have ne:ρ i≠ρ b:=fun h=>c.1 (by rw[h];exact List.mem_map.2 ⟨b,j,rfl⟩)
   rw[Wx ne];exact f c.2 j
def Vi (ρ:Nat→Nat) (ids:List Nat) (β:Bf):Bf:=fun c=>(qQ ρ ids c).bind β
theorem Dz (c:(ids.map ρ).Nodup) {b:Nat} (d:b ∈ ids):Vi ρ ids β (ρ b)=β b:=by
 unfold Vi;rw[qR c d];rfl
mutual
theorem Rep.ren (hn:(ids.map ρ).Nodup):∀ {x:AV} {v:Value},(∀ b ∈ Dw x,b ∈ ids)→Rep J β h w x v→Rep J (Vi ρ ids β) (sub (Ah h) ρ ids) w (AO ρ x) v
 | .own b off n,v,hm,hr=>by
  rw[Rep] at hr
  obtain⟨x,A,cap,⟨hx,hmp⟩,h1,h2,h3⟩:=hr
  have hb:=hm b (by simp[Dw])
  rw[AO,Rep]
  refine⟨Pa ρ x,A,cap,⟨Pi hn b x hb hx,hmp⟩,h1,h2,?_⟩
  rw[G6,Dz hn hb]
  exact h3
 | .optr b off,v,hm,hr=>by
  rw[Rep] at hr
  obtain⟨x,k,o,⟨hx,hmp⟩,h1,h2⟩:=hr
  have hb:=hm b (by simp[Dw])
  rw[AO,Rep]
  refine⟨Pa ρ x,k,o,⟨Pi hn b x hb hx,hmp⟩,h1,?_⟩
  rw[Dz hn hb]
  exact h2
 | .omap b,v,hm,hr=>by
  rw[Rep] at hr
  obtain⟨x,k,⟨hx,hmp⟩,h2⟩:=hr
  have hb:=hm b (by simp[Dw])
  rw[AO,Rep]
  refine⟨Pa ρ x,k,⟨Pi hn b x hb hx,hmp⟩,?_⟩
  rw[Dz hn hb]
  exact h2
 | .agg c,v,hm,hr=>by
  rw[Rep] at hr
  obtain⟨cs,h1,h2⟩:=hr
  rw[AO,Rep]
  exact⟨cs,h1,Reps.ren hn (by simpa[Dw] using hm) h2⟩
 | .tup c,v,hm,hr=>by
  rw[Rep] at hr
  obtain⟨cs,h1,h2⟩:=hr
  rw[AO,Rep]
  exact⟨cs,h1,Reps.ren hn (by simpa[Dw] using hm) h2⟩
 | .fn f c,v,hm,hr=>by
  rw[Rep] at hr
  obtain⟨cs,h1,h2⟩:=hr
  rw[AO,Rep]
  exact⟨cs,h1,Reps.ren hn (by simpa[Dw] using hm) h2⟩
 | .pagg c o,v,hm,hr=>by show Rep J _ _ w (.pagg c o) v;rw[Rep] at hr ⊢;exact hr
 | .undef,v,hm,hr=>by show Rep J _ _ w (.undef) v;rw[Rep] at hr ⊢;exact hr
 | .imm c n sz t o,v,hm,hr=>by show Rep J _ _ w (.imm c n sz t o) v;rw[Rep] at hr ⊢;exact hr
 | .iptr c o,v,hm,hr=>by show Rep J _ _ w (.iptr c o) v;rw[Rep] at hr ⊢;exact hr
 | .int k n,v,hm,hr=>by show Rep J _ _ w (.int k n) v;rw[Rep] at hr ⊢;exact hr
 | .bool b,v,hm,hr=>by show Rep J _ _ w (.bool b) v;rw[Rep] at hr ⊢;exact hr
 | .str s,v,hm,hr=>by show Rep J _ _ w (.str s) v;rw[Rep] at hr ⊢;exact hr
 | .nsl,v,hm,hr=>by show Rep J _ _ w (.nsl) v;rw[Rep] at hr ⊢;exact hr
 | .nilptr,v,hm,hr=>by show Rep J _ _ w (.nilptr) v;rw[Rep] at hr ⊢;exact hr
 | .nilfn,v,hm,hr=>by show Rep J _ _ w (.nilfn) v;rw[Rep] at hr ⊢;exact hr
theorem Reps.ren (hn:(ids.map ρ).Nodup):∀ {c:List AV} {cs:List Value},(∀ b ∈ Es c,b ∈ ids)→Reps J β h w c cs→Reps J (Vi ρ ids β) (sub (Ah h) ρ ids) w (Mn ρ c) cs
 | [],cs,hm,hr=>by rw[Reps] at hr;rw[Mn,Reps];exact hr
 | x::r,cs,hm,hr=>by
  rw[Reps] at hr
  obtain⟨u,us,h1,h2,h3⟩:=hr
  rw[Mn,Reps]
  exact⟨u,us,h1,Rep.ren hn (fun b hb=>hm b (by simp[Es,hb])) h2,Reps.ren hn (fun b hb=>hm b (by simp[Es,hb])) h3⟩
end
theorem SimH.ren (S:SimH J β h w) (e:(ids.map ρ).Nodup) (B:∀ b ∈ F3 (Ah h) ids,b ∈ ids):SimH J (Vi ρ ids β) (sub (Ah h) ρ ids) w:=by
 refine⟨S.jlt,S.jft,S.gl,fun c y n s C=>?_,fun c y n s C=>by
   obtain⟨b,x,f,rfl,l,rfl⟩:=Hr e c y n
   obtain⟨m,t,k,ob,D,F,A,G⟩:=S.mblk b x l s C
   have:(Pa ρ x).cells=x.cells:=by unfold Pa;rw[m];rfl
   exact⟨m,t,k,ob,by rw[Dz e f];exact D,F,by rw[ObjIs,show(Pa ρ x).sz=x.sz from rfl,this];exact A,G⟩,?_⟩
 ·obtain⟨b,x,f,rfl,l,rfl⟩:=Hr e c y n
  rcases S.blk b x l s C with⟨m,t⟩ | ⟨k,o,cs,ty,fr,m,t,D,F,A,G,U⟩
  ·refine .inl ⟨by rw[Dz e f];exact m,?_⟩
   have:=G6 ρ x;rw[t] at this;simpa using this
  ·refine .inr ⟨k,o,cs,ty,fr,by rw[Dz e f];exact m,t,D,by rw[G6];exact F,⟨fun I=>?_,fun I j q O=>?_⟩,G,U⟩
   ·have d:x.pure=true:=I
    have:(Pa ρ x).cells=x.cells:=by unfold Pa;rw[d];rfl
    rw[this];exact A.1 d
   ·have d:x.pure=false:=I
    have:(Pa ρ x).cells=Mn ρ x.cells:=by unfold Pa;rw[d];rfl
    rw[this] at O
    obtain⟨V,hq,rfl⟩:=d9 O
    obtain⟨u,X,Y,ho⟩:=A.2 d j V hq
    exact⟨u,X,Rep.ren e (fun v i=>B v (LY f l d v (LZ hq v i))) Y,ho⟩
 ·intro c c' y y' k o o' n K s L hs T z
  obtain⟨b,x,f,rfl,l,rfl⟩:=Hr e c y n
  obtain⟨v,x',i,rfl,M,rfl⟩:=Hr e c' y' K
  rw[Dz e f] at T
  rw[Dz e i] at z
  rw[S.sep b v x x' k o o' l M s L hs T z]
theorem gA (d:(ids.map ρ).Nodup) {k:Nat} (f:iT (Vi ρ ids β) (sub (Ah h) ρ ids) k):iT β h k:=by
 obtain⟨c,y,o,i,j,l,e⟩:=f
 obtain⟨b,x,m,rfl,n,rfl⟩:=Hr d c y i
 rw[Dz d m] at e
 exact⟨b,x,o,n,j,l,e⟩
end
end Gx

namespace Gx
open Go
theorem H5 {ids:List Nat}:∀ {l:List Nat},U9 ids l=true→∀ b ∈ l,b ∈ ids
 | [],_,b,c=>by simp at c
 | i::r,h,b,c=>by
  rw[U9] at h
  simp at h
  rcases List.mem_cons.1 c with rfl | c
  ·exact F5.1 h.1
  ·exact H5 h.2 b c
theorem N4 {d:Nat}:∀ {l:List Nat} {base b:Nat},b ∈ l→base≤E2 d (Ap base l) b∧E2 d (Ap base l) b<base+l.length
 | [],base,b,c=>by simp at c
 | i::r,base,b,c=>by
  rw[Ap,E2]
  cases f:Nat.beq i b with
  | true=>simp
  | false =>
   have e:=Mo f
   have j:b ∈ r:=by
    rcases List.mem_cons.1 c with h | h
    ·exact absurd h.symm e
    ·exact h
   have:=N4 (d:=d) (base:=base+1) j
   simp only[cond_false,List.length_cons]
   omega
theorem jA {free ids:List Nat} {b:Nat} (h:Rp free b=true):Nz free ids b=b:=by unfold Nz;rw[h];rfl
theorem gB {free ids:List Nat} {b:Nat} (h:Rp free b=false) (c:b ∈ ids):300000≤Nz free ids b:=by
 unfold Nz qG;rw[h]
 exact(N4 (List.mem_filter.2 ⟨c,by simp[h]⟩)).1
theorem VC {b:Nat}:UC b=true↔100000≤b∧b<200000:=by unfold UC;simp
theorem OT {free ids:List Nat} {b c:Nat} (f:b ∈ ids) (i:100000≤c∧c<200000) (d:Nz free ids b=c):b=c:=by
 cases e:Rp free b with
 | true=>rw[jA e] at d;exact d
 | false=>have:=gB e f;omega
theorem Rv {ρ:Nat→Nat} {K:List Nat}:∀ {s:Dv} {i:Nat},Dd (qH ρ K s) i=if E5 K i=true then AO ρ (Dd s i) else .undef
 | [],i=>by
  show AV.undef=if E5 K i=true then AO ρ .undef else AV.undef
  simp[AO]
 | (t,v)::r,i=>by
  rw[qH]
  by_cases e:t=i
  ·subst e
   cases b:E5 K t with
   | true=>simp[Dd]
   | false=>simp only[cond_false];rw[Rv];simp[b]
  ·have c:Nat.beq t i=false:=Wx e
   cases b:E5 K t with
   | true=>simp only[cond_true,Dd,c,cond_false];exact Rv
   | false=>simp only[cond_false,Dd,c];exact Rv
theorem jB {g:Aw} {l:List Nat} {b:Nat} (h:b ∈ Pd g l):∃ x,g b=some x∧x.dead=false:=by
 unfold Pd at h
 obtain⟨_,c⟩:=List.mem_filter.1 h
 unfold Di at c
 cases d:g b with
 | none=>simp[d] at c
 | some x =>
  cases e:x.dead with
  | false=>exact⟨x,rfl,e⟩
  | true=>simp[d,e] at c
section
variable {Z:Start} {nt:Nat} {J:Bool→Nat→Prop} {β:Bf} {st st':St} {a:Act} {w:World}
def AV.isz:AV→Nat
 | .imm _ _ s _ _=>s
 | _=>0
theorem Hs {live:List Nat}:∀ (nils:List (Nat×Nat)) {st:St} {J:Bool→Nat→Prop} {β:Bf},Inv Z nt J β st a w→Tl live nils st=some st'→∃ J' β',Inv Z nt J' β' st' a w
 | [],st,J,β,I,f=>by simp[Tl] at f;subst f;exact⟨J,β,I⟩
 | (t,sz)::r,st,J,β,I,f=>by
  rw[Tl] at f
  cases z:Nat.ble 1000000 sz with
  | true =>
   rw[z,cond_true] at f
   split at f
   ·rename_i O l
    refine Hs r (J:=J) (β:=β) (st:={ s:=EH st.s t (.imm [] 0 (sz - 1000000) false false),h:=st.h }) ?_ f
    refine { I with ss:=⟨fun i v k=>?_,fun i m=>?_⟩ }
    ·rw[Ho]
     by_cases e:i=t
     ·subst e
      have:=I.ss.slot i v k
      rw[l,Rep] at this
      subst this
      rw[if_pos rfl,Rep,RepC]
      exact⟨by simp,none,0,rfl,Nat.le_refl _,fun _=>rfl,.inl rfl⟩
     ·rw[if_neg e];exact I.ss.slot i v k
    ·rw[Ho]
     by_cases e:i=t
     ·subst e
      have:=I.ss.out i m
      rw[l] at this;cases this
     ·rw[if_neg e];exact I.ss.out i m
   ·rename_i b off n O l
    obtain⟨⟨v',ups,org⟩,B,T⟩:=ub f
    by_cases C:∃ v,a.tmps[t]?=some v
    ·obtain⟨v0,D⟩:=C
     have S:=I.ss.slot t v0 D
     rw[l] at S
     obtain⟨J1,A,q,_⟩:=Wy I.sim (fun b x U=>⟨x,U,rfl⟩) B S
     have I1:=I.step A (fun c x u G=>by
      exfalso
      unfold AQ at B
      obtain⟨y,K,j⟩:=ub B
      obtain⟨_,j⟩:=uc j
      simp at j
      obtain⟨_,j,_⟩:=j
      subst j
      simp only[Ag,Ad] at u
      unfold Di at K
      obtain⟨y0,F,_⟩:=ub K
      by_cases e:c=b
      ·subst e;rw[G] at F;cases F
      ·rw[if_neg e,G] at u;cases u)
     refine Hs r (J:=J1) (β:=β) (st:={ s:=EH st.s t v',h:=Ag ups st.h }) ?_ T
     have L:∃ c,v'=.imm c n (v'.isz) false org:=by
      unfold AQ at B
      obtain⟨y,K,j⟩:=ub B
      obtain⟨_,j⟩:=uc j
      simp at j
      obtain⟨j,_,V⟩:=j
      subst j V
      exact⟨_,rfl⟩
     refine { I1 with ss:=⟨fun i v k=>?_,fun i m=>?_⟩ }
     ·rw[Ho]
      by_cases e:i=t
      ·subst e
       rw[if_pos rfl]
       rw[D] at k;simp at k;subst k
       obtain⟨c,X⟩:=L
       rw[X] at q ⊢
       rw[Rep];exact q
      ·rw[if_neg e];exact I1.ss.slot i v k
     ·rw[Ho]
      by_cases e:i=t
      ·subst e
       have:=I.ss.out i m
       rw[l] at this;cases this
      ·rw[if_neg e];exact I1.ss.out i m
    ·exfalso
     have:=I.ss.out t (by
      cases h:a.tmps[t]? with
      | none=>simp at h;omega
      | some v=>exact absurd ⟨v,h⟩ C)
     rw[l] at this;cases this
   ·exact Hs r I f
  | false =>
   rw[z,cond_false] at f
   split at f
   ·rename_i O l
    cases M:Ah st.h (nid t+15) with
    | some x=>simp[M] at f
    | none =>
     simp[M] at f
     have A:=Step.newNone I.sim (d:=nid t+15) (x:=De sz) M rfl
     have I1:=I.step A (fun b x u G=>by
      rw[Ad] at u
      by_cases e:b=nid t+15
      ·subst e;unfold nid D6;omega
      ·rw[if_neg e,G] at u;cases u)
     refine Hs r (J:=J) (β:=fun b=>if b=nid t+15 then none else β b) (st:={ s:=EH st.s t (.own (nid t+15) 0 0),h:=Cu st.h (nid t+15) (De sz) }) ?_ f
     refine { I1 with ss:=⟨fun i v k=>?_,fun i m=>?_⟩ }
     ·rw[Ho]
      by_cases e:i=t
      ·subst e
       rw[if_pos rfl,Rep]
       have:=I.ss.slot i v k
       rw[l,Rep] at this
       subst this
       exact⟨De sz,none,0,⟨by rw[Ad,if_pos rfl],rfl⟩,rfl,Nat.le_refl _,.inl rfl⟩
      ·rw[if_neg e];exact I1.ss.slot i v k
     ·rw[Ho]
      by_cases e:i=t
      ·subst e
       have:=I.ss.out i m
       rw[l] at this;cases this
      ·rw[if_neg e];exact I1.ss.out i m
   ·exact Hs r I f
theorem W5 {E:Env} {live roots:List Nat} (I:Inv Z nt J β st a w) (l:GO E live roots st=some st'):∃ J' β',Inv Z nt J' β' st' a w:=by
 unfold GO at l
 obtain⟨s1,t,u⟩:=ub l
 obtain⟨J1,β1,I1⟩:=Hs _ I t
 obtain⟨m,n⟩:=uc u
 simp at m n
 subst n
 obtain⟨c,y,e,_⟩:=m
 have c:=Kv c
 have f:∀ b ∈ F3 (Ah s1.h) (Pd (Ah s1.h) (Nw (Ah s1.h) (UA live s1.s++roots))),b ∈ Pd (Ah s1.h) (Nw (Ah s1.h) (UA live s1.s++roots)):=H5 e
 refine⟨J1,Vi _ _ β1,{ I1 with sim:=I1.sim.ren c f,ss:=⟨fun i v z=>?_,fun i e=>?_⟩,wr:=fun k A=>I1.wr k (gA c A),outs:=fun b x0 x j B C=>?_ }⟩
 ·rw[Rv]
  cases D:E5 live i with
  | false=>simp[Rep]
  | true =>
   simp only[if_true]
   exact Rep.ren c (fun b F=>H5 y b (US D b F)) (I1.ss.slot i v z)
 ·rw[Rv,I1.ss.out i e];simp[AO]
 ·obtain⟨G,x',d,q,K,rfl⟩:=Hr c b x B
  have:=OT d ⟨I1.zge b x0 j,I1.zlt b x0 j⟩ q
  subst this
  obtain⟨⟨L,em⟩,M,O,S⟩:=I1.outs G x0 x' j K C
  refine⟨⟨?_,em⟩,M,by rw[G6];exact O,S⟩
  have:=Dz (β:=β1) c d
  rw[q] at this
  rw[this];exact L
end
end Gx

namespace Gx
open Go
section
variable {R:Type} {r:R} {Z:Start} {E:Env}
theorem jC (hC:ER E) (B:E.P.follows .mixedOrders=true) {roots:List Nat} {N:Nat}:∀ (c:Code) {H:Hint} {kn:St→O R} {kx:Nat→St→O R} {kr:St→O R} {st:St} {a:Act} {w:World} {J:Bool→Nat→Prop} {β:Bf} {Q:Exit→Act→World→Prop},
  Inv Z E.nt J β st a w→Df E roots N c H kn kx kr st=some r →
  (∀ st' d w' J' β',Inv Z E.nt J' β' st' d w'→kn st'=some r→Q .normal d w') →
  (∀ id st' d w' J' β',Inv Z E.nt J' β' st' d w'→kx id st'=some r→Q (.exit id) d w') →
  (∀ st' d w' J' β',Inv Z E.nt J' β' st' d w'→kr st'=some r→Q .ret d w')→c.wp E.P Q a w:=by
 intro c
 induction c with
 | skip=>intro H kn kx kr st a w J β Q I b e f i;exact wp_skip (e _ _ _ _ _ I b)
 | region id ops draw=>intro H kn kx kr st a w J β Q I b e f i;exact b9 hC B I b e
 | seq x y m l =>
  intro H kn kx kr st a w J β Q I b e f i
  rw[Df] at b
  refine wp_seq (m I b (fun st' d w' J' β' I' h'=>?_) (fun id st' d w' J' β' I' h'=>f id st' d w' J' β' I' h') (fun st' d w' J' β' I' h'=>i st' d w' J' β' I' h'))
  unfold nq at h'
  cases q:H.isJoin with
  | true =>
   rw[q,cond_true,Pe] at h'
   obtain⟨s2,s,u⟩:=ub h'
   obtain⟨J2,β2,I2⟩:=W5 I' s
   exact l I2 u e f i
  | false=>rw[q] at h';exact l I' h' e f i
 | cond c x y m l =>
  intro H kn kx kr st a w J β Q I b e f i
  rw[Df] at b
  split at b
  ·rename_i t C
   have A:=At I.ss c
   rw[C,Rep] at A
   refine wp_cond A ?_
   cases t with
   | true=>exact m I b e f i
   | false=>exact l I b e f i
  ·simp at b
 | block id c v =>
  intro H kn kx kr st a w J β Q I b e f i
  rw[Df] at b
  refine wp_block (v I b (fun st' d w' J' β' I' h'=>e _ _ _ _ _ I' h') (fun j st' d w' J' β' I' h'=>?_) (fun st' d w' J' β' I' h'=>i _ _ _ _ _ I' h'))
  cases q:Nat.beq j id with
  | true =>
   rw[q] at h'
   have:=Nat.eq_of_beq_eq_true q
   subst this
   simp only[Exit.inBlock,if_true]
   exact e _ _ _ _ _ I' h'
  | false =>
   rw[q] at h'
   simp only[Exit.inBlock]
   rw[if_neg (Mo q)]
   exact f _ _ _ _ _ _ I' h'
 | loop c v =>
  intro H kn kx kr st a w J β Q I b e f i
  rw[Df,Pe] at b
  refine wp_loop_rounds N ?_
  have key:∀ (n:Nat) {st:St} {a:Act} {w:World} {J:Bool→Nat→Prop} {β:Bf},Inv Z E.nt J β st a w→Wu (GO E H.live roots) (fun k st=>Df E roots N c H.a k kx kr st) n st=some r→Code.rounds E.P c Q n a w:=by
   intro n
   induction n with
   | zero=>intro st a w J β I h';simp[Wu] at h'
   | succ n z =>
    intro st a w J β I h'
    rw[Wu] at h'
    rw[rounds_succ]
    refine v I h' (fun st' d w' J' β' I' h''=>?_) (fun id st' d w' J' β' I' h''=>f _ _ _ _ _ _ I' h'') (fun st' d w' J' β' I' h''=>i _ _ _ _ _ I' h'')
    obtain⟨s2,s,u⟩:=ub h''
    obtain⟨J2,β2,I2⟩:=W5 I' s
    exact z I2 u
  obtain⟨s2,s,u⟩:=ub b
  obtain⟨J2,β2,I2⟩:=W5 I s
  exact key N I2 u
 | exit id=>intro H kn kx kr st a w J β Q I b e f i;exact wp_exit (f _ _ _ _ _ _ I b)
 | ret=>intro H kn kx kr st a w J β Q I b e f i;exact wp_ret (i _ _ _ _ _ I b)
 | rangeFunc=>intro H kn kx kr st a w J β Q I b;simp[Df] at b
 | scope=>intro H kn kx kr st a w J β Q I b;simp[Df] at b
 | label=>intro H kn kx kr st a w J β Q I b;simp[Df] at b
 | goto=>intro H kn kx kr st a w J β Q I b;simp[Df] at b
 | refuse=>intro H kn kx kr st a w J β Q I b;simp[Df] at b
end
end Gx

namespace Gx
open Go
structure FDone (Z:Start) (J:Bool→Nat→Prop) (β:Bf) (h:Ai) (w:World):Prop where
 sim:SimH J β h w
 os:w.os=Z.w.os
 tape:w.tape=Z.w.tape
 output:w.output=Z.w.output
 size:Z.w.heap.size≤w.heap.size
 frame:∀ k,k<Z.w.heap.size→¬ iT Z.β Z.h k→w.heap[k]?=Z.w.heap[k]?
 wr:∀ k,iT β h k→k<Z.w.heap.size→iT Z.β Z.h k
 jsub:∀ o k,Z.J o k→J o k
 jup:∀ o k,J o k→Z.J o k∨iT Z.β Z.h k∨Z.w.heap.size≤k
 sizes:∀ k,Au Z.w k≤Au w k
 outs:∀ b x0 x,Ah Z.h b=some x0→Ah h b=some x→x.dead=false→(β b=Z.β b∧x.mp=x0.mp)∧x.sz=x0.sz∧(x0.mp=false→x.cells.length=x0.cells.length)∧x0.dead=false
 live:∀ b x,Ah h b=some x→x.dead=false
def tb (P:Program) (f:Nat) (args:LA) (h:Ai) (res:AV) (h':Ai):Prop :=
 ∀ (J:Bool→Nat→Prop) (β:Bf) (w:World) (vs:List Value),SimH J β h w→Reps J β h w args vs →
  Calls P f vs.toArray w fun e w'=>∃ vc J' β',e=.returned vc∧FDone ⟨J,β,h,w⟩ J' β' h' w'∧Rep J' β' h' w' res vc
def lT (P:Program) (f:Nat) (t:Tw):Prop:=∀ args h res h',(t.runK args h fun v h'=>some (v,h'))=some (res,h')→tb P f args h res h'
def VD (P:Program):List (Nat×Tw)→Prop
 | []=>True
 | p::r=>lT P p.1 p.2∧VD P r
theorem jD {P:Program} {R:Type} {r:R}:∀ {T:List (Nat×Tw)},VD P T→∀ {f:Nat} {b:LA} {h:Ai} {k:AV→Ai→O R},GL T f b h k=some r →
  ∃ c h',tb P f b h c h'∧k c h'=some r
 | [],_,f,b,h,k,d=>by simp[GL] at d
 | (g,t)::T,hT,f,b,h,k,d=>by
  rw[GL] at d
  cases e:Nat.beq g f with
  | false=>rw[e] at d;exact jD hT.2 d
  | true =>
   rw[e] at d
   have:=Nat.eq_of_beq_eq_true e
   subst this
   simp only[cond_true] at d
   rw[t.eq] at d
   obtain⟨⟨c,h'⟩,i,j⟩:=ub d
   exact⟨c,h',hT.1 b h c h' i,j⟩
section
variable {R:Type} {r:R} {Z:Start} {nt:Nat} {J:Bool→Nat→Prop} {β:Bf} {st:St} {a:Act} {w:World}
def G_ (tmps:Array Value):ResultVar→Sem Value
 | .tmp t=>pure (tmps.getD t undef)
 | .cell a t=>do loadVar t (←Go.asAddr (tmps.getD a undef))
theorem qS {α β:Type} (f:α→Sem β) (xs:Array α):xs.mapM f=(List.toArray <$> xs.toList.mapM f):=by
 rw[←List.mapM_toArray]
theorem lU (fn:Func) (tmps:Array Value):results fn tmps=(do let vs ←fn.results.mapM (G_ tmps);pure (if h:vs.size=1 then vs[0] else .tuple vs)):=by
 unfold results
 congr 1
def jE (l:List Value):Value:=match l with | [v]=>v | l=>.tuple l.toArray
theorem jF {P:Program} (fn:Func) (tmps:Array Value) {vs:List Value} (h:(fn.results.toList.mapM (G_ tmps)).run P w=.ok vs w):(results fn tmps).run P w=.ok (jE vs) w:=by
 rw[lU,qS]
 simp only[map_eq_pure_bind,Sem.run_bind,h,Result.andThen_ok,Sem.run_pure]
 congr 1
 match vs with
 | []=>rfl
 | [v]=>rfl
 | v::u::r=>simp[jE]
theorem jG {P:Program} {t:TypeId} {v vc:Value} (h:(Instr.loadAt t v).run P w=.ok vc w):(do loadVar t (←Go.asAddr v):Sem Value).run P w=.ok vc w:=by
 unfold Instr.loadAt at h
 cases v with
 | pointer a =>
  cases a with
  | some a=>exact h
  | none=>simp[Instr.sureAddr] at h
 | _=>simp[Instr.sureAddr] at h
theorem Q5 {E:Env} (S:SimH J β st.h w) (SS:SimS J β st.h w st.s a.tmps):∀ (l:List ResultVar) {b:LA} {k:LA→O R},Hn E st l b k=some r →
  ∃ vals vs,k (b.reverse++vals)=some r∧(l.mapM (G_ a.tmps)).run E.P w=.ok vs w∧Reps J β st.h w vals vs
 | [],b,k,c=>⟨[],[],by simpa[Hn] using c,by simp,by rw[Reps]⟩
 | .tmp t::l,b,k,c=>by
  rw[Hn] at c
  obtain⟨vals,vs,d,e,f⟩:=Q5 S SS l c
  refine⟨Dd st.s t::vals,a.tmps.getD t undef::vs,by simpa using d,?_,by rw[Reps];exact⟨_,_,rfl,At SS (.tmp t),f⟩⟩
  simp only[List.mapM_cons,G_,Sem.run_bind,Sem.run_pure,Result.andThen_ok,e]
 | .cell ad t::l,b,k,c=>by
  rw[Hn] at c
  obtain⟨v,vc,i,d,e⟩:=OF S (fun _ _ h=>h) c (At SS (.tmp ad))
  obtain⟨vals,vs,f,j,m⟩:=Q5 S SS l i
  refine⟨v::vals,vc::vs,by simpa using f,?_,by rw[Reps];exact⟨_,_,rfl,e,m⟩⟩
  have:(G_ a.tmps (.cell ad t)).run E.P w=.ok vc w:=jG d
  simp only[List.mapM_cons,Sem.run_bind,this,Sem.run_pure,Result.andThen_ok,j]
theorem lV {i:Nat} {m:Nat×Nat} {v v':AV} {ups:Cy} {vc:Value} {h:Ai} (S:SimH J β h w) (d:s7 (Ah h) i m v=some (v',ups)) (f:Rep J β h w v vc) :
  ∃ J' β',Step J β h w J' β' (Ag ups h) w∧Rep J' β' (Ag ups h) w v' vc∧(∀ b x,Ah (Ag ups h) b=some x→Ah h b=none→D6≤b):=by
 have old:∀ {ups:Cy},(∀ b,As ups b=true→∃ x,Ah h b=some x)→∀ b x,Ah (Ag ups h) b=some x→Ah h b=none→D6≤b:=by
  intro ups D b x j q
  cases u:As ups b with
  | true=>obtain⟨y,F⟩:=D b u;rw[F] at q;cases q
  | false=>rw[Bs _ _ _ u,q] at j;cases j
 unfold s7 at d
 cases z:Nat.beq m.1 0 with
 | true =>
  rw[z] at d;simp at d
  obtain⟨rfl,rfl⟩:=d
  exact⟨J,β,Step.refl S,f,old (by simp[As])⟩
 | false =>
  rw[z,cond_false] at d
  cases B:Nat.beq m.1 1 with
  | true =>
   rw[B,cond_true] at d
   split at d
   ·simp at d;obtain⟨rfl,rfl⟩:=d
    rw[Rep] at f;subst f
    refine⟨J,β,Step.refl S,?_,old (by simp[As])⟩
    rw[Rep,RepC]
    exact⟨by simp,none,0,rfl,Nat.le_refl _,by simp,.inl rfl⟩
   ·simp at d;obtain⟨rfl,rfl⟩:=d
    refine⟨J,β,Step.refl S,?_,old (by simp[As])⟩
    rw[Rep,RepC] at f ⊢
    obtain⟨G,A,cap,I,K,X,L⟩:=f
    exact⟨G,A,cap,I,K,by simp,L⟩
   ·obtain⟨⟨M,O,T⟩,hq,l⟩:=ub d
    simp at l;obtain⟨rfl,rfl⟩:=l
    obtain⟨J',A,hA,_⟩:=Wy S (Looks.s fun _ _ h=>h) hq f
    refine⟨J',β,A,?_,old (dY hq)⟩
    unfold AQ at hq
    obtain⟨x,j,k⟩:=ub hq
    obtain⟨_,C⟩:=uc k
    simp at C
    obtain⟨rfl,rfl,rfl⟩:=C
    rw[Rep];exact hA
   ·simp at d
  | false =>
   rw[B,cond_false] at d
   cases l:Nat.beq m.1 2 with
   | true =>
    rw[l,cond_true] at d
    split at d
    ·obtain⟨q,k⟩:=ky d
     simp at k;obtain⟨rfl,rfl⟩:=k
     have t:Ah h (nid 90000+i)=none:=by cases j:Ah h (nid 90000+i)<;>simp_all
     have A:=Step.newNone S (x:=De m.2) t rfl
     refine⟨J,fun b=>if b=nid 90000+i then none else β b,A,?_,fun b x j U=>?_⟩
     ·rw[Rep] at f;subst f;rw[Rep]
      exact⟨De m.2,none,0,⟨by simp only[Ag];rw[Ad,if_pos rfl],rfl⟩,rfl,Nat.le_refl _,.inl rfl⟩
     ·simp only[Ag] at j
      rw[Ad] at j
      by_cases e:b=nid 90000+i
      ·subst e;unfold nid D6;omega
      ·rw[if_neg e,U] at j;cases j
    ·simp at d;obtain⟨rfl,rfl⟩:=d
     exact⟨J,β,Step.refl S,f,old (by simp[As])⟩
   | false =>
    rw[l,cond_false] at d
    split at d
    ·rename_i c
     obtain⟨⟨M,O,T⟩,hq,k⟩:=ub d
     simp at k;obtain⟨rfl,rfl⟩:=k
     rw[Rep] at f
     obtain⟨cs,rfl,V⟩:=f
     obtain⟨J',A,hA,n,_⟩:=Jn S (Looks.s fun _ _ h=>h) hq V
     refine⟨J',β,A,?_,old (N0 hq)⟩
     rw[Rep]
     exact⟨cs,rfl,n.symm,hA⟩
    ·simp at d;obtain⟨rfl,rfl⟩:=d
     exact⟨J,β,Step.refl S,f,old (by simp[As])⟩
    ·simp at d
theorem OU {s:Dv}:∀ (vals:LA) {i:Nat} {ms:List (Nat×Nat)} {h h':Ai} {vals':LA} {vs:List Value} {J:Bool→Nat→Prop} {β:Bf},
  Inv Z nt J β { s:=s,h:=h } a w→iR h i ms vals=some (vals',h')→Reps J β h w vals vs →
  ∃ J' β',Inv Z nt J' β' { s:=s,h:=h' } a w∧Reps J' β' h' w vals' vs∧∀ x v,Rep J β h w x v→Rep J' β' h' w x v
 | [],i,ms,h,h',vals',vs,J,β,I,b,d=>by
  simp[iR] at b;obtain⟨rfl,rfl⟩:=b
  exact⟨J,β,I,d,fun _ _ h=>h⟩
 | v::r,i,ms,h,h',vals',vs,J,β,I,b,d=>by
  rw[iR] at b
  obtain⟨⟨v1,u1⟩,l,m⟩:=ub b
  obtain⟨⟨t,y⟩,n,j⟩:=ub m
  simp at j;obtain⟨rfl,rfl⟩:=j
  rw[Reps] at d
  obtain⟨u,q,rfl,e,f⟩:=d
  obtain⟨J1,β1,A,hA,c⟩:=lV I.sim l e
  have I1:=I.step A c
  obtain⟨J2,β2,I2,hB,k⟩:=OU r I1 n (Reps.ext A.ext f)
  refine⟨J2,β2,I2,?_,fun x v h=>k x v (Rep.ext A.ext h)⟩
  rw[Reps]
  exact⟨u,q,rfl,k _ _ hA,hB⟩
theorem b_ {E:Env} {fn:Func} {modes:List (Nat×Nat)} {outs:List Nat} {k:AV→Ai→O R} (I:Inv Z nt J β st a w) (z:My E fn modes outs k st=some r) :
  ∃ f h' vc J' β',k f h'=some r∧(results fn a.tmps).run E.P w=.ok vc w∧FDone Z J' β' h' w∧Rep J' β' h' w f vc:=by
 unfold My at z
 obtain⟨vals,vs,A,F,G⟩:=Q5 I.sim I.ss _ z
 simp only[List.reverse_nil,List.nil_append] at A
 obtain⟨⟨vals',h'⟩,K,L⟩:=ub A
 obtain⟨J1,β1,I1,hR,_⟩:=OU (s:=st.s) vals I K G
 obtain⟨B,M⟩:=uc L
 simp at B
 obtain⟨e,i,S,_⟩:=B
 have e:=Kv e
 have j:=H5 S
 have i:=H5 i
 refine⟨_,_,jE vs,J1,Vi _ _ β1,M,jF fn a.tmps F,?_,Rep.ren e i ?_⟩
 ·exact⟨I1.sim.ren e j,I1.os,I1.tape,I1.output,I1.size,I1.frame,fun k T=>I1.wr k (gA e T),I1.jsub,I1.jup,I1.sizes,fun b x0 x m n U=>by
   obtain⟨C,x',d,q,t,rfl⟩:=Hr e b x n
   have:=OT d ⟨I1.zge b x0 m,I1.zlt b x0 m⟩ q
   subst this
   obtain⟨⟨V,em⟩,X,Y,e4⟩:=I1.outs C x0 x' m t U
   refine⟨⟨?_,em⟩,X,by rw[G6];exact Y,e4⟩
   have:=Dz (β:=β1) e d
   rw[q] at this
   rw[this];exact V,fun b x n=>by
   obtain⟨C,x',d,q,t,rfl⟩:=Hr e b x n
   obtain⟨x2,y,h8⟩:=jB d
   rw[t] at y;simp at y;subst y;exact h8⟩
 ·match vals',vs,hR with
  | [],vs,hR=>rw[Reps] at hR;subst hR;simp only[jE,s8];rw[Rep];exact⟨[],rfl,by rw[Reps]⟩
  | [v],vs,hR =>
   rw[Reps] at hR
   obtain⟨u,us,rfl,D,c⟩:=hR
   rw[Reps] at c;subst c
   exact D
  | v::v2::l,vs,hR =>
   have hR':=hR
   rw[Reps] at hR
   obtain⟨u,us,rfl,D,c⟩:=hR
   rw[Reps] at c
   obtain⟨u2,us2,rfl,_,_⟩:=c
   simp only[jE,s8]
   rw[Rep]
   exact⟨_,rfl,hR'⟩
end
end Gx

namespace Gx
open Go
section
variable {J J':Bool→Nat→Prop} {β:Bf} {h:Ai} {w:World}
mutual
theorem Rep.noOrg:∀ {x:AV} {v:Value},Qw x=false→Rep J β h w x v→Rep (fun _=>J false) β h w x v
 | .own ..,v,_,hr=>by rw[Rep] at hr ⊢;exact hr
 | .optr ..,v,_,hr=>by rw[Rep] at hr ⊢;exact hr
 | .omap ..,v,_,hr=>by rw[Rep] at hr ⊢;exact hr
 | .pagg c o,v,ho,hr=>by
  rw[Qw] at ho;subst ho
  rw[Rep] at hr ⊢;exact hr
 | .agg c,v,ho,hr=>by
  rw[Qw] at ho
  rw[Rep] at hr ⊢
  obtain⟨cs,h1,h2⟩:=hr
  exact⟨cs,h1,Reps.noOrg ho h2⟩
 | .tup c,v,ho,hr=>by
  rw[Qw] at ho
  rw[Rep] at hr ⊢
  obtain⟨cs,h1,h2⟩:=hr
  exact⟨cs,h1,Reps.noOrg ho h2⟩
 | .fn f c,v,ho,hr=>by
  rw[Qw] at ho
  rw[Rep] at hr ⊢
  obtain⟨cs,h1,h2⟩:=hr
  exact⟨cs,h1,Reps.noOrg ho h2⟩
 | .undef,_,_,_=>by rw[Rep];trivial
 | .imm c n sz t o,v,ho,hr=>by
  rw[Qw] at ho;subst ho
  rw[Rep] at hr ⊢;exact hr
 | .iptr c o,v,ho,hr=>by
  rw[Qw] at ho;subst ho
  rw[Rep] at hr ⊢;exact hr
 | .int ..,v,_,hr=>by rw[Rep] at hr ⊢;exact hr
 | .bool _,v,_,hr=>by rw[Rep] at hr ⊢;exact hr
 | .str _,v,_,hr=>by rw[Rep] at hr ⊢;exact hr
 | .nsl,v,_,hr=>by rw[Rep] at hr ⊢;exact hr
 | .nilptr,v,_,hr=>by rw[Rep] at hr ⊢;exact hr
 | .nilfn,v,_,hr=>by rw[Rep] at hr ⊢;exact hr
theorem Reps.noOrg:∀ {c:List AV} {cs:List Value},Ll c=false→Reps J β h w c cs→Reps (fun _=>J false) β h w c cs
 | [],_,_,hr=>by rw[Reps] at hr ⊢;exact hr
 | x::r,cs,ho,hr=>by
  rw[Ll] at ho
  simp at ho
  rw[Reps] at hr ⊢
  obtain⟨u,us,h1,h2,h3⟩:=hr
  exact⟨u,us,h1,Rep.noOrg ho.1 h2,Reps.noOrg ho.2 h3⟩
end
theorem VE:∀ {c:LA} {j:Nat} {x:AV},Ll c=false→c[j]?=some x→Qw x=false
 | [],j,x,_,b=>by simp at b
 | y::r,j,x,d,b=>by
  rw[Ll] at d
  simp at d
  cases j with
  | zero=>simp at b;subst b;exact d.1
  | succ j=>exact VE d.2 (by simpa using b)
theorem VF:∀ {h:Ai} {b:Nat} {x:Blk},GM h=false→Ah h b=some x→x.taint=false∧(x.pure=false→Ll x.cells=false)
 | [],b,x,_,c=>by simp[Ah] at c
 | (i,y)::r,b,x,d,c=>by
  rw[GM] at d
  simp at d
  rw[Ah] at c
  cases e:Nat.beq i b with
  | true =>
   rw[e] at c;simp at c;subst c
   refine⟨d.1.1,fun f=>?_⟩
   have:=d.1.2
   rw[f] at this;simpa using this
  | false=>rw[e] at c;exact VF d.2 (by simpa using c)
theorem SimH.noOrg (S:SimH J β h w) (z:GM h=false):SimH (fun _=>J false) β h w:=by
 refine⟨fun _ k d=>S.jlt _ k d,fun k d=>d,S.gl.to (fun _ h=>h) (fun _ _=>rfl),fun b x e i l=>?_,fun b x e i l=>by
   obtain⟨m,n,k,ob,q,A,B,C⟩:=S.mblk b x e i l
   exact⟨m,n,k,ob,q,A,B,fun _ D=>C false D⟩,S.sep⟩
 obtain⟨v,F⟩:=VF z e
 rcases S.blk b x e i l with s | ⟨k,o,cs,ty,fr,s,G,I,K,y,L,M⟩
 ·exact .inl s
 ·refine .inr ⟨k,o,cs,ty,fr,s,G,I,K,⟨fun f=>?_,fun f j c d=>?_⟩,fun t _=>L t _,fun t=>?_⟩
  ·have:=y.1 f;rw[v] at this;exact this
  ·obtain⟨u,m,n,q⟩:=y.2 f j c d
   exact⟨u,m,Rep.noOrg (VE (F f) d) n,q⟩
  ·have:=M t;rw[v] at this;exact this
theorem Ext.grow (hJ:∀ o k,J o k→J' o k):Ext J β h w J' β h w:=⟨hJ,fun _ _ _=>rfl,fun b x c=>⟨x,⟨c,rfl⟩,by cases d:x.dead<;>simp⟩,fun _ _ _ _=>Nat.le_refl _⟩
theorem SimH.grow (S:SimH J β h w) (hJ:∀ o k,J o k→J' o k) (i:∀ o k,J' o k→k<w.heap.size) (j:∀ k,J' false k→J' true k)
  (c:∀ b x k o,Ah h b=some x→x.dead=false→x.sealed=false→β b=some (k,o)→∀ g,¬ J' g k):SimH J' β h w:=by
 refine⟨i,j,S.gl.to (hJ false) (fun _ _=>rfl),fun b x d e l=>?_,fun b x d e l=>by
   obtain⟨s,n,k,ob,q,t,u,C⟩:=S.mblk b x d e l
   exact⟨s,n,k,ob,q,t,u,c b x k 0 d e n q⟩,S.sep⟩
 rcases S.blk b x d e l with f | ⟨k,o,cs,ty,fr,f,v,y,z,A,D,B⟩
 ·exact .inl f
 ·exact .inr ⟨k,o,cs,ty,fr,f,v,y,z,A.ext (Ext.grow hJ),fun m=>c b x k o d e m f,fun m=>hJ _ _ (B m)⟩
def tJ (β:Bf) (h:Ai) (fz:List Nat) (k:Nat):Prop:=∃ b x o,b ∈ fz∧Ah h b=some x∧x.dead=false∧x.sealed=false∧β b=some (k,o)
def JS (J:Bool→Nat→Prop) (β:Bf) (h:Ai) (fz:List Nat):Bool→Nat→Prop:=fun o k=>J o k∨(o=true∧tJ β h fz k)
theorem VG {g:Aw} {b off n:Nat} {x:Blk} {vc:Value} {fz:List Nat} (S:SimH J β h w) (v:Looks g h) (c:Di g b=some x) (y:x.pure=true) (z:x.sealed=false→b ∈ fz) (t:Rep J β h w (.own b off n) vc) :
  Rep (JS J β h fz) β h w (.imm ((x.cells.drop off).take (n*x.sz)) n x.sz false (!x.sealed||x.taint)) vc:=by
 unfold Di at c
 obtain⟨x0,m,c⟩:=ub c
 obtain⟨q,c⟩:=ky c
 simp at c;subst c
 have j:=v b _ m
 rw[Rep]
 have key:=(nH (J':=fun o k=>o≠x0.taint∨JS J β h fz (!x0.sealed||x0.taint) k) S j q y t (fun k o s=>.inr ?_) (fun o k f=>?_) false (!x0.sealed||x0.taint)).2 (by simp)
 ·exact RepC.keep (fun k i=>by rcases i with i | i;exact absurd rfl i;exact i) (fun _ _=>rfl) key
 ·cases l:x0.sealed with
  | false =>
   simp only[Bool.not_false,Bool.true_or]
   exact .inr ⟨rfl,b,x0,o,z l,j,q,l,s⟩
  | true =>
   simp only[Bool.not_true,Bool.false_or]
   rcases S.blk b x0 j q (qJ j t) with⟨d,_⟩ | ⟨B,o',cs,ty,fr,d,C,D,F,G,I,A⟩
   ·rw[s] at d;cases d
   ·rw[s] at d;simp at d;obtain⟨rfl,rfl⟩:=d
    exact .inl (A l)
 ·by_cases e:o=x0.taint
  ·subst e
   right
   cases l:x0.sealed with
   | false =>
    simp only[Bool.not_false,Bool.true_or]
    left
    cases u:x0.taint with
    | false=>rw[u] at f;exact S.jft k f
    | true=>rw[u] at f;exact f
   | true=>simp only[Bool.not_true,Bool.false_or];exact .inl f
  ·exact .inl e
theorem JS.mono (S:SimH J β h w) {fz:List Nat} {a b:Bool} (k:Nat) (c:JS J β h fz a k):JS J β h fz (a||b) k:=by
 cases a
 ·cases b
  ·exact c
  ·rcases c with c | ⟨d,_⟩
   ·exact .inl (S.jft k c)
   ·cases d
 ·exact c
theorem cA {g:Aw} {v v':AV} {o:Bool} {vc:Value} {fz:List Nat} (S:SimH J β h w) (q:Looks g h) (d:Ti g v=some (v',o)) (s:∀ b off n x,v=.own b off n→g b=some x→x.sealed=false→b ∈ fz) (f:Rep J β h w v vc) :
  RepC (JS J β h fz o) w v' vc:=by
 cases v
 case own b off n =>
  rw[Ti] at d
  obtain⟨x,e,u⟩:=ub d
  obtain⟨y,m⟩:=uc u
  simp at m
  obtain⟨rfl,rfl⟩:=m
  have:=VG S q e y (fun z=>by
   unfold Di at e
   obtain⟨x0,i,e⟩:=ub e
   obtain⟨K,e⟩:=ky e
   simp at e;subst e
   exact s b off n x0 rfl i z) f
  rw[Rep] at this;exact this
 case imm c n sz t org =>
  simp[Ti] at d;obtain⟨rfl,rfl⟩:=d
  rw[Rep,RepC] at f
  rw[RepC]
  obtain⟨B,A,cap,C,D,L,j⟩:=f
  refine⟨B,A,cap,C,D,by simp,?_⟩
  rcases j with j | ⟨a,F,G,I⟩
  ·exact .inl j
  ·exact .inr ⟨a,F,.inl G,RepCs.keep (fun k l=>.inl l) (fun _ _=>rfl) (fun _=>rfl) I⟩
 case iptr c org =>
  simp[Ti] at d;obtain⟨rfl,rfl⟩:=d
  rw[Rep] at f
  exact RepC.keep (fun k l=>.inl l) (fun _ _=>rfl) f
 all_goals first
  | (simp[Ti] at d;done)
  | (simp[Ti] at d;obtain⟨rfl,rfl⟩:=d;rw[Rep] at f;rw[RepC];exact f)
theorem W6 {g:Aw} {fz:List Nat} (S:SimH J β h w) (t:Looks g h):∀ {c c':LA} {o:Bool} {cs:List Value},Wq g c=some (c',o)→(∀ b ∈ Fm g c,b ∈ fz)→Reps J β h w c cs →
  cs.length=c'.length∧∀ (j:Nat) (x:AV),c'[j]?=some x→∃ u,cs[j]?=some u∧RepC (JS J β h fz o) w x u
 | [],c',o,cs,d,l,f=>by
  simp[Wq] at d;obtain⟨rfl,rfl⟩:=d
  rw[Reps] at f;subst f
  exact⟨rfl,fun j x i=>by simp at i⟩
 | v::r,c',o,cs,d,l,f=>by
  rw[Wq] at d
  obtain⟨⟨v1,o1⟩,y,d⟩:=ub d
  obtain⟨⟨M,o2⟩,z,d⟩:=ub d
  simp at d;obtain⟨rfl,rfl⟩:=d
  rw[Reps] at f
  obtain⟨u,O,rfl,A,B⟩:=f
  have m:∀ b ∈ Fm g r,b ∈ fz:=fun b q=>l b (by
   cases v<;>simp only[Fm]<;>try exact q
   split
   ·rename_i x _;cases x.sealed<;>simp[q]
   ·exact q)
  have a1:=cA (fz:=fz) S t y (fun b off n x e C D=>l b (by subst e;simp[Fm,C,D])) A
  obtain⟨F,G⟩:=W6 S t z m B
  refine⟨by simp[F],fun j x i=>?_⟩
  cases j with
  | zero=>simp at i;subst i;exact⟨u,by simp,RepC.keep (fun k s=>JS.mono S k s) (fun _ _=>rfl) a1⟩
  | succ j =>
   obtain⟨I,K,L⟩:=G j x (by simpa using i)
   exact⟨I,by simpa using K,RepC.keep (fun k s=>by rw[Bool.or_comm];exact JS.mono S k s) (fun _ _=>rfl) L⟩
theorem cB {g:Aw} {v v':AV} {q:Bool} {vc:Value} {fz:List Nat} (S:SimH J β h w) (C:Looks g h) (e:f4 g v=some (v',q)) (D:∀ b ∈ Rm g v,b ∈ fz) (i:Rep J β h w v vc) :
  Rep (JS J β h fz) β h w v' vc∧Dw v'=[]:=by
 unfold f4 at e
 split at e
 ·rename_i b off n
  obtain⟨x,d,f⟩:=ub e
  obtain⟨F,m⟩:=uc f
  simp at m
  obtain⟨rfl,_⟩:=m
  exact⟨VG S C d F (fun y=>by
   unfold Di at d
   obtain⟨x0,s,d⟩:=ub d
   obtain⟨z,d⟩:=ky d
   simp at d;subst d
   exact D b (by simp[Rm,s,y])) i,by simp[Dw]⟩
 ·simp at e;obtain⟨rfl,_⟩:=e
  refine⟨?_,by simp[Dw]⟩
  rw[Rep,RepC] at i ⊢
  obtain⟨G,A,cap,I,U,e4,K⟩:=i
  refine⟨G,A,cap,I,U,by simp,?_⟩
  rcases K with K | ⟨a,V,X,Y⟩
  ·exact .inl K
  ·exact .inr ⟨a,V,.inl X,RepCs.keep (fun k hk=>.inl hk) (fun _ _=>rfl) (fun _=>rfl) Y⟩
 ·rename_i b off
  obtain⟨x,d,f⟩:=ub e
  obtain⟨F,m⟩:=uc f
  simp at m
  obtain⟨rfl,_⟩:=m
  unfold Di at d
  obtain⟨x0,s,d⟩:=ub d
  obtain⟨z,d⟩:=ky d
  simp at d;subst d
  have L:=C b _ s
  refine⟨?_,by simp[Dw]⟩
  rw[Rep] at i
  obtain⟨x1,k,o,⟨M,gm⟩,g2,t⟩:=i
  rw[L] at M;simp at M;subst M
  rcases t with t | t
  ·simp[z] at t
  ·rcases S.blk b x0 L z gm with⟨f,_⟩ | ⟨k',o',cs,ty,fr,f,m,h3,h4,h5,h6,h7⟩
   ·rw[t] at f;cases f
   ·rw[t] at f;simp at f;obtain⟨rfl,rfl⟩:=f
    have O:∀ B,J x0.taint B→JS J β h fz (!x0.sealed||x0.taint) B:=by
     intro B l
     left
     cases y:x0.sealed with
     | false =>
      simp only[Bool.not_false,Bool.true_or]
      cases T:x0.taint with
      | false=>rw[T] at l;exact S.jft B l
      | true=>rw[T] at l;exact l
     | true=>simp only[Bool.not_true,Bool.false_or];exact l
    rw[Rep,RepC]
    refine⟨_,g2,?_,?_⟩
    ·cases y:x0.sealed with
     | false =>
      simp only[Bool.not_false,Bool.true_or]
      exact .inr ⟨rfl,b,x0,o,D b (by simp[Rm,s,y]),L,z,y,t⟩
     | true =>
      simp only[Bool.not_true,Bool.false_or]
      exact .inl (h7 y)
    ·refine RepCs.keep O (fun _ _=>rfl) (fun j=>?_) ((h5.1 F).drop off)
     rw[Addr.add_mid,L6 m,Nat.add_assoc]
 ·rename_i c
  obtain⟨⟨c1,o1⟩,f,m⟩:=ub e
  simp at m;obtain⟨rfl,_⟩:=m
  rw[Rep] at i
  obtain⟨cs,rfl,i⟩:=i
  obtain⟨b1,b2⟩:=W6 (fz:=fz) S C f (by simpa[Rm] using D) i
  refine⟨?_,by simp[Dw]⟩
  rw[Rep]
  refine⟨cs,rfl,b1,?_⟩
  rw[Bg]
  intro j x l
  obtain⟨u,G,I⟩:=b2 j x l
  exact⟨u,by simpa using G,I⟩
 ·simp at e;obtain⟨rfl,_⟩:=e
  exact⟨Rep.ext (Ext.grow fun _ _ l=>.inl l) i,by simp[Dw,Es]⟩
 ·simp at e
 ·simp at e
 ·simp at e
 ·simp at e
 ·simp at e;obtain⟨rfl,_⟩:=e
  refine⟨Rep.ext (Ext.grow fun _ _ l=>.inl l) i,?_⟩
  cases v<;>first | rfl | simp_all
theorem N5 {g:Aw} {fz:List Nat} (S:SimH J β h w) (n:Looks g h):∀ {f:LA} {ms:List Bool} {args':LA} {im e:List Nat} {vs:List Value},
  Rn g ms f=some (args',im,e)→(∀ b ∈ e,b ∈ fz)→Reps J β h w f vs→Reps (JS J β h fz) β h w args' vs∧∀ b ∈ Es args',b ∈ im
 | [],ms,args',im,e,vs,d,m,i=>by
  simp[Rn] at d;obtain⟨rfl,rfl,rfl⟩:=d
  rw[Reps] at i;subst i
  exact⟨by rw[Reps],by simp[Es]⟩
 | v::r,ms,args',im,e,vs,d,m,i=>by
  rw[Rn] at d
  rw[Reps] at i
  obtain⟨u,x,rfl,j,k⟩:=i
  cases y:ms.headD false with
  | true =>
   rw[y,cond_true] at d
   obtain⟨⟨a2,i2,z⟩,q,l⟩:=ub d
   simp at l;obtain⟨rfl,rfl,rfl⟩:=l
   obtain⟨s,t⟩:=N5 S n q m k
   refine⟨by rw[Reps];exact⟨u,x,rfl,Rep.ext (Ext.grow fun _ _ A=>.inl A) j,s⟩,fun b c=>?_⟩
   rw[Es] at c
   rcases List.mem_append.1 c with c | c
   ·exact List.mem_append.2 (.inl c)
   ·exact List.mem_append.2 (.inr (t b c))
  | false =>
   rw[y,cond_false] at d
   obtain⟨⟨v1,F⟩,B,d⟩:=ub d
   obtain⟨⟨a2,i2,z⟩,q,l⟩:=ub d
   simp at l;obtain⟨rfl,rfl,rfl⟩:=l
   obtain⟨C,D⟩:=cB S n B (fun b c=>m b (List.mem_append.2 (.inl c))) j
   obtain⟨s,t⟩:=N5 S n q (fun b c=>m b (List.mem_append.2 (.inr c))) k
   refine⟨by rw[Reps];exact⟨u,x,rfl,C,s⟩,fun b c=>?_⟩
   rw[Es,D] at c
   exact t b (by simpa using c)
end
end Gx

namespace Gx
open Go
theorem d_ {g g':Aw} {ρ:Nat→Nat}:∀ {ids:List Nat},(∀ b ∈ ids,g b=g' b)→sub g ρ ids=sub g' ρ ids
 | [],_=>rfl
 | b::r,h=>by
  rw[sub,sub,h b (by simp),d_ (fun c d=>h c (by simp[d]))]
theorem W7 {g:Aw}:∀ {l:List Nat},Ws g l=true→∀ b ∈ l,∃ x,g b=some x∧x.dead=false
 | [],_,b,c=>by simp at c
 | i::r,h,b,c=>by
  rw[Ws] at h
  simp at h
  rcases List.mem_cons.1 c with rfl | c
  ·cases d:g b with
   | none=>rw[d] at h;simp at h
   | some x=>rw[d] at h;exact⟨x,rfl,by simpa using h.1⟩
  ·exact W7 h.2 b c
theorem nP:∀ {l m:List Nat},iP l m=true→∀ b ∈ l,b ∉ m
 | [],m,_,b,c=>by simp at c
 | i::r,m,h,b,c=>by
  rw[iP] at h
  simp at h
  rcases List.mem_cons.1 c with rfl | c
  ·intro d;have:=F5.2 d;rw[this] at h;simp at h
  ·exact nP h.2 b c
theorem Rw {d:Nat}:∀ {l:List (Nat×Nat)} {b:Nat},b ∈ l.map (·.1)→E2 d l b ∈ l.map (·.2)
 | [],b,c=>by simp at c
 | (i,x)::r,b,c=>by
  rw[E2]
  cases e:Nat.beq i b with
  | true=>simp
  | false =>
   have f:b ∈ r.map (·.1):=by
    rw[List.map_cons] at c
    rcases List.mem_cons.1 c with h | h
    ·exact absurd h.symm (Mo e)
    ·exact h
   simp only[cond_false,List.map_cons]
   exact List.mem_cons_of_mem _ (Rw f)
theorem M2 {d:Nat}:∀ {l m:List (Nat×Nat)} {b:Nat},E2 d (l++m) b=if b ∈ l.map (·.1) then E2 d l b else E2 d m b
 | [],m,b=>by simp
 | (i,x)::r,m,b=>by
  rw[List.cons_append,E2,E2,M2]
  cases e:Nat.beq i b with
  | true=>have:=Nat.eq_of_beq_eq_true e;subst this;simp
  | false =>
   have:=Mo e
   simp only[cond_false,List.map_cons,List.mem_cons]
   by_cases c:b ∈ r.map (·.1)
   ·rw[if_pos c,if_pos (.inr c)]
   ·rw[if_neg c,if_neg (by rintro(h | h);exact this h.symm;exact c h)]
theorem Fo:∀ {base:Nat} {l:List Nat},(Ap base l).map (·.1)=l
 | _,[]=>rfl
 | base,i::r=>by rw[Ap,List.map_cons,Fo]
theorem VH {d d':Nat}:∀ {l:List Nat} {base b:Nat},b ∈ l→E2 d' ((Ap base l).map fun p=>(p.2,p.1)) (E2 d (Ap base l) b)=b
 | [],base,b,c=>by simp at c
 | i::r,base,b,c=>by
  rw[Ap,E2,List.map_cons,E2]
  cases e:Nat.beq i b with
  | true=>have:=Nat.eq_of_beq_eq_true e;subst this;simp
  | false =>
   have f:b ∈ r:=by
    rcases List.mem_cons.1 c with h | h
    ·exact absurd h.symm (Mo e)
    ·exact h
   simp only[cond_false]
   have j:=N4 (d:=d) (base:=base+1) f
   rw[Wx (show base≠E2 d (Ap (base+1) r) b by omega)]
   exact VH f
theorem Kx:∀ {base:Nat} {l:List Nat} {c:Nat},c ∈ (Ap base l).map (·.2)→base≤c∧c<base+l.length
 | _,[],c,b=>by simp[Ap] at b
 | base,i::r,c,b=>by
  rw[Ap,List.map_cons] at b
  rcases List.mem_cons.1 b with h | h
  ·simp at h;subst h;simp
  ·have:=Kx h;simp only[List.length_cons];omega
theorem N6:∀ {base:Nat} {l:List Nat},((Ap base l).map (·.2)).Nodup
 | _,[]=>by simp[Ap]
 | base,i::r=>by
  rw[Ap,List.map_cons,List.nodup_cons]
  exact⟨fun h=>by have:=Kx h;simp at this;omega,N6⟩
theorem W8:∀ {base:Nat} {l:List Nat} {b:Nat},b ∈ l→(b,E2 0 (Ap base l) b) ∈ Ap base l
 | _,[],b,c=>by simp at c
 | base,i::r,b,c=>by
  rw[Ap,E2]
  cases d:Nat.beq i b with
  | true=>have:=Nat.eq_of_beq_eq_true d;subst this;simp
  | false =>
   have e:b ∈ r:=by
    rcases List.mem_cons.1 c with h | h
    ·exact absurd h.symm (Mo d)
    ·exact h
   simp only[cond_false]
   exact List.mem_cons_of_mem _ (W8 e)
def lW (x:Blk):Blk:={ x with dead:=true,pure:=true,cells:=[] }
theorem G7:∀ {ups:Cy} {h:Ai} {b:Nat} {o:Option Blk},(ups.map (·.1)).Nodup→(b,o) ∈ ups→Ah (Ag ups h) b=match o with | some x=>some x | none=>(Ah h b).map lW
 | [],h,b,o,_,k=>by simp at k
 | (i,y)::r,h,b,o,d,k=>by
  rw[List.map_cons,List.nodup_cons] at d
  rcases List.mem_cons.1 k with l | c
  ·simp at l
   obtain⟨rfl,rfl⟩:=l
   have f:As r b=false:=by
    have:∀ {r:Cy},b ∉ r.map (·.1)→As r b=false:=by
     intro r
     induction r with
     | nil=>intro _;rfl
     | cons p r m =>
      intro h
      simp only[List.map_cons,List.mem_cons,not_or] at h
      rw[As,Wx (fun e=>h.1 e.symm)]
      exact m h.2
    exact this d.1
   cases o with
   | some x=>rw[Ag,Bs _ _ _ f,Ad,if_pos rfl]
   | none =>
    rw[Ag,Bs _ _ _ f]
    cases n:Ah h b with
    | none=>simp[n]
    | some x=>simp only[Option.map_some];rw[Ad,if_pos rfl];rfl
  ·have j:b≠i:=fun e=>by subst e;exact d.1 (List.mem_map.2 ⟨_,c,rfl⟩)
   cases y with
   | some x =>
    rw[Ag,G7 d.2 c]
    cases o with
    | some _=>rfl
    | none=>simp only;rw[Ad,if_neg j]
   | none =>
    rw[Ag,G7 d.2 c]
    cases o with
    | some _=>rfl
    | none =>
     simp only
     split
     ·rw[Ad,if_neg j]
     ·rfl
theorem MA:∀ {ups:Cy} {b:Nat},As ups b=true↔b ∈ ups.map (·.1)
 | [],b=>by simp[As]
 | (i,y)::r,b=>by
  rw[As,List.map_cons,List.mem_cons,←MA]
  cases c:Nat.beq i b with
  | true=>have:=Nat.eq_of_beq_eq_true c;subst this;simp
  | false=>have:=Mo c;simp;intro e;exact absurd e.symm this
theorem VI {β:Bf} {h:Ai} {ρ:Nat→Nat} {ids:List Nat} (d:(ids.map ρ).Nodup) {k:Nat} (i:iT (Vi ρ ids β) (sub (Ah h) ρ ids) k) :
  ∃ b x o,b ∈ ids∧Ah h b=some x∧x.dead=false∧x.sealed=false∧β b=some (k,o):=by
 obtain⟨c,y,o,j,l,m,e⟩:=i
 obtain⟨b,x,f,rfl,n,rfl⟩:=Hr d c y j
 rw[Dz d f] at e
 exact⟨b,x,o,f,n,l,m,e⟩
theorem SimH.unJ {J:Bool→Nat→Prop} {β:Bf} {h:Ai} {w:World} (S:SimH J β h w) {b:Nat} {x:Blk} {k o:Nat} (e:Ah h b=some x) (f:x.dead=false) (l:x.sealed=false) (d:β b=some (k,o)):∀ g,¬ J g k:=by
 cases i:x.mp with
 | false =>
  rcases S.blk b x e f i with⟨c,_⟩ | ⟨m,o2,cs,ty,fr,c,j,q,s,t,n,u⟩
  ·rw[d] at c;cases c
  ·rw[d] at c;simp at c;obtain⟨rfl,rfl⟩:=c
   exact n l
 | true =>
  obtain⟨_,_,m,ob,c,_,_,j⟩:=S.mblk b x e f i
  rw[d] at c;simp at c;obtain⟨rfl,_⟩:=c
  exact j
theorem SimH.seJ {J:Bool→Nat→Prop} {β:Bf} {h:Ai} {w:World} (S:SimH J β h w) {b:Nat} {x:Blk} {k o:Nat} (d:Ah h b=some x) (e:x.dead=false) (f:x.sealed=true) (i:β b=some (k,o)):J x.taint k:=by
 cases j:x.mp with
 | false =>
  rcases S.blk b x d e j with⟨c,_⟩ | ⟨m,o2,cs,ty,fr,c,n,q,s,t,u,l⟩
  ·rw[i] at c;cases c
  ·rw[i] at c;simp at c;obtain⟨rfl,rfl⟩:=c
   exact l f
 | true =>
  have:=(S.mblk b x d e j).2.1
  rw[f] at this;cases this
theorem Step.merge {J J0 J1:Bool→Nat→Prop} {β β1:Bf} {h O H:Ai} {w w':World} {D ids:List Nat} (S:SimH J β h w) (S1:SimH J0 β1 O w')
  (hH:∀ b,b ∉ D→Ah H b=Ah h b)
  (hD:∀ b x,b ∈ D→Ah H b=some x→x.dead=false→Ah O b=some x)
  (hD1:∀ b x,Ah O b=some x→b ∈ D∧Ah H b=some x)
  (T:∀ b x,b ∈ D→b ∉ ids→Ah h b≠some x)
  (U:∀ b x,b ∈ ids→Ah h b=some x→∃ x',(Ah H b=some x'∧x'.mp=x.mp)∧(x'.dead=true∨(x.dead=false∧β1 b=β b∧x'.sz=x.sz∧(x.mp=false→x'.cells.length=x.cells.length))))
  (u:∀ b ∈ ids,b ∈ D)
  (os:w'.os=w.os) (tape:w'.tape=w.tape) (output:w'.output=w.output) (size:w.heap.size≤w'.heap.size)
  (frame:∀ k,k<w.heap.size→(¬ ∃ b x o,b ∈ ids∧Ah h b=some x∧x.dead=false∧x.sealed=false∧β b=some (k,o))→w'.heap[k]?=w.heap[k]?)
  (wr:∀ k,iT β1 O k→k<w.heap.size→∃ b x o,b ∈ ids∧Ah h b=some x∧x.dead=false∧x.sealed=false∧β b=some (k,o))
  (jup:∀ o k,J0 o k→J o k∨(∃ b x o,b ∈ ids∧Ah h b=some x∧x.dead=false∧x.sealed=false∧β b=some (k,o))∨w.heap.size≤k)
  (sizes:∀ k,Au w k≤Au w' k) :
  Step J β h w (fun o k=>J o k∨J0 o k) (fun b=>if b ∈ D then β1 b else β b) H w'∧Ext J0 β1 O w' (fun o k=>J o k∨J0 o k) (fun b=>if b ∈ D then β1 b else β b) H w':=by
 have E0:Ext J0 β1 O w' (fun o k=>J o k∨J0 o k) (fun b=>if b ∈ D then β1 b else β b) H w':=by
  refine⟨fun _ _ c=>.inr c,fun _ _ _=>rfl,fun b x d=>?_,fun _ _ _ _=>Nat.le_refl _⟩
  obtain⟨q,t⟩:=hD1 b x d
  refine⟨x,⟨t,rfl⟩,?_⟩
  cases f:x.dead
  ·exact .inr ⟨rfl,by simp[q],rfl,fun _=>rfl⟩
  ·exact .inl rfl
 have keepJ:∀ o k,J o k→w'.heap[k]?=w.heap[k]?:=by
  intro o k c
  refine frame k (S.jlt o k c) ?_
  rintro⟨b,x,o',_,d,f,l,m⟩
  exact S.unJ d f l m o c
 have E:Ext J β h w (fun o k=>J o k∨J0 o k) (fun b=>if b ∈ D then β1 b else β b) H w':=by
  refine⟨fun _ _ c=>.inl c,keepJ,fun b x d=>?_,fun b k o _=>sizes k⟩
  by_cases hi:b ∈ ids
  ·obtain⟨x',q,t⟩:=U b x hi d
   refine⟨x',q,?_⟩
   simp only[u b hi,if_true]
   exact t
  ·have V:b ∉ D:=fun f=>T b x f hi d
   refine⟨x,⟨by rw[hH b V];exact d,rfl⟩,?_⟩
   cases f:x.dead
   ·exact .inr ⟨rfl,by simp[V],rfl,fun _=>rfl⟩
   ·exact .inl rfl
 have out:∀ {b x},b ∉ D→Ah H b=some x→Ah h b=some x:=fun d s=>by rw[←hH _ d];exact s
 refine⟨⟨E,⟨?_,?_,S.gl.ext E,fun b x s f K=>?_,fun b x s f K=>by
   by_cases d:b ∈ D
   ·have q:=hD b x d s f
    have M:=S1.mblk b x q f K
    refine M.keep (by simp[d]) (fun _ _ _=>rfl) (fun g k o m c=>?_)
    rcases c with c | c
    ·exfalso
     by_cases z:k<w.heap.size
     ·obtain⟨A,x',o',j,n,i,v,e⟩:=wr k ⟨b,x,o,q,f,M.2.1,m⟩ z
      exact S.unJ n i v e g c
     ·exact z (S.jlt g k c)
    ·exact c
   ·have q:=out d s
    have M:=S.mblk b x q f K
    have y:∀ k o,β b=some (k,o)→¬ ∃ b x o,b ∈ ids∧Ah h b=some x∧x.dead=false∧x.sealed=false∧β b=some (k,o):=by
     rintro k o t ⟨A,x',o',j,n,i,v,e⟩
     have:=S.sep b A x x' k o o' q n f i M.2.1 t e
     subst this
     exact d (u b j)
    refine M.keep (by simp[d]) (fun k o m=>frame k (Mj S q f m) (y k o m)) (fun g k o m c=>?_)
    rcases c with c | c
    ·exact c
    ·rcases jup g k c with c | c | c
     ·exact c
     ·exact absurd c (y k o m)
     ·have:=Mj S q f m;omega,?_⟩,os,tape,output,size,?_,?_,?_⟩,E0⟩
 ·rintro o k (c | c)
  ·exact Nat.lt_of_lt_of_le (S.jlt o k c) size
  ·exact S1.jlt o k c
 ·rintro k (c | c)
  ·exact .inl (S.jft k c)
  ·exact .inr (S1.jft k c)
 ·by_cases d:b ∈ D
  ·have q:=hD b x d s f
   rcases S1.blk b x q f K with⟨t,I⟩ | ⟨k,o,cs,ty,fr,t,I,h5,h6,h7,Y,h9⟩
   ·exact .inl ⟨by simp[d,t],I⟩
   ·refine .inr ⟨k,o,cs,ty,fr,by simp[d,t],I,h5,h6,h7.ext E0,fun l g c=>?_,fun l=>.inr (h9 l)⟩
    rcases c with c | c
    ·by_cases z:k<w.heap.size
     ·obtain⟨A,x',o',j,n,i,v,e⟩:=wr k ⟨b,x,o,q,f,l,t⟩ z
      exact S.unJ n i v e g c
     ·exact z (S.jlt g k c)
    ·exact Y l g c
  ·have q:=out d s
   rcases S.blk b x q f K with⟨t,I⟩ | ⟨k,o,cs,ty,fr,t,I,h5,h6,h7,Y,h9⟩
   ·exact .inl ⟨by simp[d,t],I⟩
   ·have z:=Tn I
    have y:x.sealed=false→¬ ∃ b x o,b ∈ ids∧Ah h b=some x∧x.dead=false∧x.sealed=false∧β b=some (k,o):=by
     rintro l ⟨A,x',o',j,n,i,v,e⟩
     have:=S.sep b A x x' k o o' q n f i l t e
     subst this
     exact d (u b j)
    have same:w'.heap[k]?=w.heap[k]?:=by
     cases l:x.sealed with
     | false=>exact frame k z (y l)
     | true=>exact keepJ _ k (h9 l)
    refine .inr ⟨k,o,cs,ty,fr,by simp[d,t],by rw[same];exact I,h5,h6,h7.ext E,fun l g c=>?_,fun l=>.inl (h9 l)⟩
    rcases c with c | c
    ·exact Y l g c
    ·rcases jup g k c with c | c | c
     ·exact Y l g c
     ·exact y l c
     ·omega
 ·intro b A x x' k o o' s n f i l m e
  by_cases d:b ∈ D<;>by_cases j:A ∈ D
  ·simp[d] at m;simp[j] at e
   exact S1.sep b A x x' k o o' (hD b x d s f) (hD A x' j n i) f i l m e
  ·exfalso
   simp[d] at m;simp[j] at e
   have q:=out j n
   have z:=Mj S q i e
   obtain⟨X,x2,o2,L,B,C,G,F⟩:=wr k ⟨b,x,o,hD b x d s f,f,l,m⟩ z
   have:=S.sep X A x2 x' k o2 o' B q C i G F e
   subst this
   exact j (u _ L)
  ·exfalso
   simp[d] at m;simp[j] at e
   have q:=out d s
   have t:=hD A x' j n i
   have z:=Mj S q f m
   have y:¬ ∃ b x o,b ∈ ids∧Ah h b=some x∧x.dead=false∧x.sealed=false∧β b=some (k,o):=by
    rintro⟨X,x2,o2,L,B,C,G,F⟩
    have:=S.sep b X x x2 k o o2 q B f C l m F
    subst this
    exact d (u _ L)
   cases v:x'.sealed with
   | false=>exact y (wr k ⟨A,x',o',t,i,v,e⟩ z)
   | true =>
    rcases jup _ k (S1.seJ t i v e) with c | c | c
    ·exact S.unJ q f l m _ c
    ·exact y c
    ·omega
  ·simp[d] at m;simp[j] at e
   exact S.sep b A x x' k o o' (out d s) (out j n) f i l m e
 ·intro k z K
  exact frame k z (fun ⟨b,x,o,_,s,f,l,m⟩=>K ⟨b,x,o,s,f,l,m⟩)
 ·rintro k ⟨b,x,o,s,f,l,m⟩ z
  by_cases d:b ∈ D
  ·simp[d] at m
   obtain⟨X,x2,o2,_,B,C,G,F⟩:=wr k ⟨b,x,o,hD b x d s f,f,l,m⟩ z
   exact⟨X,x2,o2,B,C,G,F⟩
  ·simp[d] at m
   exact⟨b,x,o,out d s,f,l,m⟩
 ·rintro o k (c | c)
  ·exact .inl c
  ·rcases jup o k c with c | ⟨b,x,o2,_,s,f,l,m⟩ | c
   ·exact .inl c
   ·exact .inr (.inl ⟨b,x,o2,s,f,l,m⟩)
   ·exact .inr (.inr c)
end Gx

namespace Gx
open Go
theorem lX {l:List Nat}:f5 l=true↔l=[]:=by cases l<;>simp[f5]
theorem Tv {α β:Type} {f:α→β}:∀ {l:List α},(l.map f).Nodup→l.Nodup
 | [],_=>List.nodup_nil
 | a::r,h=>by
  rw[List.map_cons,List.nodup_cons] at h
  exact List.nodup_cons.2 ⟨fun b=>h.1 (List.mem_map.2 ⟨a,b,rfl⟩),Tv h.2⟩
theorem Tx {α:Type} {p:α→Bool}:∀ {l:List α},l.Nodup→(l.filter p).Nodup
 | [],_=>List.nodup_nil
 | a::r,h=>by
  rw[List.nodup_cons] at h
  rw[List.filter_cons]
  split
  ·exact List.nodup_cons.2 ⟨fun b=>h.1 (List.mem_filter.1 b).1,Tx h.2⟩
  ·exact Tx h.2
theorem G' {base:Nat} {l:List Nat} {p:Nat×Nat} (b:p ∈ Ap base l):p.1 ∈ l:=by
 have:p.1 ∈ (Ap base l).map (·.1):=List.mem_map.2 ⟨p,b,rfl⟩
 rw[Fo] at this;exact this
theorem nQ {σ:Nat→Nat}:∀ {l:List Nat} {a b:Nat},(l.map σ).Nodup→a ∈ l→b ∈ l→σ a=σ b→a=b
 | [],a,b,_,f,_,_=>by simp at f
 | i::r,a,b,e,f,k,j=>by
  rw[List.map_cons,List.nodup_cons] at e
  rcases List.mem_cons.1 f with c | c<;>rcases List.mem_cons.1 k with d | d
  ·rw[c,d]
  ·subst c;exact absurd (List.mem_map.2 ⟨b,d,j.symm⟩) e.1
  ·subst d;exact absurd (List.mem_map.2 ⟨a,c,j⟩) e.1
  ·exact nQ e.2 c d j
theorem qT {E:Env} (hT:VD E.P E.tbl):ER E:=by
 intro R r k J β h w g d f args vs S hl hh hv
 unfold dU at hh
 obtain⟨⟨args',im,fz⟩,B,h1⟩:=ub hh
 simp only at h1
 obtain⟨n,h2⟩:=uc h1
 simp only[Bool.and_eq_true] at n
 obtain⟨U,Y,V,hdj,s,_⟩:=n
 generalize hids:Nw g im=ids at *
 generalize hρ:E2 0 (Ap 100000 ids)=ρ at *
 have U:=W7 U
 have Y:=H5 Y
 have hdj:=nP hdj
 have s:=Kv s
 have hg:∀ b ∈ ids,g b=Ah h b:=fun b j=>by obtain⟨x,m,_⟩:=U b j;rw[m,hl b x m]
 rw[Ph (g:=Ah h) hg] at V
 have V:=H5 V
 rw[d_ (g':=Ah h) hg] at h2
 obtain⟨hA,hB⟩:=N5 (fz:=fz) S hl B (fun _ h=>h) hv
 have aliveH:∀ b ∈ ids,∃ x,Ah h b=some x∧x.dead=false:=fun b j=>by obtain⟨x,m,C⟩:=U b j;exact⟨x,hl b x m,C⟩
 have SJ:SimH (JS J β h fz) (Vi ρ ids β) (sub (Ah h) ρ ids) w:=by
  refine(S.ren s V).grow (fun o k t=>.inl t) ?_ ?_ ?_
  ·rintro o k (t | ⟨_,b,x,o',_,m,C,_,hβ⟩)
   ·exact S.jlt o k t
   ·exact Mj S m C hβ
  ·rintro k (t | ⟨h0,_⟩)
   ·exact .inl (S.jft k t)
   ·cases h0
  ·intro c y k o hy C hs hβ q t
   obtain⟨b,x,j,rfl,m,rfl⟩:=Hr s c y hy
   rw[Dz s j] at hβ
   rcases t with t | ⟨_,b',x',o',hb',hx',hd',hs',hβ'⟩
   ·exact S.unJ m C hs hβ _ t
   ·have:=S.sep b b' x x' k o o' m hx' C hd' hs hβ hβ'
    subst this
    exact hdj b hb' j
 have RJ:Reps (JS J β h fz) (Vi ρ ids β) (sub (Ah h) ρ ids) w (Mn ρ args') vs:=Reps.ren s (fun b j=>Y b (hB b j)) hA
 obtain⟨rv,rh,hF,h3⟩:=jD hT h2
 have hcall:=hF _ _ w vs SJ RJ
 obtain⟨z,h4⟩:=ky h3
 obtain⟨hc2,h5⟩:=uc h4
 simp only[Bool.and_eq_true] at hc2
 obtain⟨I,X,hrv,v,K,u⟩:=hc2
 generalize hall:Nw (Ah rh) (Dw rv++(Ap 100000 ids).map (·.2))=all at *
 generalize L:all.filter (fun b=>!E5 ((Ap 100000 ids).map (·.2)) b)=new at *
 generalize hσ:E2 0 ((Ap 100000 ids).map (fun p=>(p.2,p.1))++Ap (nid d) new)=σ at *
 have I:=W7 I
 have hrv:=H5 hrv
 have v:=H5 v
 have K:=H5 K
 have u:=Kv u
 have X:new.length≤16:=by simpa using X
 refine⟨_,_,h5,fun hfree=>Calls.mono hcall ?_⟩
 rintro e w' ⟨vc,J',β',rfl,F,hR⟩
 refine⟨vc,rfl,?_⟩
 have back:∀ b ∈ ids,σ (ρ b)=b:=by
  intro b j
  rw[←hσ,M2,if_pos,←hρ]
  ·exact VH j
  ·rw[List.map_map]
   have:=Rw (d:=0) (l:=Ap 100000 ids) (b:=b) (by rw[Fo];exact j)
   rw[hρ] at this
   exact this
 have ρall:∀ b ∈ ids,ρ b ∈ all:=by
  intro b j
  refine v _ ?_
  have:=Rw (d:=0) (l:=Ap 100000 ids) (b:=b) (by rw[Fo];exact j)
  rw[hρ] at this
  exact this
 have σout:∀ c ∈ all,c ∈ (Ap 100000 ids).map (·.2)→σ c ∈ ids:=by
  intro c _ n
  rw[←hσ,M2,if_pos (by rw[List.map_map];exact n)]
  have:=Rw (d:=0) (l:=(Ap 100000 ids).map (fun p=>(p.2,p.1))) (b:=c) (by rw[List.map_map];exact n)
  rw[List.map_map] at this
  have e:(Ap 100000 ids).map ((fun x=>x.2)∘fun p=>(p.2,p.1))=ids:=Fo
  rw[e] at this
  exact this
 have newmem:∀ c ∈ new,c ∈ all∧c ∉ (Ap 100000 ids).map (·.2):=by
  intro c n
  rw[←L] at n
  obtain⟨O,h7⟩:=List.mem_filter.1 n
  refine⟨O,fun A=>?_⟩
  rw[F5.2 A] at h7;simp at h7
 have σnew:∀ c ∈ new,σ c=E2 0 (Ap (nid d) new) c:=by
  intro c n
  rw[←hσ,M2,if_neg]
  rw[List.map_map];exact(newmem c n).2
 have allcases:∀ c ∈ all,c ∈ (Ap 100000 ids).map (·.2)∨c ∈ new:=by
  intro c n
  by_cases A:c ∈ (Ap 100000 ids).map (·.2)
  ·exact .inl A
  ·refine .inr ?_
   rw[←L]
   refine List.mem_filter.2 ⟨n,?_⟩
   cases hq:E5 ((Ap 100000 ids).map (·.2)) c with
   | false=>rfl
   | true=>exact absurd (F5.1 hq) A
 generalize T:((Ap 100000 ids).map fun p=>(p.1,(Ah rh p.2).map (Pa σ)))++(Ap (nid d) new).map (fun p=>(p.2,(Ah rh p.1).map (Pa σ)))=ups at *
 have keys:ups.map (·.1)=ids++(Ap (nid d) new).map (·.2):=by
  rw[←T,List.map_append,List.map_map,List.map_map]
  congr 1
  exact Fo
 have newFree:∀ c ∈ (Ap (nid d) new).map (·.2),Ah h c=none:=by
  intro c n
  refine hfree c (MA.2 (by rw[keys];exact List.mem_append.2 (.inr n))) ?_
  have:=Kx n
  unfold Va
  simp;omega
 have keysN:(ups.map (·.1)).Nodup:=by
  rw[keys,List.nodup_append]
  refine⟨Tv s,N6,fun a ha b j e=>?_⟩
  subst e
  obtain⟨x,m,_⟩:=aliveH a ha
  rw[newFree a j] at m;cases m
 have upsOld:∀ b ∈ ids,(b,(Ah rh (ρ b)).map (Pa σ)) ∈ ups:=by
  intro b j
  rw[←T]
  refine List.mem_append.2 (.inl (List.mem_map.2 ⟨(b,ρ b),?_,rfl⟩))
  rw[←hρ];exact W8 j
 have upsNew:∀ c ∈ new,(σ c,(Ah rh c).map (Pa σ)) ∈ ups:=by
  intro c n
  rw[←T]
  refine List.mem_append.2 (.inr (List.mem_map.2 ⟨(c,σ c),?_,rfl⟩))
  rw[σnew c n];exact W8 n
 have J0:∃ J0:Bool→Nat→Prop,SimH J0 β' rh w'∧Rep J0 β' rh w' rv vc∧∀ o k,J0 o k→J o k∨iT (Vi ρ ids β) (sub (Ah h) ρ ids) k∨w.heap.size≤k:=by
  cases he:f5 fz with
  | true =>
   have:=lX.1 he
   subst this
   refine⟨J',F.sim,hR,fun o k t=>?_⟩
   rcases F.jup o k t with(t | ⟨_,b,x,o',j,_⟩) | t
   ·exact .inl t
   ·simp at j
   ·exact .inr t
  | false =>
   rw[he] at z
   simp at z
   refine⟨fun _=>J' false,F.sim.noOrg z.2,Rep.noOrg z.1 hR,fun o k t=>?_⟩
   rcases F.jup false k t with(O | ⟨h0,_⟩) | O
   ·left
    cases o
    ·exact O
    ·exact S.jft k O
   ·cases h0
   ·exact .inr O
 obtain⟨J0,S0,R0,jup0⟩:=J0
 have S1:=S0.ren u K
 have R1:=Rep.ren u hrv R0
 have M:=Step.merge (J:=J) (J0:=J0) (J1:=J0) (H:=Ag ups h) (D:=ids++(Ap (nid d) new).map (·.2)) (ids:=ids) S S1
  (fun b j=>Bs _ _ _ (by
   cases hi:As ups b with
   | false=>rfl
   | true=>exact absurd (by rw[←keys];exact MA.1 hi) j))
  (fun b x j m C=>by
   rcases List.mem_append.1 j with j | j
   ·rw[G7 keysN (upsOld b j)] at m
    cases hq:Ah rh (ρ b) with
    | none =>
     rw[hq] at m;simp at m
     obtain⟨y,_,rfl⟩:=m
     simp[lW] at C
    | some y =>
     rw[hq] at m;simp at m;subst m
     have:=Pi (g:=Ah rh) u (ρ b) y (ρall b j) hq
     rw[back b j] at this
     exact this
   ·obtain⟨c,n,rfl⟩:∃ c ∈ new,σ c=b:=by
     obtain⟨p,B,rfl⟩:=List.mem_map.1 j
     have hp1:p.1 ∈ new:=G' B
     refine⟨p.1,hp1,?_⟩
     rw[σnew _ hp1]
     have:∀ {base:Nat} {l:List Nat} {p:Nat×Nat},l.Nodup→p ∈ Ap base l→E2 0 (Ap base l) p.1=p.2:=by
      intro base l
      induction l generalizing base with
      | nil=>intro p _ B;simp[Ap] at B
      | cons i r ih =>
       intro p hn B
       rw[List.nodup_cons] at hn
       rw[Ap] at B ⊢
       rw[E2]
       rcases List.mem_cons.1 B with rfl | B
       ·simp
       ·have:p.1 ∈ r:=G' B
        rw[Wx (fun e=>hn.1 (by rw[e];exact this))]
        exact ih hn.2 B
     refine this ?_ B
     rw[←L]
     exact Tx (Tv u)
    rw[G7 keysN (upsNew c n)] at m
    obtain⟨y,hy,_⟩:=I c n
    rw[hy] at m;simp at m;subst m
    exact Pi (g:=Ah rh) u c y (newmem c n).1 hy)
  (fun b x j=>by
   obtain⟨c,y,n,rfl,hy,rfl⟩:=Hr u b x j
   rcases allcases c n with A | A
   ·have O:=σout c n A
    have h7:ρ (σ c)=c:=by
     have:(all.map σ).Nodup:=u
     have e1:=back (σ c) O
     have e2:=ρall (σ c) O
     exact nQ this e2 n e1
    refine⟨List.mem_append.2 (.inl O),?_⟩
    rw[G7 keysN (upsOld (σ c) O),h7,hy];rfl
   ·refine⟨List.mem_append.2 (.inr ?_),?_⟩
    ·rw[σnew c A]
     exact Rw (by rw[Fo];exact A)
    ·rw[G7 keysN (upsNew c A),hy];rfl)
  (fun b x j hni m=>by
   rcases List.mem_append.1 j with j | j
   ·exact hni j
   ·rw[newFree b j] at m;cases m)
  (fun b x j m=>by
   rw[G7 keysN (upsOld b j)]
   cases hq:Ah rh (ρ b) with
   | none=>exact⟨lW x,⟨by simp[m],rfl⟩,.inl rfl⟩
   | some y =>
    cases C:y.dead with
    | true=>have:=F.live _ _ hq;rw[C] at this;cases this
    | false =>
     have e0:=Pi (g:=Ah h) s b x j m
     obtain⟨⟨e1,em⟩,e2,e3,e4⟩:=F.outs (ρ b) _ y e0 hq C
     refine⟨Pa σ y,⟨by simp,em⟩,.inr ?_⟩
     refine⟨e4,?_,e2,fun hmx=>?_⟩
     ·have:=Dz (β:=β') u (ρall b j)
      rw[back b j] at this
      rw[this,e1]
      exact Dz s j
     ·rw[G6,e3 hmx,G6])
  (fun b j=>List.mem_append.2 (.inl j))
  F.os F.tape F.output F.size
  (fun k hk A=>F.frame k hk (fun hm'=>A (VI s hm')))
  (fun k A hk=>VI s (F.wr k (gA u A) hk))
  (fun o k t=>by
   rcases jup0 o k t with t | t | t
   ·exact .inl t
   ·exact .inr (.inl (VI s t))
   ·exact .inr (.inr t))
  F.sizes
 exact⟨_,_,M.1,Rep.ext M.2 R1⟩
theorem jH {P:Program} {muts:Nat→List Bool} {T:List (Nat×Tw)} {q:Hints} {N f:Nat} {d:LA} {h:Ai} {n:AV} {h':Ai} (hT:VD P T) (K:P.follows .mixedOrders=true)
  (u:Vb P muts T q N f d h (fun v h'=>some (v,h'))=some (n,h')):tb P f d h n h':=by
 unfold Vb at u
 split at u
 ·simp at u
 ·rename_i fn L
  split at u
  ·simp at u
  ·rename_i c V
   simp only at u
   obtain⟨z,X⟩:=uc u
   simp only[Bool.and_eq_true] at z
   obtain⟨t,k⟩:=z
   have t:d.length≤fn.ntmps:=by simpa using t
   intro J β w vs S U
   have Y:vs.length=d.length:=((Bo).1 U).1
   refine calls_of_wp L V ?_
   have roots:∀ {h:Ai} {b:Nat} {x:Blk},TL h=true→Ah h b=some x→UC b=true:=by
    intro h
    induction h with
    | nil=>intro b x _ e;simp[Ah] at e
    | cons p r M =>
     intro b x C e
     obtain⟨i,y⟩:=p
     rw[TL] at C
     simp at C
     rw[Ah] at e
     cases m:Nat.beq i b with
     | true=>have:=Nat.eq_of_beq_eq_true m;subst this;exact C.1
     | false=>rw[m] at e;exact M C.2 (by simpa using e)
   have sgetI:∀ {d:LA} {j i:Nat},Dd (dW j d) i=if j≤i then (d[i - j]?).getD .undef else .undef:=by
    intro d
    induction d with
    | nil=>intro j i;simp[dW,Dd]
    | cons v r M =>
     intro j i
     rw[dW,Dd]
     cases m:Nat.beq j i with
     | true=>have:=Nat.eq_of_beq_eq_true m;subst this;simp
     | false =>
      have:=Mo m
      simp only[cond_false]
      rw[M]
      by_cases A:j+1≤i
      ·rw[if_pos A,if_pos (by omega),show i - j=(i - (j+1))+1 by omega];simp
      ·rw[if_neg A]
       by_cases l:j≤i
       ·omega
       ·rw[if_neg l]
   have I:Inv ⟨J,β,h,w⟩ fn.ntmps J β { s:=dW 0 d,h:=h } { tmps:=vs.toArray++Array.replicate (fn.ntmps - vs.toArray.size) undef,defers:=[] } w:=by
    refine⟨S,⟨fun i v m=>?_,fun i m=>?_⟩,?_,rfl,rfl,rfl,rfl,Nat.le_refl _,fun _ _ _=>rfl,fun _ K _=>K,fun _ _ O=>O,fun _ _ O=>.inl O,fun _=>Nat.le_refl _,?_,?_,?_⟩
    ·rw[sgetI,if_pos (Nat.zero_le _)]
     by_cases B:i<d.length
     ·have l:d[i - 0]?=some d[i]:=by simp[B]
      rw[l]
      have D:vs[i]?=some v:=by
       rw[Array.getElem?_append_left (by simp;omega)] at m
       simpa using m
      exact((Bo).1 U).2 i _ _ (by simp[B]) D
     ·have l:d[i - 0]?=none:=by simp;omega
      rw[l];simp[Rep]
    ·simp at m
     rw[sgetI,if_pos (Nat.zero_le _)]
     have l:d[i - 0]?=none:=by simp;omega
     rw[l];rfl
    ·simp;omega
    ·intro b x0 e;exact(VC.1 (roots k e)).2
    ·intro b x0 e;exact(VC.1 (roots k e)).1
    ·intro b x0 x e F hd
     change Ah h b=some x0 at e
     change Ah h b=some x at F
     rw[e] at F;simp at F;subst F
     exact⟨⟨rfl,rfl⟩,rfl,fun _=>rfl,hd⟩
   have fin:∀ st' G w' J' β',Inv ⟨J,β,h,w⟩ fn.ntmps J' β' st' G w'→My { P:=P,nt:=fn.ntmps,muts:=muts,nils:=q.nils,free:=q.free,cob:=q.cob,tbl:=T } fn q.modes (h.map (·.1)) (fun v h'=>some (v,h')) st'=some (n,h') →
     G.defers=[]∧∃ v,(results fn G.tmps).run P w'=.ok v w'∧∃ vc J' β',Ending.returned v=.returned vc∧FDone ⟨J,β,h,w⟩ J' β' h' w'∧Rep J' β' h' w' n vc:=by
    intro st' G w' J' β' I' l
    obtain⟨res2,h2',vc,J2,β2,D,h4,h5,h6⟩:=b_ I' l
    simp at D
    obtain⟨rfl,rfl⟩:=D
    exact⟨I'.defers,vc,h4,vc,J2,β2,rfl,h5,h6⟩
   exact jC (E:={ P:=P,nt:=fn.ntmps,muts:=muts,nils:=q.nils,free:=q.free,cob:=q.cob,tbl:=T }) (qT hT) K c I X fin (fun _ _ _ _ _ _ _ l=>by simp at l) fin
end Gx

namespace Gx
open Go
section
variable {R R':Type}
theorem lY (E:Env) (ops:Array Oper) (o:Oper) (st:St) (k:St→Foot→O R) (g:R→Option R'):(iQ E ops o st k).bind g=iQ E ops o st fun st f=>(k st f).bind g:=by
 rw[Zy,Zy,Option.bind_assoc]
theorem gC (ops:Array Oper) (o:Oper) (st:St) (k:St→O R) (g:R→Option R'):(LN ops o st k).bind g=LN ops o st fun st=>(k st).bind g:=by
 unfold LN
 split
 ·rfl
 ·split
  ·rfl
  ·split
   ·rw[Ak]
   ·rfl
theorem VJ (E:Env) (ops:Array Oper) (g:R→Option R'):∀ (l:List Oper) (st:St) (tr:List Foot) (k:St→List Foot→O R),(T' E ops l st tr k).bind g=T' E ops l st tr fun st tr=>(k st tr).bind g
 | [],st,tr,k=>rfl
 | o::r,st,tr,k=>by
  rw[T',T',gC]
  congr 1;funext st
  rw[lY]
  congr 1;funext st f
  exact VJ E ops g r st (f::tr) k
theorem cC (E:Env) (roots:List Nat) (ops:Array Oper) (draw:Bool) (st:St) (k:St→O R) (g:R→Option R'):(Zr E roots ops draw st k).bind g=Zr E roots ops draw st fun st=>(k st).bind g:=by
 unfold Zr
 rw[VJ]
 congr 1;funext st tr
 rw[Ak,Option.bind_assoc];rfl
theorem lZ (E:Env) (roots:List Nat) (H:Hint) (f:St→O R) (g:R→Option R') (st:St):(nq E roots H f st).bind g=nq E roots H (fun st=>(f st).bind g) st:=by
 unfold nq
 rw[Ak,Option.bind_assoc,Pe,Pe]
theorem OV (cn:St→Option St) (b:(St→O R)→St→O R) (c:(St→Option R')→St→Option R') (g:R→Option R') (d:∀ k st,(b k st).bind g=c (fun st=>(k st).bind g) st):∀ n st,(Wu cn b n st).bind g=Wu cn c n st
 | 0,st=>rfl
 | n+1,st=>by
  rw[Wu,Wu,d]
  congr 1;funext st
  rw[Option.bind_assoc]
  congr 1;funext st
  exact OV cn b c g d n st
theorem jI (E:Env) (roots:List Nat) (N:Nat) (g:R→Option R'):∀ (c:Code) (H:Hint) (k:St→O R) (x:Nat→St→O R) (r:St→O R) (st:St),
  (Df E roots N c H k x r st).bind g=Df E roots N c H (fun st=>(k st).bind g) (fun j st=>(x j st).bind g) (fun st=>(r st).bind g) st:=by
 intro c
 induction c with
 | skip=>intro H k x r st;rfl
 | region id ops draw=>intro H k x r st;exact cC ..
 | seq a b d e =>
  intro H k x r st
  rw[Df,Df,d]
  congr 1;funext st
  rw[lZ]
  congr 1;funext st
  exact e ..
 | cond c a b d e =>
  intro H k x r st
  rw[Df,Df]
  split
  ·rw[Ak,d,e]
  ·rfl
 | block id c f =>
  intro H k x r st
  rw[Df,Df,f]
  simp only[Ak]
 | loop c f =>
  intro H k x r st
  rw[Df,Df,Option.bind_assoc,Pe,Pe]
  congr 1;funext st
  exact OV _ _ _ g (fun k st=>f ..) N st
 | exit id=>intro H k x r st;rfl
 | ret=>intro H k x r st;rfl
 | rangeFunc=>intro H k x r st;rfl
 | scope=>intro H k x r st;rfl
 | label=>intro H k x r st;rfl
 | goto=>intro H k x r st;rfl
 | refuse=>intro H k x r st;rfl
theorem Q6 (E:Env) (st:St) (g:R→Option R'):∀ (l:List ResultVar) (b:LA) (k:LA→O R),(Hn E st l b k).bind g=Hn E st l b fun l=>(k l).bind g
 | [],b,k=>rfl
 | .tmp t::r,b,k=>by rw[Hn,Hn];exact Q6 E st g r _ k
 | .cell a t::r,b,k=>by
  rw[Hn,Hn,Tt,Tt (R:=R'),Option.bind_assoc]
  congr 1;funext v
  exact Q6 E st g r _ k
theorem cD (E:Env) (fn:Func) (modes:List (Nat×Nat)) (outs:List Nat) (k:AV→Ai→O R) (g:R→Option R') (st:St):(My E fn modes outs k st).bind g=My E fn modes outs (fun v h=>(k v h).bind g) st:=by
 unfold My
 rw[Q6]
 congr 1;funext l
 rw[Option.bind_assoc]
 congr 1;funext q
 rw[Ak];rfl
theorem l0 (P:Program) (muts:Nat→List Bool) (T:List (Nat×Tw)) (c:Hints) (N f:Nat) (b:LA) (h:Ai) (k:AV→Ai→O R) :
  Vb P muts T c N f b h k=(Vb P muts T c N f b h fun v h=>some (v,h)).bind fun p=>k p.1 p.2:=by
 unfold Vb
 split
 ·rfl
 ·split
  ·rfl
  ·simp only
   rw[Ak,jI]
   simp only[cD]
   rfl
structure Cut (R:Type) where
 c:Code
 H:Hint
 k:St→O R
 x:Nat→St→O R
 r:St→O R
noncomputable def sa (E:Env) (roots:List Nat) (N:Nat):List Nat→Code→Hint→(St→O R)→(Nat→St→O R)→(St→O R)→List (St→O R)→Cut R
 | [],c,H,k,x,r,_=>⟨c,H,k,x,r⟩
 | d::p,.seq a b,H,k,x,r,ks=>cond (Nat.beq d 0) (sa E roots N p a H.a (nq E roots H fun st=>Df E roots N b H.b k x r st) x r ks) (sa E roots N p b H.b k x r ks)
 | d::p,.cond _ a b,H,k,x,r,ks=>cond (Nat.beq d 0) (sa E roots N p a H.a k x r ks) (sa E roots N p b H.b k x r ks)
 | _::p,.block id c,H,k,x,r,ks=>sa E roots N p c H.a k (fun j st=>cond (Nat.beq j id) (k st) (x j st)) r ks
 | _::p,.loop c,H,_,x,r,q::ks=>sa E roots N p c H.a (fun st=>(GO E H.live roots st).bind q) x r ks
 | _::_,c,H,k,x,r,_=>⟨c,H,k,x,r⟩
def jJ:Code→Code
 | .loop c=>c
 | c=>c
structure CutB (R:Type) where
 E:Env
 roots:List Nat
 N:Nat
 c:Cut R
noncomputable def C7 (q:CutB R) (st:St):O R:=Df q.E q.roots q.N q.c.c q.c.H q.c.k q.c.x q.c.r st
noncomputable def qU (q:CutB R) (st:St):O R:=qI true (fun st=>Df q.E q.roots q.N q.c.c q.c.H q.c.k q.c.x q.c.r st) st
theorem A8 (q:CutB R) (st:St):qU q st=C7 q st:=by unfold qU;rw[Pe];rfl
noncomputable def Ax (q:CutB R) (n:Nat) (st:St):O R:=Wu (GO q.E q.c.H.live q.roots) (fun k st=>Df q.E q.roots q.N (jJ q.c.c) q.c.H.a k q.c.x q.c.r st) n st
noncomputable def sG (q:CutB R) (st:St):O R:=qI true (Wu (GO q.E q.c.H.live q.roots) (fun k st=>Df q.E q.roots q.N (jJ q.c.c) q.c.H.a k q.c.x q.c.r st) q.N) st
theorem Ar (q:CutB R) (st:St):sG q st=Ax q q.N st:=by unfold sG;rw[Pe];rfl
def sb (fn:Func):Code:=match fn.body with | some c=>c | none=>.skip
def sH:List (Nat×List Bool)→Nat→List Bool
 | [],_=>[]
 | (i,l)::r,f=>cond (Nat.beq i f) l (sH r f)
end
end Gx

namespace Gx
open Go
abbrev KF (R:Type):=AV→Ai→Option R
abbrev Gn:=List (Nat×Tw)
abbrev hL:Hint:=.leaf
abbrev hS (a b:Hint):Hint:=.node [] a b
abbrev hP (l:List Nat) (a:Hint):Hint:=.node l a .leaf
abbrev hJ (l:List Nat) (a b:Hint):Hint:=.join l a b
def rc (P:Program) (muts:Nat→List Bool) (nt:Nat) (hs:Hints) (T:List (Nat×Tw)):Env:={ P,nt,muts,nils:=hs.nils,free:=hs.free,cob:=hs.cob,tbl:=T }
noncomputable def uU {R:Type} (P:Program) (muts:Nat→List Bool) (fn:Func) (hs:Hints) (T:List (Nat×Tw)) (roots:List Nat) (N:Nat) (F:KF R) (p:List Nat) (ks:List (St→O R)):CutB R :=
 ⟨rc P muts fn.ntmps hs T,roots,N,sa (rc P muts fn.ntmps hs T) roots N p (sb fn) hs.H (My (rc P muts fn.ntmps hs T) fn hs.modes roots F) (fun _ _=>none) (My (rc P muts fn.ntmps hs T) fn hs.modes roots F) ks⟩
def iv (n:Int):AV:=.int .i64 n
def op (k:Nat):AV:=.optr (300000+k) 0
def uN:Nat→List Blk→Ai
 | _,[]=>[]
 | i,b::r=>(i,b)::uN (i+1) r
def hq (l:List Blk):Ai:=uN 300000 l
def bQ (sz:Nat) (c:LA):Blk:=⟨false,false,true,false,sz,c,false,none⟩
def bN (sz:Nat) (c:LA):Blk:=⟨false,false,false,false,sz,c,false,none⟩
def bP (t:Bool) (sz:Nat) (c:LA):Blk:=⟨false,false,true,t,sz,c,false,none⟩
def Bi {R:Type} (kd:IntKind) (c:LA) (k:Int→O R):O R:=(c.head?).bind fun x=>(NZ kd x).bind k
def Pc {R:Type} (c:LA) (k:Bool→O R):O R:=(c.head?).bind fun x=>(asBool x).bind k
def tp {R:Type} (c:LA) (k:List UInt8→O R):O R:=(c.head?).bind fun x=>(TV x).bind k
def Lq {R:Type} (sz:Nat) (c:LA) (k:LA→Nat→O R):O R:=(c.head?).bind fun x=>(r8 sz x).bind fun p=>k p.1 p.2
def l4 (k:IntKind) (a b:Int):Int:=k.wrap ((BitVec.ofInt k.bits a &&& BitVec.ofInt k.bits b).toNat:Int)
def I6 (k:IntKind) (a b:Int):Int:=k.wrap ((BitVec.ofInt k.bits a ||| BitVec.ofInt k.bits b).toNat:Int)
def Fp (s:List UInt8):LA:=s.map fun b=>.int .u8 (b.toNat:Int)
def sc (P:Program) (muts:Nat→List Bool) (N f:Nat) (run:(R:Type)→Nat→LA→Ai→KF R→O R):Prop:=∀ {R Q:Type} (args:LA) (h:Ai) (k:KF R) (j:KF Q),
 (∃ T hs,VD P T∧run R N args h k=Vb P muts T hs N f args h k∧run Q N args h j=Vb P muts T hs N f args h j)∨(run R N args h k=none∧run Q N args h j=none)
theorem Ay {P:Program} {muts:Nat→List Bool} {T:List (Nat×Tw)} {d:Hints} {N f:Nat} {c:LA} {h:Ai} {R Q:Type} {k:KF R} {j:KF Q} {a:O R} {b:Option Q} {p:Prop}
  (e:Vb P muts T d N f c h k=a) (i:Vb P muts T d N f c h j=b) (hT:VD P T):(∃ T d,VD P T∧a=Vb P muts T d N f c h k∧b=Vb P muts T d N f c h j)∨p:=.inl ⟨T,d,hT,e.symm,i.symm⟩
theorem A0 {R Q:Type} {p:Prop}:p∨((none:O R)=none∧(none:Option Q)=none):=.inr ⟨rfl,rfl⟩
def Az {P:Program} {muts:Nat→List Bool} {N f:Nat} {run:(R:Type)→Nat→LA→Ai→KF R→O R} (H:sc P muts N f run):Tw:=⟨fun {R} args h k=>run R N args h k,fun args h k=>by
 rcases H args h k (fun v h=>some (v,h)) with⟨T,hs,_,e1,e2⟩ | ⟨e1,e2⟩
 ·rw[e1,e2];exact l0 ..
 ·rw[e1,e2];rfl⟩
theorem tq {P:Program} {muts:Nat→List Bool} {N f:Nat} {run:(R:Type)→Nat→LA→Ai→KF R→O R} (H:sc P muts N f run) (e:P.follows .mixedOrders=true):lT P f (Az H):=by
 intro b h i h' c
 change run _ N b h _=_ at c
 rcases H b h (fun v h=>some (v,h)) (fun v h=>some (v,h)) with⟨T,j,hT,d,_⟩ | ⟨d,_⟩
 ·rw[d] at c;exact jH hT e c
 ·rw[d] at c;cases c
theorem Ee {α δ:Type} (f:α→δ) {a b:α} (c:a=b):f a=f b:=by rw[c]
theorem pt {α β δ:Type} (f:α→β→δ) {a c:α} {b d:β} (e:a=c) (i:b=d):f a b=f c d:=by rw[e,i]
theorem uV {α β γ δ:Type} (f:α→β→γ→δ) {a d:α} {b e:β} {c c':γ} (i:a=d) (j:b=e) (k:c=c'):f a b c=f d e c':=by rw[i,j,k]
end Gx

namespace Gx
open Go Go.RowKit
theorem oE {P:Program} {f:Nat} {t:Tw} (i:lT P f t) {W:World} {avs:LA} {vs:List Value} (m:Reps (fun _ k=>k<W.heap.size) (fun _=>none) [] W avs vs)
  (d:(t.runK avs [] fun v h=>some (v,h))=some (.bool true,[])) (j:GlobOk (fun _ k=>k<W.heap.size) W):Calls P f vs.toArray W fun e w'=>e=.returned (.bool true)∧Below W.heap.size W w':=by
 have S:SimH (fun _ k=>k<W.heap.size) (fun _=>none) [] W:=⟨fun _ _ h=>h,fun _ h=>h,j,fun b x c=>by simp[Ah] at c,fun b x c=>by simp[Ah] at c,fun b q x x' k o o' c=>by simp[Ah] at c⟩
 refine Calls.mono (i avs [] _ _ d _ _ W vs S m) ?_
 rintro e w' ⟨vc,J',β',rfl,F,l⟩
 rw[Rep] at l;subst l
 refine⟨rfl,F.os,F.tape,F.output,F.size,fun k n=>F.frame k n ?_⟩
 rintro⟨b,x,o,c,_⟩
 change Ah [] b=some x at c
 simp[Ah] at c
structure Opens (P:Program) (t:TypeId) {α:Type} (e:α→List AV) (n:Nat):Prop where
 size:P.cellsOf t=n
 pos:0<n
 len:∀ a,(e a).length=n
 read:∀ {H:Type} (enc:TypeId×Value→H) (W:World) (fuel:Nat) (cs:List Value) (d:DataW H) (ps:List MemPlace),DataW.trod enc P W 0 (fun _=>true) true fuel t cs=some (d,ps) →
  cs.length=n∧∃ a,RepCs (fun k=>k<W.heap.size) W (e a) (fun j=>cs[j]?) 0
theorem Z0 {P:Program} {t:TypeId} {k:IntKind} (c:P.underlying t=some (.int k)) (e:P.cellsOf t=1):Opens P t (α:={ n:Int // (Lit.int k n).wf=true }) (fun n=>[.int k n.1]) 1:=by
 refine⟨e,by omega,fun _=>rfl,fun enc W b cs d ps h=>?_⟩
 obtain⟨n,rfl,_,f⟩:=DataW.trod_int c h
 exact⟨rfl,⟨n,f⟩,by simp[RepCs,RepC]⟩
theorem qV {P:Program} {t:TypeId} (e:P.underlying t=some (.int .u8)) (f:P.cellsOf t=1):Opens P t (α:=UInt8) (fun b=>[.int .u8 (b.toNat:Int)]) 1:=by
 refine⟨f,by omega,fun _=>rfl,fun enc W c cs d ps h=>?_⟩
 obtain⟨n,rfl,_,i⟩:=DataW.trod_int e h
 have j:0≤n∧n≤255:=by simpa[Lit.wf,IntKind.min,IntKind.max,IntKind.signed,IntKind.bits] using i
 refine⟨rfl,UInt8.ofNat n.toNat,?_⟩
 have:((UInt8.ofNat n.toNat).toNat:Int)=n:=by
  rw[UInt8.toNat_ofNat'];omega
 simp[RepCs,RepC]
 omega
theorem OW {α β:Type} {e:α→List β} {n:Nat} (d:0<n) (b:∀ a,(e a).length=n):∀ (l:List α) (j:Nat),(l.flatMap e)[j]?=(l[j/n]?).bind fun a=>(e a)[j%n]?
 | [],j=>by simp
 | a::r,j=>by
  rw[List.flatMap_cons]
  by_cases c:j<n
  ·rw[List.getElem?_append_left (by rw[b];exact c),Nat.div_eq_of_lt c,Nat.mod_eq_of_lt c];simp
  ·rw[List.getElem?_append_right (by rw[b];omega),b,OW d b r (j - n)]
   have f:j/n=(j - n)/n+1:=by
    have:=Nat.add_div_right (j - n) d
    rw[show j - n+n=j by omega] at this;exact this
   have i:j%n=(j - n)%n:=by
    have:=Nat.add_mod_right (j - n) n
    rw[show j - n+n=j by omega] at this;exact this
   rw[f,i];simp
theorem OX {α β:Type} {e:α→List β} {n:Nat} (b:∀ a,(e a).length=n):∀ (l:List α),(l.flatMap e).length=l.length*n
 | []=>by simp
 | a::r=>by rw[List.flatMap_cons,List.length_append,b,OX b r,List.length_cons,Nat.succ_mul];omega
theorem jK {α β:Type} {f:α→Option β}:∀ {l:List α} {r:List β},l.mapM f=some r→r.length=l.length∧∀ (i:Nat) (a:α),l[i]?=some a→f a=r[i]?
 | [],r,h=>by simp at h;subst h;simp
 | x::l,r,h=>by
  rw[List.mapM_cons] at h
  cases b:f x with
  | none=>simp[b] at h
  | some y =>
   cases c:l.mapM f with
   | none=>simp[b,c] at h
   | some ys =>
    simp[b,c] at h
    subst h
    obtain⟨e,j⟩:=jK c
    refine⟨by simp[e],fun i a d=>?_⟩
    cases i with
    | zero=>simp at d;subst d;simpa using b
    | succ i=>simpa using j i a (by simpa using d)
theorem jL {P:Program} {t D:TypeId} {α:Type} {e:α→LA} {n:Nat} (X:P.underlying t=some (.slice D)) (Y:P.cellsOf t=1) (s:Opens P D e n) :
  Opens P t (α:={ l:List α // l.length≤maxLen }) (fun l=>[.imm (l.1.flatMap e) l.1.length n false false]) 1:=by
 refine⟨Y,by omega,fun _=>rfl,fun enc W b cs d ps h=>?_⟩
 cases b with
 | zero=>simp[DataW.trod] at h
 | succ b =>
  unfold DataW.trod at h
  simp only[X] at h
  split at h
  all_goals first | (rename_i c;simp at c;done) | (rename_i c _;simp at c;done) | (rename_i c _ _;simp at c;done) | skip
  ·refine⟨rfl,⟨[],by simp⟩,?_⟩
   simp[RepCs,RepC]
  ·rename_i e' a len cap c
   simp at c;subst c
   split at h
   ·rename_i v
    obtain⟨hb,hlc,hcm⟩:=v
    refine⟨rfl,?_⟩
    cases K:(List.range len).mapM (fun i=>(W.cells? 0 (a.add (i*P.cellsOf D)) (P.cellsOf D)).bind (DataW.trod enc P W 0 (fun _=>true) true b D)) with
    | none=>rw[K] at h;simp at h
    | some dM =>
     obtain⟨h1,T⟩:=jK K
     rw[s.size] at T
     have each:∀ i:Nat,i<len→∃ x:α,∃ cs,W.cells? 0 (a.add (i*n)) n=some cs∧RepCs (fun k=>k<W.heap.size) W (e x) (fun j=>cs[j]?) 0:=by
      intro i U
      have F:=T i i (by simp[U])
      rw[List.getElem?_eq_getElem (by rw[h1];simpa using U)] at F
      cases f:W.cells? 0 (a.add (i*n)) n with
      | none=>rw[f] at F;simp at F
      | some cs =>
       rw[f] at F
       obtain⟨_,x,c⟩:=s.read enc W b cs _ _ F
       exact⟨x,cs,rfl,c⟩
     have build:∀ m,m≤len→∃ l:List α,l.length=m∧∀ i x,l[i]?=some x→∃ cs,W.cells? 0 (a.add (i*n)) n=some cs∧RepCs (fun k=>k<W.heap.size) W (e x) (fun j=>cs[j]?) 0:=by
      intro m
      induction m with
      | zero=>intro _;exact⟨[],rfl,by simp⟩
      | succ m ih =>
       intro K
       obtain⟨l,I,z⟩:=ih (by omega)
       obtain⟨x,cs,L,M⟩:=each m (by omega)
       refine⟨l++[x],by simp[I],fun i y B=>?_⟩
       rw[List.getElem?_append] at B
       split at B
       ·exact z i y B
       ·have:i=m:=by
         have:=(List.getElem?_eq_some_iff.1 B).1
         simp at this;omega
        subst this
        simp[I] at B;subst B
        exact⟨cs,L,M⟩
     obtain⟨l,I,z⟩:=build len (Nat.le_refl _)
     refine⟨⟨l,by omega⟩,?_⟩
     simp only[RepCs,RepC,and_true]
     refine⟨_,rfl,?_,some a,cap,by rw[I],by omega,by simp,?_⟩
     ·exact OX s.len l
     ·by_cases h0:l.length=0
      ·exact .inl h0
      ·right
       refine⟨a,rfl,?_,?_⟩
       ·obtain⟨x,cs,c,_⟩:=each 0 (by omega)
        have:=World.cells?_block c s.pos
        rwa [Ks] at this
       ·rw[Bg]
        intro j x C
        rw[OW s.pos s.len] at C
        cases hq:l[j/n]? with
        | none=>rw[hq] at C;simp at C
        | some y =>
         rw[hq] at C
         simp at C
         obtain⟨cs,f,q⟩:=z (j/n) y hq
         rw[Bg] at q
         obtain⟨u,G,O⟩:=q (j%n) x C
         refine⟨u,?_,O⟩
         obtain⟨_,V,A⟩:=World.cells?_some f
         have S:j%n<n:=Nat.mod_lt _ s.pos
         have:=A (j%n) S
         rw[Addr.add_add,show j/n*n+j%n=j by rw[Nat.mul_comm];exact Nat.div_add_mod j n] at this
         simp only[Nat.zero_add] at G ⊢
         rw[this];exact G
   ·simp at h
  ·simp at h
end Gx

namespace Gx
open Go Go.RowKit
theorem l5 {J:Bool→Nat→Prop} {β:Bf} {w w':World} (S:SimH J β [] w) (B:Below w.heap.size w w'):SimH J β [] w' :=
 ⟨fun o k h=>Nat.lt_of_lt_of_le (S.jlt o k h) B.size,S.jft,S.gl.to (fun _ h=>h) (fun k d=>B.block k (S.jlt _ k d)),fun b x c=>by simp[Ah] at c,fun b x c=>by simp[Ah] at c,fun b e x x' k o o' c=>by simp[Ah] at c⟩
theorem MB {P:Program} {f:Nat} {c:LA} {d:AV}
  (l:∀ (J:Bool→Nat→Prop) (β:Bf) (w:World) (vs:List Value),GlobOk J w→Reps J β [] w c vs→Calls P f vs.toArray w fun e w'=>∃ vc,e=.returned vc∧Below w.heap.size w w'∧∀ J β w,Rep J β [] w d vc):tb P f c [] d []:=by
 intro J β w vs S m
 refine(l J β w vs S.gl m).mono ?_
 rintro e w' ⟨vc,rfl,B,n⟩
 refine⟨vc,J,β,rfl,⟨l5 S B,B.os,B.tape,B.output,B.size,fun k j _=>B.block k j,?_,fun _ _ h=>h,fun _ _ h=>.inl h,fun k=>?_,fun b x0 x i=>by simp[Ah] at i,fun b x i=>by simp[Ah] at i⟩,n _ _ _⟩
 ·rintro k ⟨b,x,o,i,_⟩;simp[Ah] at i
 ·by_cases j:k<w.heap.size
  ·simp[Au,B.block k j]
  ·simp[Au,Array.getElem?_eq_none (Nat.le_of_not_lt j)]
theorem jM {J:Bool→Nat→Prop} {β:Bf} {h:Ai} {w:World} {x:AV} {vs:List Value} (H:Reps J β h w [x] vs):∃ u,vs=[u]∧Rep J β h w x u:=by
 rw[Reps] at H
 obtain⟨u,d,rfl,c,b⟩:=H
 rw[Reps] at b;subst b
 exact⟨u,rfl,c⟩
theorem jN {J:Bool→Nat→Prop} {β:Bf} {h:Ai} {w:World} {x y:AV} {vs:List Value} (H:Reps J β h w [x,y] vs):∃ u v,vs=[u,v]∧Rep J β h w x u∧Rep J β h w y v:=by
 rw[Reps] at H
 obtain⟨u,e,rfl,b,c⟩:=H
 obtain⟨v,rfl,d⟩:=jM c
 exact⟨u,v,rfl,b,d⟩
theorem qW {W:World} {P:Program} {g:Nat} {name:String} {k:IntKind} {zs:List Int} (h:Lib.TabIs P W name k zs) (b:P.globalNamed name=some g):∃ ty fr,W.heap[g]?=some (.cells (zs.map fun z=>Value.int k z).toArray ty fr):=by
 unfold Lib.TabIs World.var? at h
 rw[b] at h
 simp only[Option.bind_some] at h
 split at h
 ·rename_i cs ty fr c
  simp at h;subst h
  exact⟨ty,fr,c⟩
 ·cases h
theorem GlobOk.int {J:Bool→Nat→Prop} {w:World} (h:GlobOk J w) {g:Nat} (b:g ∈ kv):∃ m,w.cell? ⟨g,0,none⟩=some (.int .i64 m):=(h.2 g b).2
theorem qX {W:World} {g i:Nat} {v:Value} (h:W.cell? ⟨g,i,none⟩=some v):g<W.heap.size:=by
 rcases Nat.lt_or_ge g W.heap.size with b | b
 ·exact b
 ·simp[World.cell?,Array.getElem?_eq_none b] at h
end Gx

namespace Gx
open Go
theorem am {a b:Bool} (c:a=true) (d:b=true):(a&&b)=true:=by rw[c,d];rfl
theorem qY {P:Program} (M:laidOutB P=true) (O:mapsRowed P=true) (S:(P.stops==[])=true) (T:(P.stopKnobs==[])=true) (b:P.stopsHeard=true) (d:P.mayEnter=true) {f:FuncId} {fn:Func} {s:ChangeSpec} {c:OpenClaim} (e:(c.inPlace==P.inPlace f)=true) (i:(c.unfollowed==P.unfollowed f)=true) (j:(c.recurses==P.recurses f)=true) (l:(c.named==P.varsNamed f)=true)
  (m:(c.lifted==P.liftsFinal)=true) (n:(P.make==some c.make)=true) (q:(c.plainKeys==P.plainKeys)=true)
  (U:c.wf (OpenSpec.ofChange s)=true) (V:fn.params.all (P.readableRec ·)=true) (X:namedTie P c.named s.vars=true) (Y:(c.stops==[])=true) (h8:(c.knobs==[])=true)
  (u:(c.maps==(fn.params.toList++s.plain.varTypes P).any (P.mapsRec ·))=true) (v:(c.ifaces==(fn.params.toList++s.plain.varTypes P).any (P.ifacesRec ·))=true) (x:(c.mapsOut==P.mapsAmong fn.resultTypes.toList)=true)
  (y:(c.loops==(fn.params.toList++s.plain.varTypes P).any (P.loopsFrom ·))=true) (z:(c.wideKeys==(fn.params.toList++s.plain.varTypes P++fn.resultTypes.toList).any (P.wideKeysFrom ·))=true)
  (A:s.vars.all (P.varReadable ·)=true) (B:fn.resultTypes.all (fun t=>P.readableRec t&&decide (t<P.types.size))=true) (C:(c.ifacesOut==fn.resultTypes.toList.any (P.ifacesRec ·))=true) (D:(c.loopsOut==fn.resultTypes.toList.any (P.loopsFrom ·))=true)
  (F:c.shortTexts.isNone=true) (G:(c.kinds==(if c.domain.isEmpty then [] else fn.params.toList.map fun t=>match P.underlying t with | some (.int k)=>some k | _=>none))=true) (I:(c.pinned==c.pinnedBy)=true)
  (K:(c.veiled==(fn.params.toList++s.plain.varTypes P++fn.resultTypes.toList).any (P.veiledRec ·))=true) (L:c.veiledFits P fn.params.toList (fn.params.toList++s.plain.varTypes P++fn.resultTypes.toList)=true):joinedFacts P f fn s c=true:=by
 unfold joinedFacts
 exact am (am (am (am (am (am (am (am (am (am (am (am (am (am (am (am (am (am (am (am (am (am (am (am (am (am (am (am (am (am (am U M) O) V) X) Y) S) h8) T) e) i) j) l) u) v) x) y) z) A) B) C) D) q) F) b) d) m) n) G) I) K) L
end Gx

namespace Go.Proofs.YtjmfofdghmlldaaGreatDoor
open Go.ChangeShapes Go.WideShapes Go.ChangeAt Go.RowKit
theorem tt:ownKnob Tryz.prog.godebug=none:=by kernel_rfl
theorem Rx:laidOutB Tryz.prog=true:=by kernel_rfl
theorem tw : Tryz.prog.globalNamed "internal/strconv.uint64pow10" = some 3 := by kernel_rfl
theorem uW:(Tryz.prog.globals[3]?).map (·.type)=some 333:=by kernel_rfl
theorem tz:Tryz.prog.underlying 333=some (.array 20 114):=by kernel_rfl
theorem uA:Tryz.prog.underlying 114=some (.int .u64):=by kernel_rfl
theorem uB:Tryz.prog.cellsOf 333=20:=by kernel_rfl
theorem uC:Tryz.prog.cellsOf 114=1:=by kernel_rfl
def tK:List Int:=(List.range 20).map fun i=>((10 ^ i:Nat):Int)
theorem oF {H:Type}:(Rows.laid_internal_strconv_uint64pow10:DataW H)=Lib.tabData .u64 tK:=rfl
theorem sd {W:World} (hL:laidMetH Tryz.prog Rows.numtextNativeRow.laid W) (c:W.ShapedOpen Tryz.prog):Gx.GlobOk (fun _ k=>k<W.heap.size) W:=by
 have s : Lib.TabIs Tryz.prog W "internal/strconv.uint64pow10" .u64 tK := by
  have d:laidMet Tryz.prog Rows.numtextNativeRow.laid W:=hL
  obtain⟨ps,⟨D,t0,cs0,F,G,I,u,v,x,y,⟨K,t1,cs1,L,M,O,z,A,B,C,⟨S,t2,cs2,T,U,V,e,f,i,b,_,_⟩,_⟩,_⟩,_⟩:=d
  obtain rfl:=Option.some.inj (tw.symm.trans e)
  obtain rfl:=Option.some.inj (uW.symm.trans f)
  unfold Lib.TabIs
  rw[oF] at b
  rw[i,←Lib.cells_of_tab tz uA uC uB b]
 obtain⟨ty,fr,j⟩:=Gx.qW s tw
 obtain⟨m,l⟩:=cell_of_shapedOpen_int (P:=Tryz.prog) (g:=0) (t:=3) (zero:=#[.int .i64 0]) c (of_decide_eq_true (by kernel_rfl)) (by kernel_rfl) rfl (by kernel_rfl) (by kernel_rfl) Tryz.underlying3
 refine⟨fun p n=>?_,fun g q=>?_⟩
 ·simp only[Gx.sE,List.mem_singleton] at n
  subst n
  refine⟨?_,ty,fr,?_⟩
  ·show 3<W.heap.size
   rcases Nat.lt_or_ge 3 W.heap.size with h | h
   ·exact h
   ·rw[Array.getElem?_eq_none h] at j;cases j
  ·rw[j];rfl
 ·simp only[Gx.kv,List.mem_singleton] at q
  subst q
  exact⟨Gx.qX l,m,l⟩
noncomputable def se (os:Os):World:=World.doorLaid Tryz.prog 3000 os
theorem qZ (os:Os) (b:Array Value):laidMetH Tryz.prog Rows.numtextNativeRow.laid ((se os).forCall (fun _ _=>0) ⟨#[],b,[]⟩).memory :=
 laidMet_of_run' 8 (by kernel_rfl) (by kernel_rfl)
theorem sI:mapsRowed Tryz.prog=true:=by kernel_rfl
theorem q8:(Tryz.prog.stops==[])=true:=by kernel_rfl
theorem q9:(Tryz.prog.stopKnobs==[])=true:=by kernel_rfl
theorem q_:Tryz.prog.stopsHeard=true:=by kernel_rfl
theorem qa:Tryz.prog.mayEnter=true:=by kernel_rfl
theorem qb:(Rows.numtextNativeRow.lifted==Tryz.prog.liftsFinal)=true:=by kernel_rfl
theorem sJ:(Tryz.prog.make==some Rows.numtextNativeRow.make)=true:=by kernel_rfl
theorem sK:(Rows.numtextNativeRow.plainKeys==Tryz.prog.plainKeys)=true:=by kernel_rfl
end Go.Proofs.YtjmfofdghmlldaaGreatDoor

namespace Gx
open Go
theorem wrap_u8 (a:Nat):IntKind.wrap .u8 (a:Int)=((a%256:Nat):Int):=by rw[IntKind.wrap_u8];omega
theorem wrap_u32 (a:Nat) (h:a<4294967296):IntKind.wrap .u32 (a:Int)=(a:Int):=IntWalk.u32_in _ (by omega)
theorem oG (a:Nat):IntKind.wrap .u32 (a:Int)=((a%4294967296:Nat):Int):=by rw[IntKind.wrap_u32];omega
theorem wrap_i64 (a:Int) (h:-9223372036854775808≤a∧a≤9223372036854775807):IntKind.wrap .i64 a=a:=IntWalk.i64_in _ h
theorem wrap_u64 (a:Nat) (h:a<18446744073709551616):IntKind.wrap .u64 (a:Int)=(a:Int):=IntWalk.u64_in _ (by omega)
theorem Z1 (w a:Nat):BitVec.ofInt w (a:Int)=BitVec.ofNat w a:=by simp
theorem l6 {k:IntKind} (d:k.signed=false) {a b:Nat} (e:a<2 ^ k.bits) (c:b<2 ^ k.bits):l4 k a b=((a &&& b:Nat):Int):=by
 unfold l4
 rw[Z1,Z1]
 have f:(BitVec.ofNat k.bits a &&& BitVec.ofNat k.bits b).toNat=a &&& b:=by
  rw[BitVec.toNat_and,BitVec.toNat_ofNat,BitVec.toNat_ofNat,Nat.mod_eq_of_lt e,Nat.mod_eq_of_lt c]
 rw[f]
 have i:a &&& b<2 ^ k.bits:=Nat.and_lt_two_pow _ c
 unfold IntKind.wrap
 simp only[d,Bool.false_and,Bool.false_eq_true,if_false]
 have:(2 ^ k.bits:Int)=((2 ^ k.bits:Nat):Int):=by simp
 rw[this,←Int.natCast_emod,Nat.mod_eq_of_lt i]
theorem da {k:IntKind} (e:k.signed=false) {a b:Nat} (c:a<2 ^ k.bits) (d:b<2 ^ k.bits):I6 k a b=((a ||| b:Nat):Int):=by
 unfold I6
 rw[Z1,Z1]
 have f:(BitVec.ofNat k.bits a ||| BitVec.ofNat k.bits b).toNat=a ||| b:=by
  rw[BitVec.toNat_or,BitVec.toNat_ofNat,BitVec.toNat_ofNat,Nat.mod_eq_of_lt c,Nat.mod_eq_of_lt d]
 rw[f]
 have i:a ||| b<2 ^ k.bits:=Nat.or_lt_two_pow c d
 unfold IntKind.wrap
 simp only[e,Bool.false_and,Bool.false_eq_true,if_false]
 have:(2 ^ k.bits:Int)=((2 ^ k.bits:Nat):Int):=by simp
 rw[this,←Int.natCast_emod,Nat.mod_eq_of_lt i]
theorem Jq (a k:Nat):Int.fdiv (a:Int) (2 ^ k)=((a/2 ^ k:Nat):Int):=by
 have:(2 ^ k:Int)=((2 ^ k:Nat):Int):=by simp
 rw[this,Int.fdiv_eq_ediv_of_nonneg (a:Int) (Int.natCast_nonneg (2 ^ k))]
 rfl
theorem Ry {R:Type} {k:IntKind} {n:Int} {r:LA} {f:Int→O R}:Bi k (.int k n::r) f=f n:=by simp[Bi,NZ,Jm]
theorem Aj {i n:Nat} (h:i<n):Am (i:Int) n=true:=by simp[Am];omega
end Gx

namespace Gx
open Go Go.RowKit
section
variable {P:Program} {W:World} {H:Type} {enc:TypeId×Value→H} {β:Bf} {h:Ai}
theorem re {t i:TypeId} {α:Type} {e:α→LA} {n:Nat} {a:Option Addr} {len cap:Nat} {d:DataW H} {p:List MemPlace} (c:P.underlying t=some (.slice i)) (j:P.cellsOf t=1) (m:Opens P i e n)
  (q:DataW.Trod enc P W 0 (fun _=>true) true t (.slice a len cap) d p):∃ l:List α,l.length≤maxLen∧Rep (fun _ k=>k<W.heap.size) β h W (.imm (l.flatMap e) l.length n false false) (.slice a len cap):=by
 obtain⟨b,s⟩:=q
 obtain⟨_,⟨l,v⟩,f⟩:=(jL c j m).read enc W b _ _ _ s
 refine⟨l,v,?_⟩
 simp only[RepCs,Value.cells,and_true] at f
 obtain⟨u,c,f⟩:=f
 simp at c;subst c
 rw[Rep];exact f
theorem VK:∀ l:List UInt8,l.flatMap (fun b=>[AV.int .u8 (b.toNat:Int)])=Fp l
 | []=>rfl
 | b::r=>by rw[List.flatMap_cons,VK r];rfl
theorem qc:Reps (fun _ k=>k<W.heap.size) β h W [] []:=by rw[Reps]
theorem Z2 {x:AV} {xs:LA} {v:Value} {vs:List Value} (b:Rep (fun _ k=>k<W.heap.size) β h W x v) (c:Reps (fun _ k=>k<W.heap.size) β h W xs vs):Reps (fun _ k=>k<W.heap.size) β h W (x::xs) (v::vs):=by
 rw[Reps];exact⟨v,vs,rfl,b,c⟩
end
end Gx

namespace Gx
open Go Go.RowKit
section
variable {P:Program} {W:World} {H:Type} {enc:TypeId×Value→H} {β:Bf} {h:Ai}
theorem qd {t:TypeId} {α:Type} {e:α→LA} {n:Nat} {cs:Array Value} {d:DataW H} {p:List MemPlace} (c:Opens P t e n)
  (f:DataW.Trod enc P W 0 (fun _=>true) true t (.agg cs) d p):∃ a:α,Rep (fun _ k=>k<W.heap.size) β h W (.pagg (e a) false) (.agg cs):=by
 obtain⟨b,i⟩:=f
 obtain⟨j,a,l⟩:=c.read enc W b _ _ _ i
 refine⟨a,?_⟩
 rw[Rep]
 exact⟨cs.toList,rfl,by rw[c.len];exact j,l⟩
end
end Gx

namespace Gx
open Go Go.RowKit
structure OpensF (P:Program) (fs:List Field) (off:Nat) {α:Type} (e:α→List AV) (n:Nat):Prop where
 len:∀ a,(e a).length=n
 read:∀ {H:Type} (enc:TypeId×Value→H) (W:World) (fuel:Nat) (cs:List Value),(∀ (i:Nat) (f:Field),fs[i]?=some f→∃ d ps,DataW.trod enc P W 0 (fun _=>true) true fuel f.type ((cs.drop f.offset).take (P.cellsOf f.type))=some (d,ps)) →
  ∃ a,RepCs (fun k=>k<W.heap.size) W (e a) (fun j=>cs[j]?) off
theorem l7 {P:Program} {off:Nat}:OpensF P [] off (α:=Unit) (fun _=>[]) 0:=⟨fun _=>rfl,fun _ _ _ _ _=>⟨(),by simp[RepCs]⟩⟩
theorem Pj {P:Program} {f:Field} {fs:List Field} {off:Nat} {α β:Type} {e:α→LA} {n:Nat} {v:β→LA} {m:Nat} (B:f.offset=off) (k:Opens P f.type e n) (y:OpensF P fs (off+n) v m) :
  OpensF P (f::fs) off (α:=α×β) (fun p=>e p.1++v p.2) (n+m):=by
 refine⟨fun p=>by rw[List.length_append,k.len,y.len],fun enc W c cs h=>?_⟩
 obtain⟨d,ps,C⟩:=h 0 f rfl
 obtain⟨F,a,z⟩:=k.read enc W c _ _ _ C
 obtain⟨b,A⟩:=y.read enc W c cs fun i g D=>h (i+1) g (by simpa using D)
 refine⟨(a,b),?_⟩
 rw[Bg] at z A ⊢
 intro j x s
 by_cases q:j<n
 ·rw[List.getElem?_append_left (by rw[k.len];exact q)] at s
  obtain⟨u,l,t⟩:=z j x s
  refine⟨u,?_,t⟩
  simp only[Nat.zero_add] at l
  rw[k.size,List.getElem?_take_of_lt q,List.getElem?_drop,B] at l
  exact l
 ·rw[List.getElem?_append_right (by rw[k.len];omega),k.len] at s
  obtain⟨u,l,t⟩:=A (j - n) x s
  refine⟨u,?_,t⟩
  rw[show off+n+(j - n)=off+j by omega] at l
  exact l
theorem gD {P:Program} {t:TypeId} {fs:Array Field} {α:Type} {e:α→LA} {n:Nat} (m:P.underlying t=some (.struct fs)) (j:P.cellsOf t=n) (q:0<n) (h:OpensF P fs.toList 0 e n):Opens P t e n:=by
 refine⟨j,q,h.len,fun enc W k cs d ps s=>?_⟩
 obtain⟨xs,g,_,_,u,b,v⟩:=DataW.trod_struct m s
 refine⟨by rw[u,j],?_⟩
 exact h.read enc W g cs fun i f x=>by
  have l:fs[i]?=some f:=by simpa using x
  have:=v i f l
  have c:i<xs.length:=by
   rw[b];exact(Array.getElem?_eq_some_iff.1 l).1
  rw[List.getElem?_eq_getElem c] at this
  exact⟨_,_,this⟩
end Gx

namespace Gx
open Go Go.RowKit
section
variable {P:Program} {W:World} {H:Type} {enc:TypeId×Value→H} {β:Bf} {h:Ai}
theorem A_ {t:TypeId} {fs:Array Field} {b:Nat} {r:Reach} {v:Value} (c:P.underlying t=some (.struct fs)) (h:Value.okWide P W r b t v):∃ cs,v=.agg cs:=by
 unfold Value.okWide at h
 rw[c] at h
 obtain⟨cs,h,_⟩:=h
 exact⟨cs,h⟩
theorem qe {J:Nat→Prop}:∀ {x:AV} {u:Value},RepC J W x u→Rep (fun _=>J) β h W x u
 | .int ..,_,h=>by rw[Rep];rw[RepC] at h;exact h
 | .bool _,_,h=>by rw[Rep];rw[RepC] at h;exact h
 | .str _,_,h=>by rw[Rep];rw[RepC] at h;exact h
 | .nsl,_,h=>by rw[Rep];rw[RepC] at h;exact h
 | .imm ..,_,h=>by rw[Rep];exact h
 | .iptr ..,_,h=>by rw[Rep];exact h
 | .nilptr,_,h=>by rw[Rep];rw[RepC] at h;exact h
 | .nilfn,_,h=>by rw[Rep];rw[RepC] at h;exact h
 | .fn f [],_,h=>by
  rw[Rep];rw[RepC] at h
  exact⟨[],by simpa using h,by rw[Reps]⟩
 | .fn _ (_::_),_,h=>by simp[RepC] at h
 | .pagg ..,_,h=>by simp[RepC] at h
 | .agg _,_,h=>by simp[RepC] at h
 | .tup _,_,h=>by simp[RepC] at h
 | .own ..,_,h=>by simp[RepC] at h
 | .omap _,_,h=>by simp[RepC] at h
 | .optr ..,_,h=>by simp[RepC] at h
 | .undef,_,h=>by simp[RepC] at h
theorem nR {J:Nat→Prop}:∀ {c:LA} {cs:List Value} {rd:Nat→Option Value} {i:Nat},cs.length=c.length→(∀ j,cs[j]?=rd (i+j))→RepCs J W c rd i→Reps (fun _=>J) β h W c cs
 | [],cs,_,_,b,_,_=>by rw[Reps];simpa using b
 | x::r,[],_,_,b,_,_=>by simp at b
 | x::r,u::l,rd,i,b,f,e=>by
  rw[RepCs] at e
  obtain⟨⟨n,d,m⟩,e⟩:=e
  have k:=f 0
  simp only[List.getElem?_cons_zero,Nat.add_zero] at k
  rw[←k] at d
  cases d
  rw[Reps]
  refine⟨u,l,rfl,qe m,nR (by simpa using b) (fun j=>?_) e⟩
  have:=f (j+1)
  rw[List.getElem?_cons_succ] at this
  rw[this];congr 1;omega
theorem rf {c:LA} {v:Value} (b:Rep (fun _ k=>k<W.heap.size) β h W (.pagg c false) v):Rep (fun _ k=>k<W.heap.size) β h W (.agg c) v:=by
 rw[Rep] at b
 obtain⟨cs,d,e,f⟩:=b
 rw[Rep]
 exact⟨cs,d,nR e (fun j=>by rw[Nat.zero_add]) f⟩
end
end Gx

namespace Gx
open Go Go.Proofs
open IntKind (wrap)
set_option maxRecDepth 100000
noncomputable section
variable {R:Type} (N:Nat)
def muts:Nat→List Bool:=sH [(66,[false,true]),(97,[true,false]),(98,[true,false,false]),(100,[true,false,false,false,false]),(101,[true,false,false,false]),(102,[true,false,false,false]),(111,[true]),(113,[true,false]),(116,[true]),(132,[false,true]),(157,[true,false]),(158,[true,false]),(159,[true,false,false,false]),(160,[true,false,false,false,false,false,false,false]),(161,[true,false,false,false,false,false]),(163,[true,false,false]),(164,[true,false,false]),(165,[true,false,false]),(166,[true,false,false]),(167,[true,false,false]),(171,[true]),(172,[true]),(173,[true]),(174,[true]),(175,[true]),(176,[true]),(177,[true]),(178,[true]),(181,[false,true]),(182,[false,true,true,true,true,true,true,true,true]),(184,[false,true]),(185,[false,true,true,true,true,true,true,true,true]),(191,[true]),(204,[true,false]),(205,[true]),(214,[true]),(225,[true,false,false,false,false,false]),(227,[true,false,false,false,false,false]),(228,[true,false,false]),(233,[true,false,false]),(234,[true,false,false,false,false]),(235,[true,false,false,false,false]),(236,[true,false,false,false]),(237,[true,false,true]),(238,[false,true,true,true,true,true,true,true,true]),(239,[false,true,true,true,true,true,true,true,true]),(240,[true,false,false]),(242,[true,false,false]),(243,[false,true,true,true,true,true,true,true,true]),(244,[true,false]),(245,[false,true,true,true,true,true,true,true,true]),(246,[false,true,true,true,true,true,true,true,true]),(247,[false,true,true,true,true,true,true,true,true]),(249,[true,false]),(254,[false,true]),(271,[true,false]),(277,[true,false]),(314,[false,true,true,true,true,true,true,true,true])]
def Rh {R:Type}:=@uU R Tryz.prog muts
abbrev Dj {R:Type}:=@Vb R Tryz.prog muts
abbrev Ao:=@sc Tryz.prog muts
theorem follows:Tryz.prog.follows .mixedOrders=true:=by kernel_rfl
theorem Dh {N f:Nat} {run:(R:Type)→Nat→LA→Ai→KF R→O R} (H:Ao N f run):lT Tryz.prog f (Az H):=tq H follows
def H2:Hints:={ H:=hL }
def H3:Hints:={ H:=hL,modes:=[(3,0)] }
def qf:Hints:={ H:=hL,modes:=[(3,0),(0,0)] }
def OY:Hints:={ H:=(hS hL (hS hL (hS (hS (hP [0,3] hL) hL) hL))),nils:=[(2,1)],modes:=[(2,1)] }
def qg:Hints:={ H:=hL,nils:=[(2,1)],modes:=[(2,1)] }
def db:Hints:={ H:=(hS hL (hS hL (hS hL (hS (hS hL (hS (hP [0,1,5] hL) hL)) hL)))) }
def sL:Hints:={ H:=hL,modes:=[(3,0),(3,0),(0,0)] }
end
end Gx

namespace Gx
def val:List Nat→Nat
 | []=>0
 | x::r=>x+4294967296*val r
def Ae (l:List Nat):Prop:=∀ x ∈ l,x<4294967296
def jO:Nat→Nat→List Nat
 | 0,_=>[]
 | f+1,n=>if n=0 then [] else n%4294967296::jO f (n/4294967296)
def Af (n:Nat):List Nat:=jO n n
theorem nS:∀ (f n:Nat),n≤f→∀ g,n≤g→jO f n=jO g n
 | 0,n,h,g,_=>by
  have:n=0:=by omega
  subst this;cases g<;>simp[jO]
 | f+1,n,h,g,c=>by
  by_cases b:n=0
  ·subst b;cases g<;>simp[jO]
  ·cases g with
   | zero=>omega
   | succ g=>simp only[jO,b,if_false];rw[nS f _ (by omega) g (by omega)]
theorem B6:Af 0=[]:=rfl
theorem Pk {n:Nat} (h:n≠0):Af n=n%4294967296::Af (n/4294967296):=by
 unfold Af
 cases n with
 | zero=>omega
 | succ n=>simp only[jO,h,if_false];rw[nS n _ (by omega) ((n+1)/4294967296) (by omega)]
theorem Ac:∀ n,val (Af n)=n:=by
 intro n
 induction n using Nat.strongRecOn with
 | _ n b =>
  by_cases h:n=0
  ·subst h;rfl
  ·rw[Pk h,val,b _ (by omega)];omega
theorem Ab:∀ n,Ae (Af n):=by
 intro n
 induction n using Nat.strongRecOn with
 | _ n c =>
  by_cases h:n=0
  ·subst h;intro x b;simp[B6] at b
  ·rw[Pk h];intro x b
   simp at b
   rcases b with rfl | b
   ·omega
   ·exact c _ (by omega) x b
theorem Ky:Ae []:=by intro x b;simp at b
theorem Bz {x:Nat} {r:List Nat}:Ae (x::r)↔x<4294967296∧Ae r:=by simp[Ae]
theorem HA {a b:List Nat}:Ae (a++b)↔Ae a∧Ae b:=by simp[Ae,or_imp,forall_and]
theorem Bh {a:List Nat} (h:Ae a) (n:Nat):Ae (a.take n):=fun x b=>h x (List.mem_of_mem_take b)
theorem Ty {a:List Nat} (h:Ae a) (n:Nat):Ae (a.drop n):=fun x b=>h x (List.mem_of_mem_drop b)
theorem Aq {a:List Nat} (h:Ae a) {i:Nat} (b:i<a.length):a[i]<4294967296:=h _ (List.getElem_mem b)
theorem Bn {a:List Nat} (h:Ae a) {v:Nat} (d:v<4294967296) (i:Nat):Ae (a.set i v):=fun x c=>by
 rcases List.mem_or_eq_of_mem_set c with b | b
 ·exact h x b
 ·omega
theorem Bk (n:Nat):Ae (List.replicate n 0):=fun x b=>by simp at b;omega
theorem Iq:∀ (a b:List Nat),val (a++b)=val a+4294967296 ^ a.length*val b
 | [],b=>by simp[val]
 | x::r,b=>by
  simp only[List.cons_append,val,List.length_cons,Iq r b,Nat.pow_succ]
  rw[Nat.mul_add,←Nat.add_assoc,←Nat.mul_assoc];congr 2;rw[Nat.mul_comm]
theorem Cg:∀ n,val (List.replicate n 0)=0
 | 0=>rfl
 | n+1=>by rw[List.replicate_succ,val,Cg n]
theorem Bd:∀ {a:List Nat},Ae a→val a<4294967296 ^ a.length
 | [],_=>by simp[val]
 | x::r,h=>by
  have b:=Bz.1 h
  have c:=Bd b.2
  rw[val,List.length_cons,Nat.pow_succ]
  omega
theorem l8 (a:List Nat) (x:Nat):val (a++[x])=val a+4294967296 ^ a.length*x:=by rw[Iq];simp[val]
theorem EW {n:Nat} (h:n≠0):Af n≠[]:=by rw[Pk h];simp
theorem VL {n:Nat}:Af n=[]↔n=0:=by
 constructor
 ·intro h;by_cases b:n=0;exact b;exact absurd h (EW b)
 ·intro h;rw[h];rfl
theorem A3 {n:Nat}:(Af n).length=0↔n=0:=by rw[List.length_eq_zero_iff,VL]
theorem A1:∀ {l:List Nat},Ae l→l=Af (val l)++List.replicate (l.length - (Af (val l)).length) 0∧(Af (val l)).length≤l.length
 | [],_=>by simp[val,B6]
 | x::r,h=>by
  have d:=Bz.1 h
  obtain⟨b,e⟩:=A1 d.2
  rw[val]
  by_cases c:x+4294967296*val r=0
  ·have f:x=0:=by omega
   have i:val r=0:=by omega
   rw[c,B6]
   rw[i,B6] at b
   simp at b
   subst f
   refine⟨?_,by simp⟩
   rw[List.nil_append,List.length_nil,Nat.sub_zero,List.length_cons,List.replicate_succ,←b]
  ·rw[Pk c,show(x+4294967296*val r)%4294967296=x by omega,show(x+4294967296*val r)/4294967296=val r by omega]
   refine⟨?_,by simp;exact e⟩
   rw[List.cons_append,List.length_cons,List.length_cons,Nat.add_sub_add_right,←b]
theorem VM:∀ (n:Nat) (h:Af n≠[]),(Af n).getLast h≠0:=by
 intro n
 induction n using Nat.strongRecOn with
 | _ n d =>
  intro h
  have f:n≠0:=fun e=>h (by rw[e];rfl)
  have e:=Pk f
  by_cases c:n/4294967296=0
  ·rw[c,B6] at e
   have:n<4294967296:=by omega
   simp[e];omega
  ·have b:=EW c
   have:=d _ (by omega) b
   have i:(Af n).getLast h=(Af (n/4294967296)).getLast b:=by
    simp only[e];rw[List.getLast_cons b]
   rw[i];exact this
theorem sf:∀ {l:List Nat},Ae l→(∀ h:l≠[],l.getLast h≠0)→Af (val l)=l:=by
 intro l h i
 obtain⟨b,j⟩:=A1 h
 by_cases d:l.length - (Af (val l)).length=0
 ·rw[d] at b;simpa using b.symm
 ·exfalso
  obtain⟨k,d⟩:=Nat.exists_eq_succ_of_ne_zero d
  rw[d,List.replicate_succ',←List.append_assoc] at b
  have c:l≠[]:=by intro e;rw[e] at b;simp at b
  apply i c
  have f:l.getLast?=some 0:=by rw[b,List.getLast?_append];rfl
  rw[List.getLast?_eq_some_getLast c] at f
  simpa using f
theorem C8 {n k:Nat} (h:n<4294967296 ^ k):(Af n).length≤k:=by
  induction k generalizing n with
  | zero => have : n = 0 := by simpa using h
            subst this;simp[B6]
  | succ k c =>
    by_cases b:n=0
    · subst b;simp[B6]
    · rw[Pk b,List.length_cons]
      have:n/4294967296<4294967296 ^ k:=by
        rw[Nat.pow_succ] at h
        exact Nat.div_lt_of_lt_mul (by rw[Nat.mul_comm];exact h)
      have:=c this
      omega
theorem A6 {a b:Nat} (h:a≤b):(Af a).length≤(Af b).length:=by
 apply C8
 have:=Bd (Ab b)
 rw[Ac] at this
 omega
end Gx

namespace Gx
theorem dc {U V U3 V2 P d:Nat} (hV:V2*P≤V) (hU:U<(U3+1)*P) (h:U3<d*V2) (b:0<V):U/V<d:=by
 rw[Nat.div_lt_iff_lt_mul b]
 have e:(U3+1)*P≤d*V2*P:=Nat.mul_le_mul_right _ h
 have c:d*(V2*P)≤d*V:=Nat.mul_le_mul_left _ hV
 rw[←Nat.mul_assoc] at c
 omega
theorem dd {U V U3 V2 P d:Nat} (hV:V<(V2+1)*P) (hU:U3*P≤U) (h:d*V2≤U3) (c:d≤V2+1) (b:0<V):d≤U/V+1:=by
 cases d with
 | zero=>exact Nat.zero_le _
 | succ d =>
  have:d≤U/V:=by
   rw[Nat.le_div_iff_mul_le b]
   have e:(d+1)*V2*P≤U3*P:=Nat.mul_le_mul_right _ h
   have f:d*V≤d*((V2+1)*P):=Nat.mul_le_mul_left _ (by omega)
   have i:d*((V2+1)*P)≤(d+1)*V2*P:=by
    rw[←Nat.mul_assoc]
    apply Nat.mul_le_mul_right
    rw[Nat.mul_add,Nat.add_mul];omega
   omega
  omega
theorem jP {a b u v s t x y:Nat} (e:x+v*b=u*a) (f:y+s*a=t*b) (c:u*t=v*s+1):Nat.gcd x y=Nat.gcd a b:=by
 have i:t*x+v*y=a:=by
  have d:t*x+t*v*b=t*u*a:=by rw[←Nat.mul_assoc t u a |>.symm,Nat.mul_assoc t v b,←Nat.mul_add,e]
  have j:v*y+v*s*a=v*t*b:=by rw[Nat.mul_assoc,Nat.mul_assoc,←Nat.mul_add,f]
  have k:t*u*a=v*s*a+a:=by rw[Nat.mul_comm t u,c,Nat.add_mul,Nat.one_mul]
  have l:t*v*b=v*t*b:=by rw[Nat.mul_comm t v]
  omega
 have m:s*x+u*y=b:=by
  have d:s*x+s*v*b=s*u*a:=by rw[Nat.mul_assoc,Nat.mul_assoc,←Nat.mul_add,e]
  have j:u*y+u*s*a=u*t*b:=by rw[Nat.mul_assoc,Nat.mul_assoc,←Nat.mul_add,f]
  have k:u*t*b=v*s*b+b:=by rw[c,Nat.add_mul,Nat.one_mul]
  have l:s*u*a=u*s*a:=by rw[Nat.mul_comm s u]
  have n:s*v*b=v*s*b:=by rw[Nat.mul_comm s v]
  omega
 apply Nat.dvd_antisymm
 ·apply Nat.dvd_gcd
  ·rw[←i];exact Nat.dvd_add (Nat.dvd_mul_left_of_dvd (Nat.gcd_dvd_left x y) t) (Nat.dvd_mul_left_of_dvd (Nat.gcd_dvd_right x y) v)
  ·rw[←m];exact Nat.dvd_add (Nat.dvd_mul_left_of_dvd (Nat.gcd_dvd_left x y) s) (Nat.dvd_mul_left_of_dvd (Nat.gcd_dvd_right x y) u)
 ·apply Nat.dvd_gcd
  ·have d:Nat.gcd a b∣x+v*b:=by rw[e];exact Nat.dvd_mul_left_of_dvd (Nat.gcd_dvd_left a b) u
   exact(Nat.dvd_add_left (Nat.dvd_mul_left_of_dvd (Nat.gcd_dvd_right a b) v)).1 d
  ·have d:Nat.gcd a b∣y+s*a:=by rw[f];exact Nat.dvd_mul_left_of_dvd (Nat.gcd_dvd_right a b) t
   exact(Nat.dvd_add_left (Nat.dvd_mul_left_of_dvd (Nat.gcd_dvd_left a b) s)).1 d
theorem Pl {a b x y P u v w:Nat} (c:x*P≤a) (e:b<(y+1)*P) (d:u*x=w+v*y) (f:v≤w):v*b≤u*a:=by
 have i:u*(x*P)≤u*a:=Nat.mul_le_mul_left _ c
 have j:v*b≤v*((y+1)*P):=Nat.mul_le_mul_left _ (by omega)
 have k:v*((y+1)*P)≤u*(x*P):=by
  rw[←Nat.mul_assoc,←Nat.mul_assoc]
  apply Nat.mul_le_mul_right
  rw[d,Nat.mul_add];omega
 omega
end Gx

namespace Gx
open Go
section
variable {R:Type}
def Aa (l:List Nat):LA:=l.map fun n:Nat=>.int .u32 (n:Int)
theorem Nm (x:Nat) (l:List Nat):Aa (x::l)=.int .u32 (x:Int)::Aa l:=rfl
theorem A5 (l:List Nat):(Aa l).length=l.length:=by simp[Aa]
theorem oH (l:List Nat) (n:Nat):(Aa l).drop n=Aa (l.drop n):=by simp[Aa,List.map_drop]
theorem Kz (l:List Nat) (n:Nat):(Aa l).take n=Aa (l.take n):=by simp[Aa,List.map_take]
theorem HB (l:List Nat) (j:Nat) (v:Nat):List.set (Aa l) j (.int .u32 (v:Int))=Aa (l.set j v):=by simp[Aa,List.map_set]
theorem Bt (n:Nat):List.replicate n (AV.int .u32 0)=Aa (List.replicate n 0):=by simp[Aa]
theorem jQ {l:List Nat} {i:Nat} (h:i<l.length) {f:Int→O R}:Bi .u32 (List.drop i (Aa l)) f=f (l[i]:Nat):=by
 rw[oH,List.drop_eq_getElem_cons h,Nm,Ry]
theorem Pm:∀ l:List Nat,Cf (Aa l)=true
 | []=>rfl
 | x::r=>by rw[Nm,Cf];exact Pm r
theorem Q7 (a b:Nat):(a:Int)+(b:Int)=((a+b:Nat):Int):=by omega
theorem VN (a b:Nat):(a:Int)*(b:Int)=((a*b:Nat):Int):=by simp
theorem Er {a:Nat} (h:a<18446744073709551616):IntKind.wrap .u64 (a:Int)=(a:Int):=wrap_u64 a h
theorem nT {a:Nat} (h:a<4294967296):IntKind.wrap .u32 (a:Int)=(a:Int):=wrap_u32 a h
theorem EX (a:Nat):IntKind.wrap .u32 (a:Int)=((a%4294967296:Nat):Int):=oG a
theorem EY (a:Int):IntKind.wrap .u64 a=a%18446744073709551616:=IntKind.wrap_u64 a
theorem MC {a b:Nat} (c:a<18446744073709551616) (d:b≤a):IntKind.wrap .u64 ((a:Int) - (b:Int))=((a - b:Nat):Int):=by rw[EY];omega
theorem qh {a b:Nat} (h:a<b) (c:b≤18446744073709551616):IntKind.wrap .u64 ((a:Int) - (b:Int))=((18446744073709551616+a - b:Nat):Int):=by rw[EY];omega
theorem MD (a:Nat):Int.fdiv (a:Int) (2 ^ 32)=((a/4294967296:Nat):Int):=Jq a 32
theorem tL (a:Nat):Int.fdiv (a:Int) (2 ^ 63)=((a/9223372036854775808:Nat):Int):=Jq a 63
theorem i64 {a:Int} (h:-9223372036854775808≤a∧a≤9223372036854775807):IntKind.wrap .i64 a=a:=wrap_i64 a h
theorem l9 {a b:Nat} (c:a<18446744073709551616) (d:b<18446744073709551616):I6 .u64 (a:Int) (b:Int)=((a ||| b:Nat):Int):=da rfl c d
theorem ME {a b k:Nat} (h:b<2 ^ k):a*2 ^ k ||| b=a*2 ^ k+b:=by
 rw[←Nat.shiftLeft_eq,Nat.shiftLeft_add_eq_or_of_lt h]
end
end Gx

namespace Gx
open Go Go.Proofs Go.RowKit Go.ChangeShapes
open Go.Proofs.YtjmfofdghmlldaaGreatDoor (Rows.uptoBulk Rows.uptoBulkAll)
theorem gE {n:Int} (h:(Lit.int .i64 n).wf=true):-9223372036854775808≤n∧n≤9223372036854775807:=by
 simp only[Lit.wf,Bool.and_eq_true,decide_eq_true_eq,show IntKind.i64.min=-9223372036854775808 from rfl,show IntKind.i64.max=9223372036854775807 from rfl] at h;omega
end Gx

namespace Gx
open Go Go.Proofs Go.RowKit
section
variable {W:World} {H:Type} {enc:TypeId×Value→H} {β:Bf} {h:Ai}
theorem jR {v:Value} {d:DataW H} {p:List MemPlace} (f:∃ cs,v=.agg cs) (i:DataW.Trod enc Tryz.prog W 0 (fun _=>true) true 55 v d p) :
  ∃ a b c e:Int,((-9223372036854775808≤a∧a≤9223372036854775807)∧(-9223372036854775808≤b∧b≤9223372036854775807)∧(-9223372036854775808≤c∧c≤9223372036854775807)∧(-9223372036854775808≤e∧e≤9223372036854775807))∧Rep (fun _ k=>k<W.heap.size) β h W (.agg [.int .i64 a,.int .i64 b,.int .i64 c,.int .i64 e]) v:=by
 obtain⟨cs,rfl⟩:=f
 obtain⟨⟨⟨a,j⟩,⟨b,l⟩,⟨c,m⟩,⟨e,n⟩,_⟩,q⟩:=qd (β:=β) (h:=h) (gD Tryz.underlying55 (by kernel_rfl) (by decide) (Pj rfl (Z0 Tryz.underlying3 (by kernel_rfl)) (Pj rfl (Z0 Tryz.underlying3 (by kernel_rfl)) (Pj rfl (Z0 Tryz.underlying3 (by kernel_rfl)) (Pj rfl (Z0 Tryz.underlying3 (by kernel_rfl)) l7))))) i
 exact⟨a,b,c,e,⟨gE j,gE l,gE m,gE n⟩,rf q⟩
theorem VO {a:Option Addr} {len cap:Nat} {d:DataW H} {p:List MemPlace} (b:DataW.Trod enc Tryz.prog W 0 (fun _=>true) true 56 (.slice a len cap) d p) :
  ∃ l:List UInt8,l.length≤maxLen∧Rep (fun _ k=>k<W.heap.size) β h W (.imm (Fp l) l.length 1 false false) (.slice a len cap):=by
 obtain⟨l,c,e⟩:=re (β:=β) (h:=h) Tryz.underlying56 (by kernel_rfl) (qV Tryz.underlying5 (by kernel_rfl)) b
 rw[VK] at e
 exact⟨l,c,e⟩
end
end Gx

namespace Gx
open Go
def B3 (c:UInt8):Bool:=decide (48≤c.toNat)&&decide (c.toNat≤57)
def Ef (s:List UInt8):Nat:=s.foldl (fun a c=>10*a+(c.toNat - 48)) 0
def cE (s:List UInt8):Bool:=s.all B3&&!s.isEmpty
def Ir (s:List UInt8):Bool:=cE s&&(s==[48]||s.head? != some 48)
theorem oI (s:List UInt8):∀ a,s.foldl (fun a c=>10*a+(c.toNat - 48)) a=a*10 ^ s.length+Ef s:=by
 unfold Ef
 induction s with
 | nil=>intro a;simp
 | cons c r b =>
  intro a
  rw[List.foldl_cons,List.foldl_cons,b,b (10*0+_),List.length_cons,Nat.pow_succ,Nat.add_mul,Nat.add_mul]
  have:10*a*10 ^ r.length=a*(10 ^ r.length*10):=by rw[Nat.mul_comm 10 a,Nat.mul_assoc,Nat.mul_comm 10]
  rw[this];omega
theorem OZ (a b:List UInt8):Ef (a++b)=Ef a*10 ^ b.length+Ef b:=by
 have:=oI b (Ef a)
 unfold Ef at *
 rw[List.foldl_append];exact this
theorem de (c:UInt8) (r:List UInt8):Ef (c::r)=(c.toNat - 48)*10 ^ r.length+Ef r:=by
 have:=OZ [c] r
 simpa[Ef] using this
theorem TN {s:List UInt8} (h:s.all B3=true):Ef s<10 ^ s.length:=by
 induction s with
 | nil=>simp[Ef]
 | cons c r b =>
  simp only[List.all_cons,Bool.and_eq_true] at h
  have d:=b h.2
  have e:c.toNat≤57:=by have:=h.1;simp[B3] at this;omega
  rw[de,List.length_cons,Nat.pow_succ]
  have:(c.toNat - 48)*10 ^ r.length≤9*10 ^ r.length:=Nat.mul_le_mul_right _ (by omega)
  omega
end Gx

namespace Go.Proofs
open Go.Shelf Go.RowKit
open Go.RowKit
def Tryz.laysC172_ren : Go.Shelf.Ren := ⟨fun | 172 => 147 | 244 => 219 | 245 => 220 | 247 => 279 | 279 => 280 | 280 => 281 | 281 => 282 | 282 => 283 | 287 => 300 | 316 => 301 | 171 => 114 | 205 => 302 | 321 => 315 | 322 => 316 | 243 => 192 | 246 => 257 | 283 => 293 | 284 => 294 | 285 => 295 | 286 => 296 | 129 => 310 | 317 => 309 | 318 => 311 | 319 => 312 | 320 => 313 | 337 => 318 | 338 => 319 | n => n, fun | 9 => 9 | 3 => 3 | 75 => 175 | 76 => 176 | 4 => 4 | 5 => 5 | 167 => 308 | 37 => 56 | 0 => 0 | 85 => 309 | 2 => 2 | 168 => 311 | 53 => 114 | 175 => 322 | 46 => 204 | 210 => 326 | 127 => 246 | 145 => 340 | 143 => 338 | 21 => 21 | 171 => 315 | 173 => 318 | 212 => 333 | 51 => 97 | 20 => 20 | 213 => 334 | 232 => 345 | 233 => 346 | 80 => 181 | n => n, fun | 15 => 1 | 16 => 2 | 17 => 3 | 18 => 6 | 19 => 7 | n => n⟩
theorem Tryz.laysC172 : Go.Proofs.LaysC.n172 Tryz.prog Tryz.laysC172_ren := {
  mixed := by kernel_rfl
  f129 := Tryz.func310.trans (congrArg some (by kernel_rfl))
  f171 := Tryz.func114.trans (congrArg some (by kernel_rfl))
  f172 := Tryz.func147.trans (congrArg some (by kernel_rfl))
  f205 := Tryz.func302.trans (congrArg some (by kernel_rfl))
  f243 := Tryz.func192.trans (congrArg some (by kernel_rfl))
  f244 := Tryz.func219.trans (congrArg some (by kernel_rfl))
  f245 := Tryz.func220.trans (congrArg some (by kernel_rfl))
  f246 := Tryz.func257.trans (congrArg some (by kernel_rfl))
  f247 := Tryz.func279.trans (congrArg some (by kernel_rfl))
  f279 := Tryz.func280.trans (congrArg some (by kernel_rfl))
  f280 := Tryz.func281.trans (congrArg some (by kernel_rfl))
  f281 := Tryz.func282.trans (congrArg some (by kernel_rfl))
  f282 := Tryz.func283.trans (congrArg some (by kernel_rfl))
  f283 := Tryz.func293.trans (congrArg some (by kernel_rfl))
  f284 := Tryz.func294.trans (congrArg some (by kernel_rfl))
  f285 := Tryz.func295.trans (congrArg some (by kernel_rfl))
  f286 := Tryz.func296.trans (congrArg some (by kernel_rfl))
  f287 := Tryz.func300.trans (congrArg some (by kernel_rfl))
  f316 := Tryz.func301.trans (congrArg some (by kernel_rfl))
  f317 := Tryz.func309.trans (congrArg some (by kernel_rfl))
  f318 := Tryz.func311.trans (congrArg some (by kernel_rfl))
  f319 := Tryz.func312.trans (congrArg some (by kernel_rfl))
  f320 := Tryz.func313.trans (congrArg some (by kernel_rfl))
  f321 := Tryz.func315.trans (congrArg some (by kernel_rfl))
  f322 := Tryz.func316.trans (congrArg some (by kernel_rfl))
  f337 := Tryz.func318.trans (congrArg some (by kernel_rfl))
  f338 := Tryz.func319.trans (congrArg some (by kernel_rfl))
  t0 := Tryz.underlying0
  a0 := Tryz.isAgg0
  z0 := Tryz.sizeOf0
  v0 := Tryz.zeroValue0
  t2 := Tryz.underlying2
  a2 := Tryz.isAgg2
  z2 := Tryz.sizeOf2
  v2 := Tryz.zeroValue2
  t3 := Tryz.underlying3
  a3 := Tryz.isAgg3
  z3 := Tryz.sizeOf3
  v3 := Tryz.zeroValue3
  t4 := Tryz.underlying4
  a4 := Tryz.isAgg4
  z4 := Tryz.sizeOf4
  v4 := Tryz.zeroValue4
  t5 := Tryz.underlying5
  a5 := Tryz.isAgg5
  z5 := Tryz.sizeOf5
  v5 := Tryz.zeroValue5
  t9 := Tryz.underlying9
  a9 := Tryz.isAgg9
  z9 := Tryz.sizeOf9
  v9 := Tryz.zeroValue9
  t20 := Tryz.underlying20
  a20 := Tryz.isAgg20
  z20 := Tryz.sizeOf20
  v20 := Tryz.zeroValue20
  t21 := Tryz.underlying21
  a21 := Tryz.isAgg21
  z21 := Tryz.sizeOf21
  v21 := Tryz.zeroValue21
  t37 := Tryz.underlying56
  a37 := Tryz.isAgg56
  z37 := Tryz.sizeOf56
  v37 := Tryz.zeroValue56
  t46 := Tryz.underlying204
  a46 := Tryz.isAgg204
  z46 := Tryz.sizeOf204
  v46 := Tryz.zeroValue204
  t51 := Tryz.underlying97
  a51 := Tryz.isAgg97
  z51 := Tryz.sizeOf97
  v51 := Tryz.zeroValue97
  t53 := Tryz.underlying114
  a53 := Tryz.isAgg114
  z53 := Tryz.sizeOf114
  v53 := Tryz.zeroValue114
  t75 := Tryz.underlying175
  a75 := Tryz.isAgg175
  z75 := Tryz.sizeOf175
  v75 := Tryz.zeroValue175
  t76 := Tryz.underlying176
  a76 := Tryz.isAgg176
  z76 := Tryz.sizeOf176
  v76 := Tryz.zeroValue176
  t85 := Tryz.underlying309
  a85 := Tryz.isAgg309
  z85 := Tryz.sizeOf309
  v85 := Tryz.zeroValue309
  t127 := Tryz.underlying246
  a127 := Tryz.isAgg246
  z127 := Tryz.sizeOf246
  v127 := Tryz.zeroValue246
  t143 := Tryz.underlying338
  a143 := Tryz.isAgg338
  z143 := Tryz.sizeOf338
  v143 := Tryz.zeroValue338
  t145 := Tryz.underlying340
  a145 := Tryz.isAgg340
  z145 := Tryz.sizeOf340
  v145 := Tryz.zeroValue340
  t167 := Tryz.underlying308
  a167 := Tryz.isAgg308
  z167 := Tryz.sizeOf308
  v167 := Tryz.zeroValue308
  t168 := Tryz.underlying311
  a168 := Tryz.isAgg311
  z168 := Tryz.sizeOf311
  v168 := Tryz.zeroValue311
  t171 := Tryz.underlying315
  a171 := Tryz.isAgg315
  z171 := Tryz.sizeOf315
  v171 := Tryz.zeroValue315
  t173 := Tryz.underlying318
  a173 := Tryz.isAgg318
  z173 := Tryz.sizeOf318
  v173 := Tryz.zeroValue318
  t175 := Tryz.underlying322
  a175 := Tryz.isAgg322
  z175 := Tryz.sizeOf322
  v175 := Tryz.zeroValue322
  t210 := Tryz.underlying326
  a210 := Tryz.isAgg326
  z210 := Tryz.sizeOf326
  v210 := Tryz.zeroValue326
  t212 := Tryz.underlying333
  a212 := Tryz.isAgg333
  z212 := Tryz.sizeOf333
  v212 := Tryz.zeroValue333
  t213 := Tryz.underlying334
  a213 := Tryz.isAgg334
  z213 := Tryz.sizeOf334
  t232 := Tryz.underlying345
  a232 := Tryz.isAgg345
  z232 := Tryz.sizeOf345
  v232 := Tryz.zeroValue345
  t233 := Tryz.underlying346
  a233 := Tryz.isAgg346
  z233 := Tryz.sizeOf346
  v233 := Tryz.zeroValue346
  g15 := by kernel_rfl
  g16 := by kernel_rfl
  g17 := by kernel_rfl
  g18 := by kernel_rfl
  g19 := by kernel_rfl
  t80 := Tryz.underlying181
  a80 := Tryz.isAgg181
  z80 := Tryz.sizeOf181
  v80 := Tryz.zeroValue181
  i0 := by kernel_rfl
  i2 := by kernel_rfl
  i3 := by kernel_rfl
  i4 := by kernel_rfl
  i5 := by kernel_rfl
  i9 := by kernel_rfl
  i20 := by kernel_rfl
  i21 := by kernel_rfl
  i37 := by kernel_rfl
  i46 := by kernel_rfl
  i51 := by kernel_rfl
  i53 := by kernel_rfl
  i75 := by kernel_rfl
  i76 := by kernel_rfl
  i80 := by kernel_rfl
  i85 := by kernel_rfl
  i127 := by kernel_rfl
  i143 := by kernel_rfl
  i145 := by kernel_rfl
  i167 := by kernel_rfl
  i168 := by kernel_rfl
  i171 := by kernel_rfl
  i173 := by kernel_rfl
  i175 := by kernel_rfl
  i210 := by kernel_rfl
  i212 := by kernel_rfl
  i232 := by kernel_rfl
  i233 := by kernel_rfl
  m15 := by kernel_rfl
  m16 := by kernel_rfl
  m17 := by kernel_rfl
  m18 := by kernel_rfl
  m19 := by kernel_rfl
  c0 := by kernel_rfl
  c2 := by kernel_rfl
  c3 := by kernel_rfl
  c4 := by kernel_rfl
  c5 := by kernel_rfl
  c9 := by kernel_rfl
  c20 := by kernel_rfl
  c21 := by kernel_rfl
  c37 := by kernel_rfl
  c46 := by kernel_rfl
  c51 := by kernel_rfl
  c53 := by kernel_rfl
  c75 := by kernel_rfl
  c76 := by kernel_rfl
  c80 := by kernel_rfl
  c85 := by kernel_rfl
  c127 := by kernel_rfl
  c143 := by kernel_rfl
  c145 := by kernel_rfl
  c167 := by kernel_rfl
  c168 := by kernel_rfl
  c171 := by kernel_rfl
  c173 := by kernel_rfl
  c175 := by kernel_rfl
  c210 := by kernel_rfl
  c212 := by kernel_rfl
  c213 := by kernel_rfl
  c232 := by kernel_rfl
  c233 := by kernel_rfl }
def Tryz.lays145_ren : Go.Shelf.Ren := ⟨fun | 145 => 105 | 220 => 179 | 219 => 252 | 217 => 286 | 225 => 287 | 224 => 288 | 267 => 289 | 266 => 304 | 314 => 305 | n => n, fun | 9 => 9 | 4 => 4 | 59 => 106 | 3 => 3 | 5 => 5 | 46 => 204 | 146 => 296 | 51 => 97 | n => n, fun | 1 => 0 | n => n⟩
theorem Tryz.lays145 : Go.Proofs.Lays.n145 Tryz.prog Tryz.lays145_ren := {
  mixed := by kernel_rfl
  f145 := Tryz.func105.trans (congrArg some (by kernel_rfl))
  f217 := Tryz.func286.trans (congrArg some (by kernel_rfl))
  f219 := Tryz.func252.trans (congrArg some (by kernel_rfl))
  f220 := Tryz.func179.trans (congrArg some (by kernel_rfl))
  f224 := Tryz.func288.trans (congrArg some (by kernel_rfl))
  f225 := Tryz.func287.trans (congrArg some (by kernel_rfl))
  f266 := Tryz.func304.trans (congrArg some (by kernel_rfl))
  f267 := Tryz.func289.trans (congrArg some (by kernel_rfl))
  f314 := Tryz.func305.trans (congrArg some (by kernel_rfl))
  t3 := Tryz.underlying3
  a3 := Tryz.isAgg3
  z3 := Tryz.sizeOf3
  v3 := Tryz.zeroValue3
  t4 := Tryz.underlying4
  a4 := Tryz.isAgg4
  z4 := Tryz.sizeOf4
  v4 := Tryz.zeroValue4
  t5 := Tryz.underlying5
  a5 := Tryz.isAgg5
  z5 := Tryz.sizeOf5
  v5 := Tryz.zeroValue5
  t9 := Tryz.underlying9
  a9 := Tryz.isAgg9
  z9 := Tryz.sizeOf9
  v9 := Tryz.zeroValue9
  t46 := Tryz.underlying204
  a46 := Tryz.isAgg204
  z46 := Tryz.sizeOf204
  v46 := Tryz.zeroValue204
  t51 := Tryz.underlying97
  a51 := Tryz.isAgg97
  z51 := Tryz.sizeOf97
  v51 := Tryz.zeroValue97
  t59 := Tryz.underlying106
  a59 := Tryz.isAgg106
  z59 := Tryz.sizeOf106
  v59 := Tryz.zeroValue106
  t146 := Tryz.underlying296
  a146 := Tryz.isAgg296
  z146 := Tryz.sizeOf296
  v146 := Tryz.zeroValue296
  g1 := by kernel_rfl }
def Tryz.lays105_ren : Go.Shelf.Ren := ⟨fun | 105 => 124 | 212 => 202 | 99 => 203 | 165 => 204 | 166 => 113 | 170 => 205 | 169 => 116 | 263 => 268 | 264 => 269 | 206 => 270 | 240 => 191 | 241 => 271 | 276 => 256 | 277 => 297 | n => n, fun | 9 => 9 | 3 => 3 | 4 => 4 | 20 => 20 | 0 => 0 | 46 => 204 | 109 => 254 | 5 => 5 | 72 => 168 | 76 => 176 | 51 => 97 | 146 => 296 | 53 => 114 | 148 => 298 | 70 => 166 | 37 => 56 | 75 => 175 | 127 => 246 | 164 => 289 | 80 => 181 | n => n, fun | n => n⟩
theorem Tryz.lays105 : Go.Proofs.Lays.n105 Tryz.prog Tryz.lays105_ren := {
  mixed := by kernel_rfl
  f99 := Tryz.func203.trans (congrArg some (by kernel_rfl))
  f105 := Tryz.func124.trans (congrArg some (by kernel_rfl))
  f165 := Tryz.func204.trans (congrArg some (by kernel_rfl))
  f166 := Tryz.func113.trans (congrArg some (by kernel_rfl))
  f169 := Tryz.func116.trans (congrArg some (by kernel_rfl))
  f170 := Tryz.func205.trans (congrArg some (by kernel_rfl))
  f206 := Tryz.func270.trans (congrArg some (by kernel_rfl))
  f212 := Tryz.func202.trans (congrArg some (by kernel_rfl))
  f240 := Tryz.func191.trans (congrArg some (by kernel_rfl))
  f241 := Tryz.func271.trans (congrArg some (by kernel_rfl))
  f263 := Tryz.func268.trans (congrArg some (by kernel_rfl))
  f264 := Tryz.func269.trans (congrArg some (by kernel_rfl))
  f276 := Tryz.func256.trans (congrArg some (by kernel_rfl))
  f277 := Tryz.func297.trans (congrArg some (by kernel_rfl))
  t0 := Tryz.underlying0
  a0 := Tryz.isAgg0
  z0 := Tryz.sizeOf0
  v0 := Tryz.zeroValue0
  t3 := Tryz.underlying3
  a3 := Tryz.isAgg3
  z3 := Tryz.sizeOf3
  v3 := Tryz.zeroValue3
  t4 := Tryz.underlying4
  a4 := Tryz.isAgg4
  z4 := Tryz.sizeOf4
  v4 := Tryz.zeroValue4
  t5 := Tryz.underlying5
  a5 := Tryz.isAgg5
  z5 := Tryz.sizeOf5
  v5 := Tryz.zeroValue5
  t9 := Tryz.underlying9
  a9 := Tryz.isAgg9
  z9 := Tryz.sizeOf9
  v9 := Tryz.zeroValue9
  t20 := Tryz.underlying20
  a20 := Tryz.isAgg20
  z20 := Tryz.sizeOf20
  v20 := Tryz.zeroValue20
  t37 := Tryz.underlying56
  a37 := Tryz.isAgg56
  z37 := Tryz.sizeOf56
  v37 := Tryz.zeroValue56
  t46 := Tryz.underlying204
  a46 := Tryz.isAgg204
  z46 := Tryz.sizeOf204
  v46 := Tryz.zeroValue204
  t51 := Tryz.underlying97
  a51 := Tryz.isAgg97
  z51 := Tryz.sizeOf97
  v51 := Tryz.zeroValue97
  t53 := Tryz.underlying114
  a53 := Tryz.isAgg114
  z53 := Tryz.sizeOf114
  v53 := Tryz.zeroValue114
  t70 := Tryz.underlying166
  a70 := Tryz.isAgg166
  z70 := Tryz.sizeOf166
  v70 := Tryz.zeroValue166
  t72 := Tryz.underlying168
  a72 := Tryz.isAgg168
  z72 := Tryz.sizeOf168
  v72 := Tryz.zeroValue168
  t75 := Tryz.underlying175
  a75 := Tryz.isAgg175
  z75 := Tryz.sizeOf175
  v75 := Tryz.zeroValue175
  t76 := Tryz.underlying176
  a76 := Tryz.isAgg176
  z76 := Tryz.sizeOf176
  v76 := Tryz.zeroValue176
  t109 := Tryz.underlying254
  a109 := Tryz.isAgg254
  z109 := Tryz.sizeOf254
  v109 := Tryz.zeroValue254
  t127 := Tryz.underlying246
  a127 := Tryz.isAgg246
  z127 := Tryz.sizeOf246
  v127 := Tryz.zeroValue246
  t146 := Tryz.underlying296
  a146 := Tryz.isAgg296
  z146 := Tryz.sizeOf296
  v146 := Tryz.zeroValue296
  t148 := Tryz.underlying298
  a148 := Tryz.isAgg298
  z148 := Tryz.sizeOf298
  v148 := Tryz.zeroValue298
  t164 := Tryz.underlying289
  a164 := Tryz.isAgg289
  z164 := Tryz.sizeOf289
  v164 := Tryz.zeroValue289 }
theorem Tryz.Builder_Extra_105 : Builder.Extra Tryz.prog Tryz.lays105_ren := {
  sizeBuilder := by kernel_rfl
  liesBuilder := by kernel_rfl
  t5 := Tryz.underlying5
  a5 := Tryz.isAgg5
  z5 := Tryz.sizeOf5
  v5 := Tryz.zeroValue5
  infoByte := by kernel_rfl
  cellsByte := by kernel_rfl
  sizeByte := by kernel_rfl
  neB5 := by decide }
end Go.Proofs

namespace Gx
open Go Go.Proofs Go.RowKit
noncomputable section
variable {R:Type} (N:Nat)
def Jr (_N:Nat) (s t:List UInt8) (r0:List UInt8→List UInt8→Bool→O R):O R:=cond (Nat.ble s.length 4294967280) (r0 (Lib.cut s t).1 (Lib.cut s t).2.1 (Lib.cut s t).2.2) none
def strings_Cut:=(Al (@Jr R)).1
theorem Il:@strings_Cut R=@Jr R:=(Al _).2
def Im (a:LA) (h:Ai) (k:KF R):O R :=
 match a,h with
 | [.str s,.str t],[]=>strings_Cut N s t fun x y b=>k (.tup [.str x,.str y,.bool b]) []
 | _,_=>none
def W9:Tw:=⟨fun {R} a h k=>@Im R N a h k,fun {R} a h k=>by
 unfold Im
 split
 ·rw[Il,Il];unfold Jr;cases Nat.ble _ 4294967280<;>rfl
 ·rfl⟩
def F6 (_N:Nat) (s:List UInt8) (c:Int) (r0:List UInt8→O R):O R:=cond (decide (0≤c)&&(decide (c≤9223372036854775807)&&decide (((s.length:Nat):Int)*c≤140737488355328))) (r0 (Lib.repeatL s c.toNat)) none
def strings_Repeat:=(Al (@F6 R)).1
theorem Fq:@strings_Repeat R=@F6 R:=(Al _).2
def Fr (a:LA) (h:Ai) (k:KF R):O R :=
 match a,h with
 | [.str s,.int .i64 c],[]=>strings_Repeat N s c fun x=>k (.str x) []
 | _,_=>none
def Pn:Tw:=⟨fun {R} a h k=>@Fr R N a h k,fun {R} a h k=>by
 unfold Fr
 split
 ·rename_i s c
  rw[Fq,Fq];unfold F6;cases (decide (0≤c)&&(decide (c≤9223372036854775807)&&decide (((s.length:Nat):Int)*c≤140737488355328)))<;>rfl
 ·rfl⟩
def H6 (_N:Nat) (s:List UInt8) (r0:Int→O R):O R:=cond (Nat.ble s.length 9223372036854775806) (match Lib.atoiAll s with | .ok v=>r0 v | _=>none) none
def M3:=(Al (@H6 R)).1
theorem Ht:@M3 R=@H6 R:=(Al _).2
def Hu (a:LA) (h:Ai) (k:KF R):O R :=
 match a,h with
 | [.str s],[]=>M3 N s fun x=>k (.tup [.int .i64 x,.undef]) []
 | _,_=>none
def Vj:Tw:=⟨fun {R} a h k=>@Hu R N a h k,fun {R} a h k=>by
 unfold Hu
 split
 ·rw[Ht,Ht];unfold H6;cases Nat.ble _ 9223372036854775806
  ·rfl
  ·cases Lib.atoiAll _<;>rfl
 ·rfl⟩
end
theorem jS (w:World) (n:Nat):Below w.heap.size w (w.drewN n):=⟨rfl,rfl,rfl,Nat.le_refl _,fun _ _=>rfl⟩
theorem VP (N:Nat):lT Tryz.prog 105 (W9 N):=by
 intro b h d h' f
 have c:Im N b h (fun v h'=>some (v,h'))=some (d,h'):=f
 unfold Im at c
 split at c
 ·rename_i s t
  rw[Il,Jr] at c
  obtain⟨l,i⟩:=uc c
  simp at l i
  obtain⟨rfl,rfl⟩:=i
  refine MB fun J β w vs G q=>?_
  obtain⟨u,v,rfl,j,k⟩:=jN q
  simp only[Rep] at j k;subst j k
  obtain⟨m,x⟩:=G.int (g:=0) (by decide)
  refine(Any.strings_Cut Tryz.lays145 ⟨⟨s⟩⟩ ⟨⟨t⟩⟩ m w (show s.length<4294967281 by omega) x).mono ?_
  rintro e w' ⟨rfl,n,rfl⟩
  refine⟨_,rfl,jS w n,fun J β w=>?_⟩
  rw[Rep]
  exact⟨_,rfl,by simp[Reps,Rep]⟩
 ·cases c
theorem HC (N:Nat):lT Tryz.prog 124 (Pn N):=by
 intro b h f h' i
 have d:Fr N b h (fun v h'=>some (v,h'))=some (f,h'):=i
 unfold Fr at d
 split at d
 ·rename_i s c
  rw[Fq,F6] at d
  obtain⟨j,l⟩:=uc d
  simp only[Bool.and_eq_true,decide_eq_true_eq] at j
  simp at l
  obtain⟨rfl,rfl⟩:=l
  refine MB fun J β w vs G t=>?_
  obtain⟨u,v,rfl,m,q⟩:=jN t
  simp only[Rep] at m q;subst m q
  obtain⟨n,rfl⟩:∃ n:Nat,c=n:=⟨c.toNat,by omega⟩
  by_cases x:s.length=0
  ·have y:s=[]:=List.eq_nil_of_length_eq_zero x
   subst y
   have z:n≤9223372036854775807:=by have:=j.2.1;omega
   ·refine(Any.strings_Repeat Tryz.lays105 Tryz.Builder_Extra_105 ⟨⟨[]⟩⟩ n w z (by show 0*n≤_;omega)).mono ?_
    rintro e w' ⟨rfl,k⟩
    exact⟨_,rfl,k,fun J β w=>by rw[Rep];rfl⟩
  ·have A:s.length*n≤140737488355328:=by have:=j.2.2;rw[←Int.natCast_mul] at this;omega
   have B:n≤s.length*n:=Nat.le_mul_of_pos_left n (by omega)
   refine(Any.strings_Repeat Tryz.lays105 Tryz.Builder_Extra_105 ⟨⟨s⟩⟩ n w (by omega) A).mono ?_
   rintro e w' ⟨rfl,k⟩
   exact⟨_,rfl,k,fun J β w=>by rw[Rep];rfl⟩
 ·cases d
theorem strconv_Atoi_ok (N:Nat):lT Tryz.prog 147 (Vj N):=by
 intro b h f h' i
 have c:Hu N b h (fun v h'=>some (v,h'))=some (f,h'):=i
 unfold Hu at c
 split at c
 ·rename_i s
  rw[Ht,H6] at c
  obtain⟨j,d⟩:=uc c
  simp at j
  split at d
  ·rename_i v l
   simp at d
   obtain⟨rfl,rfl⟩:=d
   refine MB fun J β w vs G m=>?_
   obtain⟨u,rfl,k⟩:=jM m
   rw[Rep] at k;subst k
   refine(Any.strconv_Atoi_ok Tryz.laysC172 ⟨⟨s⟩⟩ j v l w).mono ?_
   rintro e w' ⟨rfl,n⟩
   refine⟨_,rfl,?_,fun J β w=>by rw[Rep];exact⟨_,rfl,by rw[Reps];exact⟨_,_,rfl,by rw[Rep],by rw[Reps];exact⟨_,_,rfl,by rw[Rep];trivial,by rw[Reps]⟩⟩⟩⟩
   rcases n with rfl | ⟨t,rfl⟩
   ·exact Below.refl _ _
   ·exact Lib.bytesWorld_below _ _ _
  ·cases d
 ·cases c
end Gx

namespace Gx
open Go Go.Proofs
open IntKind (wrap)
set_option maxRecDepth 100000
noncomputable section
variable {R:Type} (N:Nat)
def Tz (N:Nat) (r0:Nat→O R) (b:Nat) (c:LA) (k0:Int→O R) (d:Int):O R :=
 (cond ((decide (d>0))==true) (cond (Am (wrap .i64 (d - 1)) b) (Bi .u32 (c.drop (0+(((wrap .i64 (d - 1)).toNat)*1))) fun e=>(cond (cond true (e==0) false) (k0 (wrap .i64 (d - 1))) (cond ((decide ((0:Int)≤(0:Int)))&&((decide (0≤d))&&((decide (d≤((b:Nat):Int)))&&(decide (((b:Nat):Int)≤((b:Nat):Int)))))) (r0 (d.toNat)) none))) none) (cond ((decide ((0:Int)≤(0:Int)))&&((decide (0≤d))&&((decide (d≤((b:Nat):Int)))&&(decide (((b:Nat):Int)≤((b:Nat):Int)))))) (r0 (d.toNat)) none))
def K0 (r0:Nat→O R) (b:Nat) (c:LA):Nat→Int→O R
 | 0,_=>none
 | n+1,d=>(Tz N r0 b c (K0 r0 b c n) d)
def HD (N:Nat) (r0:Nat→O R) (q0:Int→O R) (b:Nat) (c:LA):O R :=
 (q0 ((b:Nat):Int))
def K1:=(Al (fun (N b:Nat) (c:LA) (r0:Nat→O R)=>(HD N r0 (fun d=>(K0 N r0 b c N d)) b c))).1
theorem EZ (b c r0):(@K1 R N b c r0)=(HD N r0 (fun d=>(K0 N r0 b c N d)) b c):=by rw[K1,(Al _).2]
def oJ (F:KF R):=Rh Tryz.f214 OY [] [100000] N F
def Nn (c:LA) (F:KF R):Nat→O R:=(fun f=>F (.own 100000 0 f) [(100000,(bQ 1 c))])
def oK (b:Nat) (c:LA) (d:Int):St:=⟨[(0,(.own 100000 0 b)),(3,(iv d))],[(100000,(bQ 1 c))]⟩
def oL (F:KF R):=oJ N F [1,1,0,0] []
theorem HE (F:KF R) (b:Nat) (c:LA):∀ (n:Nat) (d:Int),Ax (oL N F) n (oK b c d)=(K0 N (Nn c F) b c n d)
 | 0,_=>by kernel_rfl
 | n+1,d=>Eq.trans (by kernel_rfl) (Ee (Tz N (Nn c F) b c · d) (funext fun d=>(HE F b c n d)):_)
theorem Z3 (b:Nat) (c:LA) (F:KF R):Dj [] OY N 214 [(.own 100000 0 b)] [(100000,(bQ 1 c))] F=(K1 N b c (Nn c F)):=by
 rw[EZ]
 exact Eq.trans (by kernel_rfl) (Ee (HD N (Nn c F) · b c) (funext fun d=>(Ar ..).trans (HE N F b c N d)):_)
def VQ (a:LA) (h:Ai) (k:KF R):O R :=
 match a,h with
 | [(.own 100000 0 b)],[(100000,⟨false,false,true,false,1,c,false,none⟩)]=>(K1 N b c (Nn c k))
 | _,_=>none
theorem df:Ao N 214 @VQ:=by
 intro R Q a h k j;unfold VQ;split;exact Ay (Z3 ..) (Z3 ..) trivial;exact A0
def MF:=Az (df N)
def MG:=Dh (df N)
def N7 (b:Int) (r0:Nat→LA→O R):O R :=
 (K1 N 2 [(.int .u32 (wrap .u32 b)),(.int .u32 (wrap .u32 (Int.fdiv b (2 ^ 32))))] (fun c=>(r0 c [(.int .u32 (wrap .u32 b)),(.int .u32 (wrap .u32 (Int.fdiv b (2 ^ 32))))])))
def A7:=(Al (@N7 R)).1
theorem Po:@A7 R=@N7 R:=(Al _).2
def SU:Gn:=[(214,MF N)]
def Rz (F:KF R):Nat→LA→O R:=(fun d e=>F (.own 300000 0 d) (hq [(bQ 1 e)]))
theorem R3 (b:Int) (F:KF R):Dj (SU N) qg N 133 [(.int .u64 b)] [] F=(A7 N b (Rz F)):=by
 rw[Po]
 kernel_rfl
def Pp (a:LA) (h:Ai) (k:KF R):O R :=
 match a,h with
 | [(.int .u64 b)],[]=>(A7 N b (Rz k))
 | _,_=>none
theorem R4:Ao N 133 @Pp:=by
 intro R Q a h k j;unfold Pp;split;exact Ay (R3 ..) (R3 ..) ⟨MG N,trivial⟩;exact A0
def Ds:=Az (R4 N)
def Dt:=Dh (R4 N)
def E_ (N:Nat) (d:Bool) (b:Nat) (c:LA) (r0:Bool→O R):O R :=
 (cond (d==true) (r0 (cond true (decide (((b:Nat):Int)>0)) false)) (r0 false))
def Ei:=(Al (@E_ R)).1
theorem BA:@Ei R=@E_ R:=(Al _).2
def HF (b:Nat) (c:LA) (F:KF R):Bool→O R:=(fun e=>F (.agg [(.bool e),(.own 100000 0 b)]) [(100000,(bQ 1 c))])
theorem HG (d:Bool) (b:Nat) (c:LA) (F:KF R):Dj [] H2 N 132 [(.bool d),(.own 100000 0 b)] [(100000,(bQ 1 c))] F=(Ei N d b c (HF b c F)):=by
 rw[BA]
 kernel_rfl
def BB (a:LA) (h:Ai) (k:KF R):O R :=
 match a,h with
 | [(.bool d),(.own 100000 0 b)],[(100000,⟨false,false,true,false,1,c,false,none⟩)]=>(Ei N d b c (HF b c k))
 | _,_=>none
theorem HH:Ao N 132 @BB:=by
 intro R Q a h k j;unfold BB;split;exact Ay (HG ..) (HG ..) trivial;exact A0
def Js:=Az (HH N)
def Jt:=Dh (HH N)
def Xa (b:Int) (r0:Bool→Nat→LA→O R):O R :=
 (cond (decide (b<0)) (A7 N (wrap .u64 ((0:Int) - (wrap .u64 b))) (fun c d=>(Ei N true c d (fun g=>(r0 g c d))))) (A7 N (wrap .u64 b) (fun e f=>(Ei N false e f (fun i=>(r0 i e f))))))
def B9:=(Al (@Xa R)).1
theorem Xb:@B9 R=@Xa R:=(Al _).2
def gF:Gn:=[(133,Ds N),(132,Js N)]
def BC (F:KF R):Bool→Nat→LA→O R:=(fun l m n=>F (.agg [(.bool l),(.own 300000 0 m)]) (hq [(bQ 1 n)]))
theorem BD (b:Int) (F:KF R):Dj (gF N) H2 N 64 [(iv b)] [] F=(B9 N b (BC F)):=by
 rw[Xb]
 kernel_rfl
def Xc (a:LA) (h:Ai) (k:KF R):O R :=
 match a,h with
 | [(.int .i64 b)],[]=>(B9 N b (BC k))
 | _,_=>none
theorem BE:Ao N 64 @Xc:=by
 intro R Q a h k j;unfold Xc;split;exact Ay (BD ..) (BD ..) ⟨Dt N,Jt N,trivial⟩;exact A0
def Lr:=Az (BE N)
def Ls:=Dh (BE N)
def Lt (N:Nat) (r0:LA→Nat→O R) (e:LA) (b:Nat) (f c:Bool) (k0:Int→O R) (d:Int):O R :=
 (cond ((decide (d>0))==true) (cond (Am (wrap .i64 (d - 1)) b) (Bi .u32 (e.drop (((wrap .i64 (d - 1)).toNat)*1)) fun g=>(cond (cond true (g==0) false) (k0 (wrap .i64 (d - 1))) (cond ((decide ((0:Int)≤(0:Int)))&&((decide (0≤d))&&((decide (d≤((b:Nat):Int)))&&(decide (((b:Nat):Int)≤((b:Nat):Int)))))) (r0 (e.take ((d.toNat)*1)) (d.toNat)) none))) none) (cond ((decide ((0:Int)≤(0:Int)))&&((decide (0≤d))&&((decide (d≤((b:Nat):Int)))&&(decide (((b:Nat):Int)≤((b:Nat):Int)))))) (r0 (e.take ((d.toNat)*1)) (d.toNat)) none))
def Fs (r0:LA→Nat→O R) (e:LA) (b:Nat) (f c:Bool):Nat→Int→O R
 | 0,_=>none
 | n+1,d=>(Lt N r0 e b f c (Fs r0 e b f c n) d)
def T0 (N:Nat) (r0:LA→Nat→O R) (q0:Int→O R) (e:LA) (b:Nat) (f c:Bool):O R :=
 (q0 ((b:Nat):Int))
def Be:=(Al (fun (N:Nat) (e:LA) (b:Nat) (f c:Bool) (r0:LA→Nat→O R)=>(T0 N r0 (fun d=>(Fs N r0 e b f c N d)) e b f c))).1
theorem BF (e b f c r0):(@Be R N e b f c r0)=(T0 N r0 (fun d=>(Fs N r0 e b f c N d)) e b f c):=by rw[Be,(Al _).2]
def gG (F:KF R):=Rh Tryz.f214 OY [] [] N F
def Ft (c:Bool) (F:KF R):LA→Nat→O R:=(fun i l=>F (.imm i l 1 false c) [])
def gH (e:LA) (b:Nat) (f c:Bool) (d:Int):St:=⟨[(0,(.imm e b 1 f c)),(3,(iv d))],[]⟩
def gI (F:KF R):=gG N F [1,1,0,0] []
theorem Vk (F:KF R) (e:LA) (b:Nat) (f c:Bool):∀ (n:Nat) (d:Int),Ax (gI N F) n (gH e b f c d)=(Fs N (Ft c F) e b f c n d)
 | 0,_=>by kernel_rfl
 | n+1,d=>Eq.trans (by kernel_rfl) (Ee (Lt N (Ft c F) e b f c · d) (funext fun d=>(Vk F e b f c n d)):_)
theorem Hv (e:LA) (b:Nat) (f c:Bool) (F:KF R):Dj [] OY N 214 [(.imm e b 1 f c)] [] F=(Be N e b f c (Ft c F)):=by
 rw[BF]
 exact Eq.trans (by kernel_rfl) (Ee (T0 N (Ft c F) · e b f c) (funext fun d=>(Ar ..).trans (Vk N F e b f c N d)):_)
def BG (a:LA) (h:Ai) (k:KF R):O R :=
 match a,h with
 | [(.imm e b 1 f c)],[]=>(Be N e b f c (Ft c k))
 | _,_=>none
theorem HI:Ao N 214 @BG:=by
 intro R Q a h k j;unfold BG;split;exact Ay (Hv ..) (Hv ..) trivial;exact A0
def Ju:=Az (HI N)
def Jv:=Dh (HI N)
def T1 (N:Nat) (k1:Nat→Int→Int→LA→O R) (r0:Nat→LA→O R) (f:LA) (b:Nat) (e:Bool) (l:Nat) (g r:Int) (i:LA) (d:Nat) (c:Bool) (m:Int) (k2:Int→Int→Int→LA→O R) (s t o:Int) (q:LA):O R :=
 (cond (decide (o<t)) (cond (Am o b) (Bi .u32 (f.drop ((o.toNat)*1)) fun aa=>(cond (Am (wrap .i64 (g+o)) l) (Bi .u32 (q.drop (0+(((wrap .i64 (g+o)).toNat)*1))) fun ab=>(cond (Am (wrap .i64 (g+o)) l) (cond ((Nat.beq 1 1)&&((Nat.ble ((0+(((wrap .i64 (g+o)).toNat)*1))+1) (q.length))&&(!false))) (k2 (Int.fdiv (wrap .u64 (s+(wrap .u64 ((wrap .u64 ((wrap .u64 r)*(wrap .u64 aa)))+(wrap .u64 ab))))) (2 ^ 32)) t (wrap .i64 (o+1)) (q.set (0+(((wrap .i64 (g+o)).toNat)*1)) (.int .u32 (wrap .u32 (wrap .u64 (s+(wrap .u64 ((wrap .u64 ((wrap .u64 r)*(wrap .u64 aa)))+(wrap .u64 ab))))))))) none) none)) none)) none) (cond (Am (wrap .i64 (g+((b:Nat):Int))) l) (cond ((Nat.beq 1 1)&&((Nat.ble ((0+(((wrap .i64 (g+((b:Nat):Int))).toNat)*1))+1) (q.length))&&(!false))) (k1 l m (wrap .i64 (g+1)) (q.set (0+(((wrap .i64 (g+((b:Nat):Int))).toNat)*1)) (.int .u32 (wrap .u32 s)))) none) none))
def K2 (k1:Nat→Int→Int→LA→O R) (r0:Nat→LA→O R) (f:LA) (b:Nat) (e:Bool) (l:Nat) (g r:Int) (i:LA) (d:Nat) (c:Bool) (m:Int):Nat→Int→Int→Int→LA→O R
 | 0,_,_,_,_=>none
 | n+1,s,t,o,q=>(T1 N k1 r0 f b e l g r i d c m (K2 k1 r0 f b e l g r i d c m n) s t o q)
def N8 (r0:Nat→LA→O R) (f:LA) (b:Nat) (e:Bool) (i:LA) (d:Nat) (c:Bool) (k1:Nat→Int→Int→LA→O R) (q2:Int→Int→Int→Int→LA→O R) (l:Nat) (m g:Int) (p:LA):O R :=
 (cond (decide (g<m)) (cond (Am g d) (Bi .u32 (i.drop ((g.toNat)*1)) fun r=>(cond (r==0) (k1 l m (wrap .i64 (g+1)) p) (q2 r 0 ((b:Nat):Int) 0 p))) none) (K1 N l p (fun ad=>(r0 ad p))))
def Hw (r0:Nat→LA→O R) (f:LA) (b:Nat) (e:Bool) (i:LA) (d:Nat) (c:Bool):Nat→Nat→Int→Int→LA→O R
 | 0,_,_,_,_=>none
 | n+1,l,m,g,p=>(N8 N r0 f b e i d c (Hw r0 f b e i d c n) (fun r s t o q=>(K2 N (Hw r0 f b e i d c n) r0 f b e l g r i d c m N s t o q)) l m g p)
def E' (N:Nat) (r0:Nat→LA→O R) (i:LA) (d:Nat) (c:Bool) (f:LA) (b:Nat) (e:Bool) (q1:Nat→Int→Int→LA→O R):O R :=
 (cond ((decide (0≤(wrap .i64 (((d:Nat):Int)+((b:Nat):Int)))))&&((decide ((wrap .i64 (((d:Nat):Int)+((b:Nat):Int)))≤(wrap .i64 (((d:Nat):Int)+((b:Nat):Int)))))&&((decide ((wrap .i64 (((d:Nat):Int)+((b:Nat):Int)))≤140737488355328))&&(decide (((wrap .i64 (((d:Nat):Int)+((b:Nat):Int)))*((4:Nat):Int))≤140737488355328))))) (q1 ((wrap .i64 (((d:Nat):Int)+((b:Nat):Int))).toNat) ((d:Nat):Int) 0 (List.replicate ((wrap .i64 (((d:Nat):Int)+((b:Nat):Int))).toNat) (.int .u32 0))) none)
def Z4 (r0:Nat→LA→O R) (i:LA) (d:Nat) (c:Bool) (f:LA) (b:Nat) (e:Bool):O R:=(E' N r0 i d c f b e (fun l m g p=>(Hw N r0 f b e i d c N l m g p)))
def Z5 (r0:Nat→LA→O R) (q0:LA→Nat→LA→Nat→O R) (v:LA) (u:Nat) (w c:Bool) (x:LA) (y:Nat) (z e:Bool):O R :=
 (Be N v u w c (fun i d=>(Be N x y z e (fun f b=>(cond ((((d:Nat):Int)==0)==false) (cond (cond false true (((b:Nat):Int)==0)) (r0 0 []) (q0 i d f b)) (r0 0 []))))))
def T2:=(Al (fun (N:Nat) (v:LA) (u:Nat) (w c:Bool) (x:LA) (y:Nat) (z e:Bool) (r0:Nat→LA→O R)=>(Z5 N r0 (fun i d f b=>(Z4 N r0 i d c f b e)) v u w c x y z e))).1
theorem T3 (v u w c x y z e r0):(@T2 R N v u w c x y z e r0)=(Z5 N r0 (fun i d f b=>(Z4 N r0 i d c f b e)) v u w c x y z e):=by rw[T2,(Al _).2]
def dg:Hints:={ H:=(hS hL (hS hL (hJ [0,1] hL (hS hL (hS (hS hL (hS (hP [1,5,29,30,31] (hS hL (hS hL (hS (hS (hS hL (hS hL (hS hL (hS (hS hL (hS (hP [1,5,6,7,8,29,30,31,38,39,40] hL) hL)) hL)))) hL) hL)))) hL)) hL))))),nils:=[(4,1)],modes:=[(2,1)] }
def H7 (a:LA) (h:Ai) (k:KF R):O R :=
 match a,h with
 | [(.imm v u 1 w c)],[]=>(Be N v u w c (Ft c k))
 | [(.own 100000 0 u)],[(100000,⟨false,false,true,false,1,ac,false,none⟩)]=>(K1 N u ac (Nn ac k))
 | _,_=>none
theorem I7:Ao N 214 @H7:=by
 intro R Q a h k j;unfold H7;split;exact Ay (Hv ..) (Hv ..) trivial;exact Ay (Z3 ..) (Z3 ..) trivial;exact A0
def C5:=Az (I7 N)
def C6:=Dh (I7 N)
def jT:Gn:=[(214,C5 N)]
def MH (F:KF R):=Rh Tryz.f137 dg (jT N) [] N F
def Gg (F:KF R):Nat→LA→O R:=(fun ae af=>F (.own 300000 0 ae) (hq [(bQ 1 af)]))
def oM (f:LA) (b:Nat) (e:Bool) (l:Nat) (g r:Int) (i:LA) (d:Nat) (c:Bool) (m s t o:Int) (q:LA):St:=⟨[(1,(.imm f b 1 false e)),(5,(.own 300000 0 l)),(6,(iv g)),(7,(.int .u32 r)),(8,(.int .u64 s)),(29,(.imm i d 1 false c)),(30,(iv m)),(31,(iv g)),(38,(.imm f b 1 false e)),(39,(iv t)),(40,(iv o))],(hq [(bQ 1 q)])⟩
def oN (F:KF R) (Q1:St→O R):=MH N F [1,1,1,1,0,1,0,0,1,1,0,0,1,1,1,0,1,0] [Q1]
def MI (f:LA) (b:Nat) (e:Bool) (i:LA) (d:Nat) (c:Bool) (l:Nat) (m g:Int) (p:LA):St:=⟨[(1,(.imm f b 1 false e)),(5,(.own 300000 0 l)),(29,(.imm i d 1 false c)),(30,(iv m)),(31,(iv g))],(hq [(bQ 1 p)])⟩
def dh (F:KF R):=MH N F [1,1,1,1,0,1,0] []
def oO (i:LA) (d:Nat) (c:Bool) (f:LA) (b:Nat) (e:Bool):St:=⟨[(0,(.imm i d 1 false c)),(1,(.imm f b 1 false e))],[]⟩
def oP (F:KF R):=MH N F [1,1,1] []
theorem HJ (Q1:St→O R) (F:KF R) (f:LA) (b:Nat) (e:Bool) (l:Nat) (g r:Int) (i:LA) (d:Nat) (c:Bool) (m:Int):∀ (n:Nat) (s t o:Int) (q:LA),Ax (oN N F Q1) n (oM f b e l g r i d c m s t o q)=(K2 N (fun l m g p=>Q1 (MI f b e i d c l m g p)) (Gg F) f b e l g r i d c m n s t o q)
 | 0,_,_,_,_=>by kernel_rfl
 | n+1,s,t,o,q=>Eq.trans (by kernel_rfl) (Ee (T1 N (fun l m g p=>Q1 (MI f b e i d c l m g p)) (Gg F) f b e l g r i d c m · s t o q) (funext fun s=>funext fun t=>funext fun o=>funext fun q=>(HJ Q1 F f b e l g r i d c m n s t o q)):_)
theorem HK (F:KF R) (f:LA) (b:Nat) (e:Bool) (i:LA) (d:Nat) (c:Bool):∀ (n l:Nat) (m g:Int) (p:LA),Ax (dh N F) n (MI f b e i d c l m g p)=(Hw N (Gg F) f b e i d c n l m g p)
 | 0,_,_,_,_=>by kernel_rfl
 | n+1,l,m,g,p=>have e0:=(funext fun l=>funext fun m=>funext fun g=>funext fun p=>(HK F f b e i d c n l m g p))
  Eq.trans (by kernel_rfl) (pt (N8 N (Gg F) f b e i d c · · l m g p) e0 (funext fun r=>funext fun s=>funext fun t=>funext fun o=>funext fun q=>(Ar ..).trans ((HJ N (Ax (dh N F) n) F f b e l g r i d c m N s t o q).trans (Ee (K2 N · (Gg F) f b e l g r i d c m N s t o q) e0))):_)
theorem gJ (F:KF R) (i:LA) (d:Nat) (c:Bool) (f:LA) (b:Nat) (e:Bool):C7 (oP N F) (oO i d c f b e)=(Z4 N (Gg F) i d c f b e):=by
 exact Eq.trans (by kernel_rfl) (Ee (E' N (Gg F) i d c f b e ·) (funext fun l=>funext fun m=>funext fun g=>funext fun p=>(Ar ..).trans (HK N F f b e i d c N l m g p)):_)
theorem di (v:LA) (u:Nat) (w c:Bool) (x:LA) (y:Nat) (z e:Bool) (F:KF R):Dj (jT N) dg N 137 [(.imm v u 1 w c),(.imm x y 1 z e)] [] F=(T2 N v u w c x y z e (Gg F)):=by
 rw[T3]
 exact Eq.trans (by kernel_rfl) (Ee (Z5 N (Gg F) · v u w c x y z e) (funext fun i=>funext fun d=>funext fun f=>funext fun b=>(A8 ..).trans (gJ N F i d c f b e)):_)
def VR (a:LA) (h:Ai) (k:KF R):O R :=
 match a,h with
 | [(.imm v u 1 w c),(.imm x y 1 z e)],[]=>(T2 N v u w c x y z e (Gg k))
 | _,_=>none
theorem dj:Ao N 137 @VR:=by
 intro R Q a h k j;unfold VR;split;exact Ay (di ..) (di ..) ⟨C6 N,trivial⟩;exact A0
def MJ:=Az (dj N)
def MK:=Dh (dj N)
def gK (b:LA) (d:Bool) (c:LA) (e:Bool) (r0:Bool→Nat→LA→O R):O R :=
 (Pc b fun i=>(Pc c fun l=>(Lq 1 (b.drop 1) fun m n=>(Lq 1 (c.drop 1) fun o p=>(T2 N m n false d o p false e (fun f g=>(Ei N (!(i==l)) f g (fun q=>(r0 q f g)))))))))
def Q8:=(Al (@gK R)).1
theorem VS:@Q8 R=@gK R:=(Al _).2
def qi:Gn:=[(137,MJ N),(132,Js N)]
def dk (F:KF R):Bool→Nat→LA→O R:=(fun r s t=>F (.agg [(.bool r),(.own 300000 0 s)]) (hq [(bQ 1 t)]))
theorem dl (b:LA) (d:Bool) (c:LA) (e:Bool) (F:KF R):Dj (qi N) H2 N 68 [(.pagg b d),(.pagg c e)] [] F=(Q8 N b d c e (dk F)):=by
 rw[VS]
 kernel_rfl
def VT (a:LA) (h:Ai) (k:KF R):O R :=
 match a,h with
 | [(.pagg b d),(.pagg c e)],[]=>(Q8 N b d c e (dk k))
 | _,_=>none
theorem dm:Ao N 68 @VT:=by
 intro R Q a h k j;unfold VT;split;exact Ay (dl ..) (dl ..) ⟨MK N,Jt N,trivial⟩;exact A0
def ML:=Az (dm N)
def MM:=Dh (dm N)
def VU (d:LA) (e:Nat) (f c:Bool) (r0:Nat→LA→O R):O R :=
 (Be N d e f c (fun g b=>(cond ((decide (0≤((b:Nat):Int)))&&((decide (((b:Nat):Int)≤((b:Nat):Int)))&&((decide (((b:Nat):Int)≤140737488355328))&&(decide ((((b:Nat):Int)*((4:Nat):Int))≤140737488355328))))) (cond ((!c)||(Cf g)) (r0 b (G4 (List.replicate b (.int .u32 0)) 0 (g.take ((min b b)*1)))) none) none)))
def Lu:=(Al (@VU R)).1
theorem O_:@Lu R=@VU R:=(Al _).2
def oQ:Gn:=[(214,Ju N)]
def VV (F:KF R):Nat→LA→O R:=(fun i l=>F (.own 300000 0 i) (hq [(bQ 1 l)]))
theorem VW (d:LA) (e:Nat) (f c:Bool) (F:KF R):Dj (oQ N) qg N 212 [(.imm d e 1 f c)] [] F=(Lu N d e f c (VV F)):=by
 rw[O_]
 kernel_rfl
def O' (a:LA) (h:Ai) (k:KF R):O R :=
 match a,h with
 | [(.imm d e 1 f c)],[]=>(Lu N d e f c (VV k))
 | _,_=>none
theorem VX:Ao N 212 @O':=by
 intro R Q a h k j;unfold O';split;exact Ay (VW ..) (VW ..) ⟨Jv N,trivial⟩;exact A0
def N9:=Az (VX N)
def Oa:=Dh (VX N)
def gL (b:LA) (c:Bool) (r0:Bool→Nat→LA→O R):O R :=
 (Pc b fun f=>(Lq 1 (b.drop 1) fun g i=>(Lu N g i false c (fun d e=>(Ei N (!f) d e (fun l=>(r0 l d e)))))))
def VY:=(Al (@gL R)).1
theorem VZ:@VY R=@gL R:=(Al _).2
def qk:Gn:=[(212,N9 N),(132,Js N)]
def dn (F:KF R):Bool→Nat→LA→O R:=(fun m n o=>F (.agg [(.bool m),(.own 300000 0 n)]) (hq [(bQ 1 o)]))
theorem dp (b:LA) (c:Bool) (F:KF R):Dj (qk N) H2 N 148 [(.pagg b c)] [] F=(VY N b c (dn F)):=by
 rw[VZ]
 kernel_rfl
def V_ (a:LA) (h:Ai) (k:KF R):O R :=
 match a,h with
 | [(.pagg b c)],[]=>(VY N b c (dn k))
 | _,_=>none
theorem dq:Ao N 148 @V_:=by
 intro R Q a h k j;unfold V_;split;exact Ay (dp ..) (dp ..) ⟨Oa N,Jt N,trivial⟩;exact A0
def oR:=Az (dq N)
def oS:=Dh (dq N)
def Ob (r0:Nat→LA→O R) (c:LA) (b:Nat) (e:Bool) (f:LA) (d:Nat) (i:Bool) (k1:Nat→Int→Int→Int→LA→O R) (m:Nat) (o p g:Int) (l:LA):O R :=
 (cond (decide (g<p)) (cond (Am g b) (Bi .u32 (c.drop ((g.toNat)*1)) fun y=>(cond (decide (g<((d:Nat):Int))) (cond (Am g d) (Bi .u32 (f.drop ((g.toNat)*1)) fun ab=>(cond (Am g m) (cond ((Nat.beq 1 1)&&((Nat.ble ((0+((g.toNat)*1))+1) (l.length))&&(!false))) (k1 m (Int.fdiv (wrap .u64 ((wrap .u64 (o+(wrap .u64 y)))+(wrap .u64 ab))) (2 ^ 32)) p (wrap .i64 (g+1)) (l.set (0+((g.toNat)*1)) (.int .u32 (wrap .u32 (wrap .u64 ((wrap .u64 (o+(wrap .u64 y)))+(wrap .u64 ab))))))) none) none)) none) (cond (Am g m) (cond ((Nat.beq 1 1)&&((Nat.ble ((0+((g.toNat)*1))+1) (l.length))&&(!false))) (k1 m (Int.fdiv (wrap .u64 (o+(wrap .u64 y))) (2 ^ 32)) p (wrap .i64 (g+1)) (l.set (0+((g.toNat)*1)) (.int .u32 (wrap .u32 (wrap .u64 (o+(wrap .u64 y))))))) none) none))) none) (cond (Am ((b:Nat):Int) m) (cond ((Nat.beq 1 1)&&((Nat.ble ((0+(b*1))+1) (l.length))&&(!false))) (K1 N m (l.set (0+(b*1)) (.int .u32 (wrap .u32 o))) (fun ae=>(r0 ae (l.set (0+(b*1)) (.int .u32 (wrap .u32 o)))))) none) none))
def K3 (r0:Nat→LA→O R) (c:LA) (b:Nat) (e:Bool) (f:LA) (d:Nat) (i:Bool):Nat→Nat→Int→Int→Int→LA→O R
 | 0,_,_,_,_,_=>none
 | n+1,m,o,p,g,l=>(Ob N r0 c b e f d i (K3 r0 c b e f d i n) m o p g l)
def FA (N:Nat) (r0:Nat→LA→O R) (q1:Nat→Int→Int→Int→LA→O R) (c:LA) (b:Nat) (e:Bool) (f:LA) (d:Nat) (i:Bool):O R :=
 (cond ((decide (0≤(wrap .i64 (((b:Nat):Int)+1))))&&((decide ((wrap .i64 (((b:Nat):Int)+1))≤(wrap .i64 (((b:Nat):Int)+1))))&&((decide ((wrap .i64 (((b:Nat):Int)+1))≤140737488355328))&&(decide (((wrap .i64 (((b:Nat):Int)+1))*((4:Nat):Int))≤140737488355328))))) (q1 ((wrap .i64 (((b:Nat):Int)+1)).toNat) 0 ((b:Nat):Int) 0 (List.replicate ((wrap .i64 (((b:Nat):Int)+1)).toNat) (.int .u32 0))) none)
def R5 (r0:Nat→LA→O R) (c:LA) (b:Nat) (e:Bool) (f:LA) (d:Nat) (i:Bool):O R:=(FA N r0 (fun m o p g l=>(K3 N r0 c b e f d i N m o p g l)) c b e f d i)
def HL (r0:Nat→LA→O R) (q0:LA→Nat→Bool→LA→Nat→Bool→O R) (s:LA) (t:Nat) (u q:Bool) (v:LA) (w:Nat) (x r:Bool):O R :=
 (Be N s t u q (fun ac z=>(Be N v w x r (fun ad aa=>(cond (decide (((z:Nat):Int)<((aa:Nat):Int))) (q0 ad aa r ac z q) (q0 ac z q ad aa r))))))
def MN:=(Al (fun (N:Nat) (s:LA) (t:Nat) (u q:Bool) (v:LA) (w:Nat) (x r:Bool) (r0:Nat→LA→O R)=>(HL N r0 (fun c b e f d i=>(R5 N r0 c b e f d i)) s t u q v w x r))).1
theorem FB (s t u q v w x r r0):(@MN R N s t u q v w x r r0)=(HL N r0 (fun c b e f d i=>(R5 N r0 c b e f d i)) s t u q v w x r):=by rw[MN,(Al _).2]
def dr:Hints:={ H:=(hS hL (hS hL (hJ [0,1] hL (hS hL (hS hL (hS (hS hL (hS (hP [0,1,5,6,24,25,26] hL) hL)) hL)))))),nils:=[(4,1)],modes:=[(2,1)] }
def jU:Gn:=[(214,C5 N)]
def dt (F:KF R):=Rh Tryz.f135 dr (jU N) [] N F
def K4 (F:KF R):Nat→LA→O R:=(fun af ag=>F (.own 300000 0 af) (hq [(bQ 1 ag)]))
def oT (c:LA) (b:Nat) (e:Bool) (f:LA) (d:Nat) (i:Bool) (m:Nat) (o p g:Int) (l:LA):St:=⟨[(0,(.imm c b 1 false e)),(1,(.imm f d 1 false i)),(5,(.own 300000 0 m)),(6,(.int .u64 o)),(24,(.imm c b 1 false e)),(25,(iv p)),(26,(iv g))],(hq [(bQ 1 l)])⟩
def oU (F:KF R):=dt N F [1,1,1,1,1,0,1,0] []
def oV (c:LA) (b:Nat) (e:Bool) (f:LA) (d:Nat) (i:Bool):St:=⟨[(0,(.imm c b 1 false e)),(1,(.imm f d 1 false i))],[]⟩
def oW (F:KF R):=dt N F [1,1,1] []
theorem HM (F:KF R) (c:LA) (b:Nat) (e:Bool) (f:LA) (d:Nat) (i:Bool):∀ (n m:Nat) (o p g:Int) (l:LA),Ax (oU N F) n (oT c b e f d i m o p g l)=(K3 N (K4 F) c b e f d i n m o p g l)
 | 0,_,_,_,_,_=>by kernel_rfl
 | n+1,m,o,p,g,l=>Eq.trans (by kernel_rfl) (Ee (Ob N (K4 F) c b e f d i · m o p g l) (funext fun m=>funext fun o=>funext fun p=>funext fun g=>funext fun l=>(HM F c b e f d i n m o p g l)):_)
theorem gM (F:KF R):∀ (c:LA) (b:Nat) (e:Bool) (f:LA) (d:Nat) (i:Bool),C7 (oW N F) (oV c b e f d i)=(R5 N (K4 F) c b e f d i):=by
 intro c b e f d i
 exact Eq.trans (by kernel_rfl) (Ee (FA N (K4 F) · c b e f d i) (funext fun m=>funext fun o=>funext fun p=>funext fun g=>funext fun l=>(Ar ..).trans (HM N F c b e f d i N m o p g l)):_)
theorem du (s:LA) (t:Nat) (u q:Bool) (v:LA) (w:Nat) (x r:Bool) (F:KF R):Dj (jU N) dr N 135 [(.imm s t 1 u q),(.imm v w 1 x r)] [] F=(MN N s t u q v w x r (K4 F)):=by
 rw[FB]
 exact Eq.trans (by kernel_rfl) (Ee (HL N (K4 F) · s t u q v w x r) (funext fun c=>funext fun b=>funext fun e=>funext fun f=>funext fun d=>funext fun i=>(A8 ..).trans (gM N F c b e f d i)):_)
def V' (a:LA) (h:Ai) (k:KF R):O R :=
 match a,h with
 | [(.imm s t 1 u q),(.imm v w 1 x r)],[]=>(MN N s t u q v w x r (K4 k))
 | _,_=>none
theorem dv:Ao N 135 @V':=by
 intro R Q a h k j;unfold V';split;exact Ay (du ..) (du ..) ⟨C6 N,trivial⟩;exact A0
def oX:=Az (dv N)
def oY:=Dh (dv N)
def Gq (N:Nat) (r0:Int→O R) (g:LA) (e:Nat) (c:Bool) (i:LA) (f:Nat) (d:Bool) (k0:Int→O R) (b:Int):O R :=
 (cond (decide (b≥0)) (cond (Am b e) (Bi .u32 (g.drop ((b.toNat)*1)) fun s=>(cond (Am b f) (Bi .u32 (i.drop ((b.toNat)*1)) fun t=>(cond (decide (s<t)) (r0 (-1)) (cond (Am b e) (Bi .u32 (g.drop ((b.toNat)*1)) fun u=>(cond (Am b f) (Bi .u32 (i.drop ((b.toNat)*1)) fun v=>(cond (decide (u>v)) (r0 1) (k0 (wrap .i64 (b - 1))))) none)) none))) none)) none) (r0 0))
def Cq (r0:Int→O R) (g:LA) (e:Nat) (c:Bool) (i:LA) (f:Nat) (d:Bool):Nat→Int→O R
 | 0,_=>none
 | n+1,b=>(Gq N r0 g e c i f d (Cq r0 g e c i f d n) b)
def Jw (r0:Int→O R) (q0:LA→Nat→LA→Nat→Int→O R) (l:LA) (m:Nat) (o c:Bool) (p:LA) (q:Nat) (r d:Bool):O R :=
 (Be N l m o c (fun g e=>(Be N p q r d (fun i f=>(cond (((e:Nat):Int) != ((f:Nat):Int)) (cond (decide (((e:Nat):Int)<((f:Nat):Int))) (r0 (-1)) (r0 1)) (q0 g e i f (wrap .i64 (((e:Nat):Int) - 1))))))))
def Dm:=(Al (fun (N:Nat) (l:LA) (m:Nat) (o c:Bool) (p:LA) (q:Nat) (r d:Bool) (r0:Int→O R)=>(Jw N r0 (fun g e i f b=>(Cq N r0 g e c i f d N b)) l m o c p q r d))).1
theorem Pq (l m o c p q r d r0):(@Dm R N l m o c p q r d r0)=(Jw N r0 (fun g e i f b=>(Cq N r0 g e c i f d N b)) l m o c p q r d):=by rw[Dm,(Al _).2]
def Vl:Gn:=[(214,Ju N)]
def MO (F:KF R):=Rh Tryz.f131 db (Vl N) [] N F
def E7 (F:KF R):Int→O R:=(fun w=>F (iv w) [])
def MP (g:LA) (e:Nat) (c:Bool) (i:LA) (f:Nat) (d:Bool) (b:Int):St:=⟨[(0,(.imm g e 1 false c)),(1,(.imm i f 1 false d)),(5,(iv b))],[]⟩
def MQ (F:KF R):=MO N F [1,1,1,0,1,0] []
theorem Mp (F:KF R) (g:LA) (e:Nat) (c:Bool) (i:LA) (f:Nat) (d:Bool):∀ (n:Nat) (b:Int),Ax (MQ N F) n (MP g e c i f d b)=(Cq N (E7 F) g e c i f d n b)
 | 0,_=>by kernel_rfl
 | n+1,b=>Eq.trans (by kernel_rfl) (Ee (Gq N (E7 F) g e c i f d · b) (funext fun b=>(Mp F g e c i f d n b)):_)
theorem R6 (l:LA) (m:Nat) (o c:Bool) (p:LA) (q:Nat) (r d:Bool) (F:KF R):Dj (Vl N) db N 131 [(.imm l m 1 o c),(.imm p q 1 r d)] [] F=(Dm N l m o c p q r d (E7 F)):=by
 rw[Pq]
 exact Eq.trans (by kernel_rfl) (Ee (Jw N (E7 F) · l m o c p q r d) (funext fun g=>funext fun e=>funext fun i=>funext fun f=>funext fun b=>(Ar ..).trans (Mp N F g e c i f d N b)):_)
def Pr (a:LA) (h:Ai) (k:KF R):O R :=
 match a,h with
 | [(.imm l m 1 o c),(.imm p q 1 r d)],[]=>(Dm N l m o c p q r d (E7 k))
 | _,_=>none
theorem R7:Ao N 131 @Pr:=by
 intro R Q a h k j;unfold Pr;split;exact Ay (R6 ..) (R6 ..) ⟨Jv N,trivial⟩;exact A0
def K5:=Az (R7 N)
def K6:=Dh (R7 N)
def Oc (r0:Nat→Bool→LA→O R) (l:LA) (g:Nat) (d:Bool) (b:Nat) (m:LA) (e:Bool) (k0:Int→Int→Int→LA→O R) (i o c:Int) (f:LA):O R :=
 (cond (decide (c<o)) (cond (Am c b) (Bi .u32 (m.drop ((c.toNat)*1)) fun v=>(cond (decide (c<((g:Nat):Int))) (cond (Am c g) (Bi .u32 (l.drop ((c.toNat)*1)) fun w=>(cond (Am c b) (cond ((Nat.beq 1 1)&&((Nat.ble ((0+((c.toNat)*1))+1) (f.length))&&(!false))) (k0 (Int.fdiv (wrap .u64 ((wrap .u64 ((wrap .u64 v) - i)) - (wrap .u64 w))) (2 ^ 63)) o (wrap .i64 (c+1)) (f.set (0+((c.toNat)*1)) (.int .u32 (wrap .u32 (wrap .u64 ((wrap .u64 ((wrap .u64 v) - i)) - (wrap .u64 w))))))) none) none)) none) (cond (Am c b) (cond ((Nat.beq 1 1)&&((Nat.ble ((0+((c.toNat)*1))+1) (f.length))&&(!false))) (k0 (Int.fdiv (wrap .u64 ((wrap .u64 v) - i)) (2 ^ 63)) o (wrap .i64 (c+1)) (f.set (0+((c.toNat)*1)) (.int .u32 (wrap .u32 (wrap .u64 ((wrap .u64 v) - i)))))) none) none))) none) (K1 N b f (fun x=>(r0 x true f))))
def I8 (r0:Nat→Bool→LA→O R) (l:LA) (g:Nat) (d:Bool) (b:Nat) (m:LA) (e:Bool):Nat→Int→Int→Int→LA→O R
 | 0,_,_,_,_=>none
 | n+1,i,o,c,f=>(Oc N r0 l g d b m e (I8 r0 l g d b m e n) i o c f)
def HN (r0:Nat→Bool→LA→O R) (q0:LA→Nat→Nat→LA→Int→Int→Int→LA→O R) (p:LA) (q:Nat) (r e:Bool) (s:LA) (t:Nat) (u d:Bool):O R :=
 (Be N p q r e (fun m b=>(Be N s t u d (fun l g=>(Dm N m b false e l g false d (fun y=>(cond (decide (y<0)) (r0 0 false []) (cond ((decide (0≤((b:Nat):Int)))&&((decide (((b:Nat):Int)≤((b:Nat):Int)))&&((decide (((b:Nat):Int)≤140737488355328))&&(decide ((((b:Nat):Int)*((4:Nat):Int))≤140737488355328))))) (q0 l g b m 0 ((b:Nat):Int) 0 (List.replicate b (.int .u32 0))) none))))))))
def T4:=(Al (fun (N:Nat) (p:LA) (q:Nat) (r e:Bool) (s:LA) (t:Nat) (u d:Bool) (r0:Nat→Bool→LA→O R)=>(HN N r0 (fun l g b m i o c f=>(I8 N r0 l g d b m e N i o c f)) p q r e s t u d))).1
theorem FC (p q r e s t u d r0):(@T4 R N p q r e s t u d r0)=(HN N r0 (fun l g b m i o c f=>(I8 N r0 l g d b m e N i o c f)) p q r e s t u d):=by rw[T4,(Al _).2]
def dw:Hints:={ H:=(hS hL (hS hL (hS hL (hS hL (hS hL (hS (hS hL (hS (hP [1,6,7,22,23,24] hL) hL)) hL)))))),nils:=[(4,1)],modes:=[(2,1),(0,0)] }
def jV:Gn:=[(214,C5 N),(131,K5 N)]
def oZ (F:KF R):=Rh Tryz.f136 dw (jV N) [] N F
def R8 (F:KF R):Nat→Bool→LA→O R:=(fun z aa ab=>F (.tup [(.own 300000 0 z),(.bool aa)]) (hq [(bQ 1 ab)]))
def o0 (l:LA) (g:Nat) (d:Bool) (b:Nat) (m:LA) (e:Bool) (i o c:Int) (f:LA):St:=⟨[(1,(.imm l g 1 false d)),(6,(.own 300000 0 b)),(7,(.int .u64 i)),(22,(.imm m b 1 false e)),(23,(iv o)),(24,(iv c))],(hq [(bQ 1 f)])⟩
def o4 (F:KF R):=oZ N F [1,1,1,1,1,0,1,0] []
theorem HO (F:KF R) (l:LA) (g:Nat) (d:Bool) (b:Nat) (m:LA) (e:Bool):∀ (n:Nat) (i o c:Int) (f:LA),Ax (o4 N F) n (o0 l g d b m e i o c f)=(I8 N (R8 F) l g d b m e n i o c f)
 | 0,_,_,_,_=>by kernel_rfl
 | n+1,i,o,c,f=>Eq.trans (by kernel_rfl) (Ee (Oc N (R8 F) l g d b m e · i o c f) (funext fun i=>funext fun o=>funext fun c=>funext fun f=>(HO F l g d b m e n i o c f)):_)
theorem dx (p:LA) (q:Nat) (r e:Bool) (s:LA) (t:Nat) (u d:Bool) (F:KF R):Dj (jV N) dw N 136 [(.imm p q 1 r e),(.imm s t 1 u d)] [] F=(T4 N p q r e s t u d (R8 F)):=by
 rw[FC]
 exact Eq.trans (by kernel_rfl) (Ee (HN N (R8 F) · p q r e s t u d) (funext fun l=>funext fun g=>funext fun b=>funext fun m=>funext fun i=>funext fun o=>funext fun c=>funext fun f=>(Ar ..).trans (HO N F l g d b m e N i o c f)):_)
def WA (a:LA) (h:Ai) (k:KF R):O R :=
 match a,h with
 | [(.imm p q 1 r e),(.imm s t 1 u d)],[]=>(T4 N p q r e s t u d (R8 k))
 | _,_=>none
theorem dy:Ao N 136 @WA:=by
 intro R Q a h k j;unfold WA;split;exact Ay (dx ..) (dx ..) ⟨C6 N,K6 N,trivial⟩;exact A0
def dz:=Az (dy N)
def eA:=Dh (dy N)
def HP (b:LA) (d:Bool) (c:LA) (e:Bool) (r0:Bool→Nat→LA→O R):O R :=
 (Pc b fun o=>(Pc c fun p=>(cond (o==p) (Pc b fun q=>(Lq 1 (b.drop 1) fun r s=>(Lq 1 (c.drop 1) fun t u=>(MN N r s false d t u false e (fun f g=>(Ei N q f g (fun v=>(r0 v f g)))))))) (Lq 1 (b.drop 1) fun w x=>(Lq 1 (c.drop 1) fun y z=>(T4 N w x false d y z false e (fun i aa l=>(cond aa (Pc b fun ab=>(Ei N ab i l (fun ac=>(r0 ac i l)))) (Lq 1 (c.drop 1) fun ad ae=>(Lq 1 (b.drop 1) fun af ag=>(T4 N ad ae false e af ag false d (fun m am n=>(Pc c fun ah=>(Ei N ah m n (fun ai=>(r0 ai m n))))))))))))))))
def WB:=(Al (@HP R)).1
theorem T5:@WB R=@HP R:=(Al _).2
def ql:Gn:=[(135,oX N),(132,Js N),(136,dz N)]
def eB (F:KF R):Bool→Nat→LA→O R:=(fun aj ak al=>F (.agg [(.bool aj),(.own 300000 0 ak)]) (hq [(bQ 1 al)]))
theorem eC (b:LA) (d:Bool) (c:LA) (e:Bool) (F:KF R):Dj (ql N) H2 N 144 [(.pagg b d),(.pagg c e)] [] F=(WB N b d c e (eB F)):=by
 rw[T5]
 kernel_rfl
def WC (a:LA) (h:Ai) (k:KF R):O R :=
 match a,h with
 | [(.pagg b d),(.pagg c e)],[]=>(WB N b d c e (eB k))
 | _,_=>none
theorem eD:Ao N 144 @WC:=by
 intro R Q a h k j;unfold WC;split;exact Ay (eC ..) (eC ..) ⟨oY N,Jt N,eA N,trivial⟩;exact A0
def o5:=Az (eD N)
def o6:=Dh (eD N)
def BH (N:Nat) (r0:LA→O R) (k0:O R):O R :=
 (r0 [])
def Jx (r0:LA→O R):Nat→O R
 | 0=>none
 | n+1=>(BH N r0 (Jx r0 n))
def T6 (N:Nat) (r0:LA→O R) (q0:O R):O R :=
 q0
def No:=(Al (fun (N:Nat) (r0:LA→O R)=>(T6 N r0 (Jx N r0 N)))).1
theorem BI (r0):(@No R N r0)=(T6 N r0 (Jx N r0 N)):=by rw[No,(Al _).2]
def gN (F:KF R):=Rh Tryz.f214 OY [] [] N F
def Jy (F:KF R):LA→O R:=(fun b=>F (.own 300000 0 0) (hq [(bQ 1 b)]))
def gO:St:=⟨[(0,.nsl),(3,(iv 0))],[]⟩
def gP (F:KF R):=gN N F [1,1,0,0] []
theorem Vm (F:KF R):∀ (n:Nat) ,Ax (gP N F) n gO=(Jx N (Jy F) n)
 | 0=>by kernel_rfl
 | n+1=>Eq.trans (by kernel_rfl) (Ee (BH N (Jy F) ·) (Vm F n):_)
theorem HQ (F:KF R):Dj [] OY N 214 [.nsl] [] F=(No N (Jy F)):=by
 rw[BI]
 exact Eq.trans (by kernel_rfl) (Ee (T6 N (Jy F) ·) ((Ar ..).trans (Vm N F N)):_)
def Od (N:Nat) (r0:Int→O R) (e:LA) (d:Nat) (b:Bool) (f:LA) (k0:Int→O R) (c:Int):O R :=
 (cond (decide (c≥0)) (cond (Am c d) (Bi .u32 (e.drop ((c.toNat)*1)) fun m=>(cond (Am c 0) (Bi .u32 (f.drop (0+((c.toNat)*1))) fun o=>(cond (decide (m<o)) (r0 (-1)) (cond (Am c d) (Bi .u32 (e.drop ((c.toNat)*1)) fun p=>(cond (Am c 0) (Bi .u32 (f.drop (0+((c.toNat)*1))) fun q=>(cond (decide (p>q)) (r0 1) (k0 (wrap .i64 (c - 1))))) none)) none))) none)) none) (r0 0))
def H8 (r0:Int→O R) (e:LA) (d:Nat) (b:Bool) (f:LA):Nat→Int→O R
 | 0,_=>none
 | n+1,c=>(Od N r0 e d b f (H8 r0 e d b f n) c)
def Ps (r0:Int→O R) (q0:LA→Nat→LA→Int→O R) (g:LA) (i:Nat) (l b:Bool):O R :=
 (Be N g i l b (fun e d=>(No N (fun f=>(cond (((d:Nat):Int) != 0) (cond (decide (((d:Nat):Int)<0)) (r0 (-1)) (r0 1)) (q0 e d f (wrap .i64 (((d:Nat):Int) - 1))))))))
def Is:=(Al (fun (N:Nat) (g:LA) (i:Nat) (l b:Bool) (r0:Int→O R)=>(Ps N r0 (fun e d f c=>(H8 N r0 e d b f N c)) g i l b))).1
theorem Xd (g i l b r0):(@Is R N g i l b r0)=(Ps N r0 (fun e d f c=>(H8 N r0 e d b f N c)) g i l b):=by rw[Is,(Al _).2]
def Gr (a:LA) (h:Ai) (k:KF R):O R :=
 match a,h with
 | [(.imm g i 1 l b)],[]=>(Be N g i l b (Ft b k))
 | [.nsl],[]=>(No N (Jy k))
 | _,_=>none
theorem G8:Ao N 214 @Gr:=by
 intro R Q a h k j;unfold Gr;split;exact Ay (Hv ..) (Hv ..) trivial;exact Ay (HQ ..) (HQ ..) trivial;exact A0
def Oe:=Az (G8 N)
def Of:=Dh (G8 N)
def HR:Gn:=[(214,Oe N)]
def cF (F:KF R):=Rh Tryz.f131 db (HR N) [] N F
def H9 (F:KF R):Int→O R:=(fun r=>F (iv r) [])
def cG (e:LA) (d:Nat) (b:Bool) (f:LA) (c:Int):St:=⟨[(0,(.imm e d 1 false b)),(1,(.own 300000 0 0)),(5,(iv c))],(hq [(bQ 1 f)])⟩
def cH (F:KF R):=cF N F [1,1,1,0,1,0] []
theorem R9 (F:KF R) (e:LA) (d:Nat) (b:Bool) (f:LA):∀ (n:Nat) (c:Int),Ax (cH N F) n (cG e d b f c)=(H8 N (H9 F) e d b f n c)
 | 0,_=>by kernel_rfl
 | n+1,c=>Eq.trans (by kernel_rfl) (Ee (Od N (H9 F) e d b f · c) (funext fun c=>(R9 F e d b f n c)):_)
theorem BJ (g:LA) (i:Nat) (l b:Bool) (F:KF R):Dj (HR N) db N 131 [(.imm g i 1 l b),.nsl] [] F=(Is N g i l b (H9 F)):=by
 rw[Xd]
 exact Eq.trans (by kernel_rfl) (Ee (Ps N (H9 F) · g i l b) (funext fun e=>funext fun d=>funext fun f=>funext fun c=>(Ar ..).trans (R9 N F e d b f N c)):_)
def Xe (a:LA) (h:Ai) (k:KF R):O R :=
 match a,h with
 | [(.imm g i 1 l b),.nsl],[]=>(Is N g i l b (H9 k))
 | _,_=>none
theorem BK:Ao N 131 @Xe:=by
 intro R Q a h k j;unfold Xe;split;exact Ay (BJ ..) (BJ ..) ⟨Of N,trivial⟩;exact A0
def BL:=Az (BK N)
def BM:=Dh (BK N)
def WD (b:LA) (c:Bool) (r0:Int→O R):O R :=
 (Lq 1 (b.drop 1) fun d e=>(Is N d e false c (fun f=>(cond (f==0) (r0 0) (Pc b fun g=>(cond g (r0 (-1)) (r0 1)))))))
def T7:=(Al (@WD R)).1
theorem PA:@T7 R=@WD R:=(Al _).2
def o7:Gn:=[(131,BL N)]
def WE (F:KF R):Int→O R:=(fun i=>F (iv i) [])
theorem WF (b:LA) (c:Bool) (F:KF R):Dj (o7 N) H2 N 125 [(.pagg b c)] [] F=(T7 N b c (WE F)):=by
 rw[PA]
 kernel_rfl
def PB (a:LA) (h:Ai) (k:KF R):O R :=
 match a,h with
 | [(.pagg b c)],[]=>(T7 N b c (WE k))
 | _,_=>none
theorem WG:Ao N 125 @PB:=by
 intro R Q a h k j;unfold PB;split;exact Ay (WF ..) (WF ..) ⟨BM N,trivial⟩;exact A0
def WH:=Az (WG N)
def WI:=Dh (WG N)
def Fd (N:Nat) (r0:Int→O R) (c:LA) (b:Nat) (d e:Bool) (k0:Int→Int→Int→O R) (g i f:Int):O R :=
 (cond (decide (f<i)) (cond (Am f b) (Bi .u32 (c.drop ((f.toNat)*1)) fun l=>(cond (decide ((wrap .i64 (32*f))<0)) none (k0 (I6 .u64 g (wrap .u64 ((wrap .u64 l)*2 ^ (min ((wrap .i64 (32*f)).toNat) 64)))) i (wrap .i64 (f+1))))) none) (r0 g))
def Et (r0:Int→O R) (c:LA) (b:Nat) (d e:Bool):Nat→Int→Int→Int→O R
 | 0,_,_,_=>none
 | n+1,g,i,f=>(Fd N r0 c b d e (Et r0 c b d e n) g i f)
def HS (N:Nat) (r0:Int→O R) (q0:Int→Int→Int→O R) (c:LA) (b:Nat) (d e:Bool):O R :=
 (q0 0 ((b:Nat):Int) 0)
def In:=(Al (fun (N:Nat) (c:LA) (b:Nat) (d e:Bool) (r0:Int→O R)=>(HS N r0 (fun g i f=>(Et N r0 c b d e N g i f)) c b d e))).1
theorem PC (c b d e r0):(@In R N c b d e r0)=(HS N r0 (fun g i f=>(Et N r0 c b d e N g i f)) c b d e):=by rw[In,(Al _).2]
def WJ:Hints:={ H:=(hS hL (hS hL (hS (hS hL (hS (hP [3,6,7,8] hL) hL)) hL))) }
def l_ (F:KF R):=Rh Tryz.f215 WJ [] [] N F
def Og (F:KF R):Int→O R:=(fun m=>F (.int .u64 m) [])
def lc (c:LA) (b:Nat) (d e:Bool) (g i f:Int):St:=⟨[(3,(.int .u64 g)),(6,(.imm c b 1 d e)),(7,(iv i)),(8,(iv f))],[]⟩
def ld (F:KF R):=l_ N F [1,1,0,1,0] []
theorem BN (F:KF R) (c:LA) (b:Nat) (d e:Bool):∀ (n:Nat) (g i f:Int),Ax (ld N F) n (lc c b d e g i f)=(Et N (Og F) c b d e n g i f)
 | 0,_,_,_=>by kernel_rfl
 | n+1,g,i,f=>Eq.trans (by kernel_rfl) (Ee (Fd N (Og F) c b d e · g i f) (funext fun g=>funext fun i=>funext fun f=>(BN F c b d e n g i f)):_)
theorem WK (c:LA) (b:Nat) (d e:Bool) (F:KF R):Dj [] WJ N 215 [(.imm c b 1 d e)] [] F=(In N c b d e (Og F)):=by
 rw[PC]
 exact Eq.trans (by kernel_rfl) (Ee (HS N (Og F) · c b d e) (funext fun g=>funext fun i=>funext fun f=>(Ar ..).trans (BN N F c b d e N g i f)):_)
def PD (a:LA) (h:Ai) (k:KF R):O R :=
 match a,h with
 | [(.imm c b 1 d e)],[]=>(In N c b d e (Og k))
 | _,_=>none
theorem WL:Ao N 215 @PD:=by
 intro R Q a h k j;unfold PD;split;exact Ay (WK ..) (WK ..) trivial;exact A0
def FD:=Az (WL N)
def FE:=Dh (WL N)
def FF (c:LA) (d:Nat) (e b:Bool) (r0:Int→Bool→O R):O R :=
 (Be N c d e b (fun g f=>(cond (decide (((f:Nat):Int)>2)) (r0 0 false) (In N g f false b (fun i=>(r0 i true))))))
def Np:=(Al (@FF R)).1
theorem BO:@Np R=@FF R:=(Al _).2
def jW:Gn:=[(214,Ju N),(215,FD N)]
def HT (F:KF R):Int→Bool→O R:=(fun l m=>F (.tup [(.int .u64 l),(.bool m)]) [])
theorem HU (c:LA) (d:Nat) (e b:Bool) (F:KF R):Dj (jW N) H2 N 210 [(.imm c d 1 e b)] [] F=(Np N c d e b (HT F)):=by
 rw[BO]
 kernel_rfl
def BP (a:LA) (h:Ai) (k:KF R):O R :=
 match a,h with
 | [(.imm c d 1 e b)],[]=>(Np N c d e b (HT k))
 | _,_=>none
theorem HV:Ao N 210 @BP:=by
 intro R Q a h k j;unfold BP;split;exact Ay (HU ..) (HU ..) ⟨Jv N,FE N,trivial⟩;exact A0
def gQ:=Az (HV N)
def gR:=Dh (HV N)
def Cz (N:Nat) (r0:Int→Int→Bool→O R) (e d:Int) (c:Bool) (b:LA) (f:Bool):O R :=
 (cond f (r0 0 0 false) (cond (d==0) (r0 0 1 true) (Pc b fun g=>(cond g (r0 (wrap .i64 ((0:Int) - (wrap .i64 e))) (wrap .i64 d) true) (r0 (wrap .i64 e) (wrap .i64 d) true)))))
def Nq (r0:Int→Int→Bool→O R) (q0:Int→Int→Bool→O R) (b:LA) (c:Bool):O R :=
 (Lq 1 (b.drop 1) fun i l=>(Np N i l false c (fun e m=>(Lq 1 (b.drop 2) fun n o=>(Np N n o false c (fun d p=>(cond ((!m)==false) (cond ((cond false true (!p))==false) (cond ((cond false true (decide (e≥2147483648)))==false) (q0 e d (cond false true (decide (d≥2147483648)))) (q0 e d true)) (q0 e d true)) (q0 e d true))))))))
def Ia:=(Al (fun (N:Nat) (b:LA) (c:Bool) (r0:Int→Int→Bool→O R)=>(Nq N r0 (fun e d f=>(Cz N r0 e d c b f)) b c))).1
theorem M5 (b c r0):(@Ia R N b c r0)=(Nq N r0 (fun e d f=>(Cz N r0 e d c b f)) b c):=by rw[Ia,(Al _).2]
def PE:Hints:={ H:=(hS hL (hS hL (hS hL (hS (hS (hJ [1,5,6,21] hL hL) hL) hL)))) }
def WM:Gn:=[(210,gQ N)]
def jX (F:KF R):=Rh Tryz.f127 PE (WM N) [] N F
def Pt (F:KF R):Int→Int→Bool→O R:=(fun q r s=>F (.tup [(iv q),(iv r),(.bool s)]) [])
def jY (e d:Int) (c:Bool) (b:LA) (f:Bool):St:=⟨[(1,(op 0)),(5,(.int .u64 e)),(6,(.int .u64 d)),(21,(.bool f))],(hq [(bP c 0 b)])⟩
def jZ (F:KF R):=jX N F [1,1,1,0,0,1] []
theorem WN (F:KF R) (e d:Int) (c:Bool) (b:LA):∀ (f:Bool),C7 (jZ N F) (jY e d c b f)=(Cz N (Pt F) e d c b f):=by
 intro f
 kernel_rfl
theorem PF (b:LA) (c:Bool) (F:KF R):Dj (WM N) PE N 127 [(.pagg b c)] [] F=(Ia N b c (Pt F)):=by
 rw[M5]
 exact Eq.trans (by kernel_rfl) (Ee (Nq N (Pt F) · b c) (funext fun e=>funext fun d=>funext fun f=>(A8 ..).trans (WN N F e d c b f)):_)
def HW (a:LA) (h:Ai) (k:KF R):O R :=
 match a,h with
 | [(.pagg b c)],[]=>(Ia N b c (Pt k))
 | _,_=>none
theorem PG:Ao N 127 @HW:=by
 intro R Q a h k j;unfold HW;split;exact Ay (PF ..) (PF ..) ⟨gR N,trivial⟩;exact A0
def PH:=Az (PG N)
def PI:=Dh (PG N)
def F7 (r0:LA→O R) (b c d:Int) (k1:Int→Int→O R) (e f:Int):O R :=
 (cond (f != 0) (cond (f==0) none (k1 f (Int.tmod e f))) (cond (e==0) none (A7 N (wrap .u64 (Int.tdiv d e)) (fun g l=>(cond (e==0) none (A7 N (wrap .u64 (Int.tdiv (wrap .u64 c) e)) (fun i m=>(r0 [(.bool (decide (b<0))),(.imm (l.take (g*1)) g 1 false false),(.imm (m.take (i*1)) i 1 false false)]))))))))
def Bu (r0:LA→O R) (b c d:Int):Nat→Int→Int→O R
 | 0,_,_=>none
 | n+1,e,f=>(F7 N r0 b c d (Bu r0 b c d n) e f)
def Mk (N:Nat) (r0:LA→O R) (b c:Int) (q1:Int→Int→O R) (d:Int):O R :=
 (q1 (wrap .u64 c) d)
def Jz (r0:LA→O R) (b c:Int) (d:Int):O R:=(Mk N r0 b c (fun e f=>(Bu N r0 b c d N e f)) d)
def M6 (N:Nat) (r0:LA→O R) (q0:Int→O R) (b c:Int):O R :=
 (cond (decide (b<0)) (q0 (wrap .u64 ((0:Int) - (wrap .u64 b)))) (q0 (wrap .u64 b)))
def Fe:=(Al (fun (N:Nat) (b c:Int) (r0:LA→O R)=>(M6 N r0 (fun d=>(Jz N r0 b c d)) b c))).1
theorem Vn (b c r0):(@Fe R N b c r0)=(M6 N r0 (fun d=>(Jz N r0 b c d)) b c):=by rw[Fe,(Al _).2]
def Xf:Hints:={ H:=(hS hL (hS hL (hJ [0,1,4,5] hL (hS hL (hS (hS (hP [0,1,4,5,6,7] hL) hL) hL))))),modes:=[(3,0)] }
def BQ:Gn:=[(133,Ds N)]
def Xg (F:KF R):=Rh Tryz.f128 Xf (BQ N) [] N F
def D0 (F:KF R):LA→O R:=(fun o=>F (.pagg o false) [])
def WO (b c d e f:Int):St:=⟨[(0,(iv b)),(1,(iv c)),(4,(op 0)),(5,(.int .u64 d)),(6,(.int .u64 e)),(7,(.int .u64 f))],(hq [(bN 0 [(.bool false),.nsl,.nsl])])⟩
def WP (F:KF R):=Xg N F [1,1,1,1,0,0] []
def WQ (b c d:Int):St:=⟨[(0,(iv b)),(1,(iv c)),(4,(op 0)),(5,(.int .u64 d))],(hq [(bN 0 [(.bool false),.nsl,.nsl])])⟩
def WR (F:KF R):=Xg N F [1,1,1] []
theorem Pu (F:KF R) (b c d:Int):∀ (n:Nat) (e f:Int),Ax (WP N F) n (WO b c d e f)=(Bu N (D0 F) b c d n e f)
 | 0,_,_=>by kernel_rfl
 | n+1,e,f=>Eq.trans (by kernel_rfl) (Ee (F7 N (D0 F) b c d · e f) (funext fun e=>funext fun f=>(Pu F b c d n e f)):_)
theorem HX (F:KF R) (b c:Int):∀ (d:Int),C7 (WR N F) (WQ b c d)=(Jz N (D0 F) b c d):=by
 intro d
 exact Eq.trans (by kernel_rfl) (Ee (Mk N (D0 F) b c · d) (funext fun e=>funext fun f=>(Ar ..).trans (Pu N F b c d N e f)):_)
theorem Xh (b c:Int) (F:KF R):Dj (BQ N) Xf N 128 [(iv b),(iv c)] [] F=(Fe N b c (D0 F)):=by
 rw[Vn]
 exact Eq.trans (by kernel_rfl) (Ee (M6 N (D0 F) · b c) (funext fun d=>(A8 ..).trans (HX N F b c d)):_)
def Vo (a:LA) (h:Ai) (k:KF R):O R :=
 match a,h with
 | [(.int .i64 b),(.int .i64 c)],[]=>(Fe N b c (D0 k))
 | _,_=>none
theorem Xi:Ao N 128 @Vo:=by
 intro R Q a h k j;unfold Vo;split;exact Ay (Xh ..) (Xh ..) ⟨Dt N,trivial⟩;exact A0
def Xj:=Az (Xi N)
def Xk:=Dh (Xi N)
def Z6 (b:LA) (c:Bool) (r0:LA→Bool→LA→Nat→Bool→O R):O R :=
 (Lq 1 (b.drop 2) fun d e=>(Is N d e false c (fun f=>(cond (f==0) (r0 [(.bool false),.nsl] false [(.int .u32 1)] 1 false) (cond (Nat.ble 2 (b.length)) (Lq 1 (b.drop 2) fun g i=>(cond ((Nat.beq 0 0)&&((Nat.beq ((b.take 2).length) 2)&&(Nat.beq 2 2))) (cond (Nat.ble 2 ((b.take 2).length)) (r0 ((b.take 2).take 2) c g i c) none) none)) none)))))
def L7:=(Al (@Z6 R)).1
theorem T8:@L7 R=@Z6 R:=(Al _).2
def j0:Hints:={ H:=hL,nils:=[(3,1)],modes:=[(3,0),(1,1)] }
def lf:Gn:=[(131,BL N)]
def PJ (F:KF R):LA→Bool→LA→Nat→Bool→O R:=(fun l m n o p=>F (.tup [(.pagg l m),(.imm n o 1 false p)]) [])
theorem PK (b:LA) (c:Bool) (F:KF R):Dj (lf N) j0 N 130 [(.pagg b c)] [] F=(L7 N b c (PJ F)):=by
 rw[T8]
 kernel_rfl
def HY (a:LA) (h:Ai) (k:KF R):O R :=
 match a,h with
 | [(.pagg b c)],[]=>(L7 N b c (PJ k))
 | _,_=>none
theorem PL:Ao N 130 @HY:=by
 intro R Q a h k j;unfold HY;split;exact Ay (PK ..) (PK ..) ⟨BM N,trivial⟩;exact A0
def Xl:=Az (PL N)
def Xm:=Dh (PL N)
def WS (b:LA) (c:Bool) (r0:Bool→Nat→LA→O R):O R :=
 (Pc b fun f=>(Lq 1 (b.drop 1) fun g i=>(Lu N g i false c (fun d e=>(Ei N f d e (fun l=>(r0 l d e)))))))
def HZ:=(Al (@WS R)).1
theorem PM:@HZ R=@WS R:=(Al _).2
def o8:Gn:=[(212,N9 N),(132,Js N)]
def WT (F:KF R):Bool→Nat→LA→O R:=(fun m n o=>F (.agg [(.bool m),(.own 300000 0 n)]) (hq [(bQ 1 o)]))
theorem WU (b:LA) (c:Bool) (F:KF R):Dj (o8 N) H2 N 211 [(.pagg b c)] [] F=(HZ N b c (WT F)):=by
 rw[PM]
 kernel_rfl
def PN (a:LA) (h:Ai) (k:KF R):O R :=
 match a,h with
 | [(.pagg b c)],[]=>(HZ N b c (WT k))
 | _,_=>none
theorem WV:Ao N 211 @PN:=by
 intro R Q a h k j;unfold PN;split;exact Ay (WU ..) (WU ..) ⟨Oa N,Jt N,trivial⟩;exact A0
def lh:=Az (WV N)
def li:=Dh (WV N)
end
end Gx

namespace Gx
open Go Go.Proofs
section
variable {R:Type}
def fit (k N:Nat):Prop:=100*k+1000≤N∧k≤1000000000
theorem fit.le {j k N:Nat} (h:fit k N) (b:j≤k):fit j N:=⟨by have:=h.1;omega,by have:=h.2;omega⟩
theorem ct (x y:O R):cond true x y=x:=rfl
theorem cf (x y:O R):cond false x y=y:=rfl
theorem o_ (x y:Bool):cond true x y=x:=rfl
theorem uO (x y:Bool):cond false x y=y:=rfl
theorem sg (c:Nat):((decide (((c+1:Nat):Int)>(0:Int)))==true)=true:=by simp
theorem Wj {j n:Nat} (h:j<n):decide ((j:Int)<(n:Int))=true:=by simp;omega
theorem FG {j n:Nat} (h:n≤j):decide ((j:Int)<(n:Int))=false:=by simp;omega
theorem wS {j:Nat} (h:j≤1000000000000):IntKind.wrap .i64 ((j:Int)+1)=((j+1:Nat):Int):=by rw[i64 (by omega)];omega
theorem wP {j:Nat} (h:j≤1000000000000):IntKind.wrap .i64 (((j+1:Nat):Int) - 1)=(j:Int):=by rw[i64 (by omega)];omega
theorem wA {j k:Nat} (h:j+k≤1000000000000):IntKind.wrap .i64 ((j:Int)+(k:Int))=((j+k:Nat):Int):=by rw[i64 (by omega)];omega
theorem Wk {l:List Nat} {j:Nat} (h:j<l.length) {f:Int→O R}:Bi .u32 (List.drop ((Int.toNat (j:Int))*1) (Aa l)) f=f (l[j]:Nat):=by
 rw[Int.toNat_natCast,Nat.mul_one,jQ h]
theorem H_ {l:List Nat} {j:Nat} (h:j<l.length) {f:Int→O R}:Bi .u32 (List.drop (0+((Int.toNat (j:Int))*1)) (Aa l)) f=f (l[j]:Nat):=by
 rw[Nat.zero_add,Wk h]
theorem sM {c a:Nat} (h:c≤a):((decide ((0:Int)≤(0:Int)))&&((decide ((0:Int)≤(c:Int)))&&((decide ((c:Int)≤(a:Int)))&&(decide ((a:Int)≤(a:Int))))))=true:=by
 simp;omega
theorem pu {n:Nat} (h:n≤1000000000000):((decide ((0:Int)≤(n:Int)))&&((decide ((n:Int)≤(n:Int)))&&((decide ((n:Int)≤(140737488355328:Int)))&&(decide (((n:Int)*((4:Nat):Int))≤(140737488355328:Int))))))=true:=by
 simp;omega
theorem d5 {x:Nat} {m:List Nat} (h:x<m.length):((Nat.beq 1 1)&&((Nat.ble ((0+((Int.toNat (x:Int))*1))+1) (List.length (Aa m)))&&(!false)))=true:=by
 rw[A5,Int.toNat_natCast];simp;omega
theorem Xn {x v:Nat} {m:List Nat}:List.set (Aa m) (0+((Int.toNat (x:Int))*1)) (.int .u32 (v:Int))=Aa (m.set x v):=by
 rw[Int.toNat_natCast,Nat.mul_one,Nat.zero_add,HB]
theorem j1 {l:List Nat} (h:Ae l):l.take (Af (val l)).length=Af (val l):=by
 obtain⟨b,c⟩:=A1 h
 rw[congrArg (List.take (Af (val l)).length) b,List.take_left]
theorem Gh {l:List Nat} (h:Ae l):List.take ((Af (val l)).length*1) (Aa l)=Aa (Af (val l)):=by rw[Nat.mul_one,Kz,j1 h]
theorem An {l:List Nat} {c:Nat} (h:c<l.length):val (l.take (c+1))=val (l.take c)+4294967296 ^ c*l[c]:=by
 rw[List.take_succ_eq_append_getElem h,l8,List.length_take,Nat.min_eq_left (by omega)]
theorem gS {l:List Nat} {c:Nat} (b:Ae l) (h:c<l.length) (d:l[c]≠0):Af (val (l.take (c+1)))=l.take (c+1):=by
 apply sf (Bh b _)
 intro e
 rw[List.getLast_eq_getElem]
 simp only[List.length_take,Nat.min_eq_left (show c+1≤l.length by omega),Nat.add_sub_cancel,List.getElem_take]
 exact d
theorem WW {N:Nat} {l:List Nat} {K:Nat→O R} (e:Ae l) (i:l.length≤1000000000000):∀ (c b:Nat),c≤l.length→c<b →
  K0 N K l.length (Aa l) b (c:Int)=K (Af (val (l.take c))).length
 | 0,b+1,f,_=>by
  rw[K0];unfold Tz
  rw[show decide (((0:Nat):Int)>0)=false by simp]
  rw[show((false:Bool)==true)=false by rfl,cf,sM (by omega),ct,Int.toNat_natCast];rfl
 | c+1,b+1,f,j=>by
  rw[K0];unfold Tz
  rw[sg,ct,wP (by omega),Aj (by omega),ct,H_ (by omega),o_,sM (by omega),ct,WW e i c b (by omega) (by omega),Int.toNat_natCast]
  by_cases d:l[c]=0
  ·rw[An (by omega),d];simp
  ·rw[gS e (by omega) d,List.length_take,Nat.min_eq_left f]
   rw[show(((l[c]:Nat):Int)==0)=false by simp;exact d,cf]
theorem Sa {N:Nat} {l:List Nat} {n:Nat} {K:Nat→O R} (c:n=l.length) (d:Ae l) (b:fit l.length N):K1 N n (Aa l) K=K (Af (val l)).length:=by
 subst c
 have e:=b.1;have f:=b.2
 rw[EZ];unfold HD
 dsimp only
 rw[WW d (by omega) l.length N (Nat.le_refl _) (by omega),List.take_length]
theorem eE {N:Nat} {l:List Nat} {t o:Bool} {K:LA→Nat→O R} (e:Ae l) (i:l.length≤1000000000000):∀ (c b:Nat),c≤l.length→c<b →
  Fs N K (Aa l) l.length t o b (c:Int)=K (Aa (Af (val (l.take c)))) (Af (val (l.take c))).length
 | 0,b+1,f,_=>by
  rw[Fs];unfold Lt
  rw[show decide (((0:Nat):Int)>0)=false by simp]
  rw[show((false:Bool)==true)=false by rfl,cf,sM (by omega),ct,Int.toNat_natCast];rfl
 | c+1,b+1,f,j=>by
  rw[Fs];unfold Lt
  rw[sg,ct,wP (by omega),Aj (by omega),ct,Wk (by omega),o_,sM (by omega),ct,eE e i c b (by omega) (by omega),Int.toNat_natCast,Nat.mul_one,Kz]
  by_cases d:l[c]=0
  ·rw[An (by omega),d];simp
  ·rw[gS e (by omega) d,List.length_take,Nat.min_eq_left f]
   rw[show(((l[c]:Nat):Int)==0)=false by simp;exact d,cf]
theorem A9 {N:Nat} {l:List Nat} {n:Nat} {t o:Bool} {K:LA→Nat→O R} (c:n=l.length) (d:Ae l) (b:fit l.length N):Be N (Aa l) n t o K=K (Aa (Af (val l))) (Af (val l)).length:=by
 subst c
 have e:=b.1;have f:=b.2
 rw[BF];unfold T0
 dsimp only
 rw[eE d (by omega) l.length N (Nat.le_refl _) (by omega),List.take_length]
theorem oa {N:Nat} {K:LA→O R} (hN:1≤N):No N K=K []:=by
 rw[BI];unfold T6
 cases N with
 | zero=>omega
 | succ N=>rw[Jx];rfl
end
end Gx

namespace Gx
open Go Go.Proofs
section
variable {R:Type}
def Fc (x y:Nat):Int:=if x<y then -1 else if y<x then 1 else 0
theorem Sb (x:Nat):Fc x x=0:=by unfold Fc;simp
theorem T9 {a b:Nat} (h:(Af a).length<(Af b).length):a<b:=Nat.lt_of_not_le fun c=>by
 have:=A6 c;omega
theorem TO {u w p q P:Nat} (b:u<P) (c:w<P) (h:p<q):u+P*p<w+P*q:=by
 have:P*(p+1)≤P*q:=Nat.mul_le_mul_left _ h
 rw[Nat.mul_add] at this
 omega
theorem eF {N:Nat} {x y:List Nat} {t u:Bool} {K:Int→O R} (e:Ae x) (f:Ae y) (k:x.length≤1000000000000) (l:x.length=y.length):∀ (i b:Nat),i≤x.length→i<b →
  Cq N K (Aa x) x.length t (Aa y) y.length u b ((i:Int) - 1)=K (Fc (val (x.take i)) (val (y.take i)))
 | 0,b+1,_,_=>by
  rw[Cq];unfold Gq
  rw[show decide ((((0:Nat):Int) - 1)≥0)=false by simp,cf]
  simp[Sb]
 | i+1,b+1,m,n=>by
  rw[Cq];unfold Gq
  rw[show(((i+1:Nat):Int) - 1)=(i:Int) by omega,show decide ((i:Int)≥0)=true by simp,ct,Aj (by omega),ct,Wk (by omega),Aj (by omega),ct,Wk (by omega),ct,Wk (by omega),ct,Wk (by omega),i64 (by omega),
   eF e f k l i b (by omega) (by omega),An (by omega),An (by omega)]
  have c:=Bd (Bh e i)
  have d:=Bd (Bh f i)
  rw[List.length_take,Nat.min_eq_left (by omega)] at c d
  by_cases c1:x[i]<y[i]
  ·have:=TO c d c1
   rw[show decide (((x[i]:Nat):Int)<((y[i]:Nat):Int))=true by simp;exact c1,ct]
   unfold Fc;rw[if_pos this]
  ·by_cases j:y[i]<x[i]
   ·have:=TO d c j
    rw[show decide (((x[i]:Nat):Int)<((y[i]:Nat):Int))=false by simp;omega,cf,show decide (((x[i]:Nat):Int)>((y[i]:Nat):Int))=true by simp;exact j,ct]
    unfold Fc;rw[if_neg (by omega),if_pos this]
   ·have:x[i]=y[i]:=by omega
    rw[show decide (((x[i]:Nat):Int)<((y[i]:Nat):Int))=false by simp;omega,cf,show decide (((x[i]:Nat):Int)>((y[i]:Nat):Int))=false by simp;omega,cf,this]
    unfold Fc
    congr 1
    by_cases a1:val (x.take i)<val (y.take i)
    ·rw[if_pos a1,if_pos (by omega)]
    ·by_cases a2:val (y.take i)<val (x.take i)
     ·rw[if_neg a1,if_pos a2,if_neg (by omega),if_pos (by omega)]
     ·rw[if_neg a1,if_neg a2,if_neg (by omega),if_neg (by omega)]
theorem Z7 {N:Nat} {a b:List Nat} {n m:Nat} {t o t' o':Bool} {K:Int→O R} (i:n=a.length) (j:m=b.length) (d:Ae a) (e:Ae b) (c:fit (a.length+b.length) N) :
  Dm N (Aa a) n t o (Aa b) m t' o' K=K (Fc (val a) (val b)):=by
 subst i j
 have l:=c.1;have q:=c.2
 rw[Pq];unfold Jw
 dsimp only
 rw[A9 rfl d (c.le (by omega)),A9 rfl e (c.le (by omega))]
 have la:=(A1 d).2
 have lb:=(A1 e).2
 by_cases f:(Af (val a)).length=(Af (val b)).length
 ·rw[show((((Af (val a)).length:Nat):Int) != (((Af (val b)).length:Nat):Int))=false by simp;omega,cf,i64 (by omega),eF (Ab _) (Ab _) (by omega) f _ N (Nat.le_refl _) (by omega),List.take_length,f,List.take_length,Ac,Ac]
 ·rw[show((((Af (val a)).length:Nat):Int) != (((Af (val b)).length:Nat):Int))=true by simp;omega,ct]
  by_cases k:(Af (val a)).length<(Af (val b)).length
  ·have:=T9 k
   rw[show decide ((((Af (val a)).length:Nat):Int)<(((Af (val b)).length:Nat):Int))=true by simp;omega,ct]
   unfold Fc;rw[if_pos this]
  ·have:=T9 (show(Af (val b)).length<(Af (val a)).length by omega)
   rw[show decide ((((Af (val a)).length:Nat):Int)<(((Af (val b)).length:Nat):Int))=false by simp;omega,cf]
   unfold Fc;rw[if_neg (by omega),if_pos this]
theorem WX {N:Nat} {a:List Nat} {n:Nat} {t o:Bool} {K:Int→O R} (d:n=a.length) (e:Ae a) (b:fit a.length N):Is N (Aa a) n t o K=K (Fc (val a) 0):=by
 subst d
 have f:=b.1;have i:=b.2
 rw[Xd];unfold Ps
 dsimp only
 rw[A9 rfl e b,oa (by omega)]
 by_cases c:val a=0
 ·rw[c,B6,Sb]
  cases N with
  | zero=>omega
  | succ N =>
   rw[H8];unfold Od
   rw[i64 (by simp)];simp
 ·have j:(Af (val a)).length≠0:=fun h=>c (A3.1 h)
  rw[show((((Af (val a)).length:Nat):Int) != (0:Int))=true by simp;exact fun h=>c (VL.1 h),ct]
  rw[show decide ((((Af (val a)).length:Nat):Int)<(0:Int))=false by simp,cf]
  unfold Fc;rw[if_neg (by omega),if_pos (by omega)]
end
end Gx

namespace Gx
open Go Go.Proofs
section
variable {R:Type}
theorem H':∀ {S:List Nat} {d v:Nat} (h:d<S.length),val (S.set d v)+4294967296 ^ d*S[d]=val S+4294967296 ^ d*v
 | x::r,0,v,_=>by simp[val];omega
 | x::r,d+1,v,h=>by
  have c:=H' (S:=r) (d:=d) (v:=v) (by simpa using h)
  simp only[List.set_cons_succ,val,List.getElem_cons_succ,Nat.pow_succ]
  have b:∀ y,4294967296 ^ d*4294967296*y=4294967296*(4294967296 ^ d*y):=fun y=>by rw[Nat.mul_comm (4294967296 ^ d),Nat.mul_assoc]
  rw[b,b]
  omega
theorem I9 (b:List Nat) (d:Nat):val (b.take (d+1))=val (b.take d)+4294967296 ^ d*b.getD d 0:=by
 by_cases h:d<b.length
 ·rw[An h,List.getD_eq_getElem?_getD,List.getElem?_eq_getElem h];rfl
 ·rw[List.take_of_length_le (by omega),List.take_of_length_le (by omega),List.getD_eq_getElem?_getD,List.getElem?_eq_none (by omega)];simp
theorem G9 (P s:Nat):P*(s%4294967296)+P*4294967296*(s/4294967296)=P*s:=by
 rw[Nat.mul_assoc,←Nat.mul_add,Nat.add_comm,Nat.div_add_mod]
def oc (S:List Nat) (d:Nat):Prop:=∀ j (h:j<S.length),d≤j→S[j]=0
theorem Pv {S:List Nat} {d v:Nat} (h:oc S d):oc (S.set d v) (d+1):=fun j b c=>by
 rw[List.getElem_set]
 rw[if_neg (by omega)]
 exact h j (by simpa using b) (by omega)
theorem Gi (n:Nat):oc (List.replicate n 0) 0:=fun j b _=>by simp
theorem Lv {S:List Nat} {d v:Nat} (h:oc S d) (b:d<S.length):val (S.set d v)=val S+4294967296 ^ d*v:=by
 have:=H' (v:=v) b
 rw[h d b (Nat.le_refl _)] at this;simpa using this
theorem uP {a:Nat} (h:a≤1000000000000):IntKind.wrap .i64 (((a:Nat):Int)+(1:Int))=((a+1:Nat):Int):=wS h
theorem tM {x:Nat} {m:List Nat} (h:x<m.length):((Nat.beq 1 1)&&((Nat.ble ((0+(x*1))+1) (List.length (Aa m)))&&(!false)))=true:=by
 rw[A5];simp;omega
theorem sN {x v:Nat} {m:List Nat}:List.set (Aa m) (0+(x*1)) (.int .u32 (v:Int))=Aa (m.set x v):=by rw[Nat.mul_one,Nat.zero_add,HB]
theorem WY {N:Nat} {a b:List Nat} {t u:Bool} (y:Ae a) (z:Ae b) (k:fit (a.length+1) N) (l:b.length≤a.length):∀ (m d f:Nat) (S:List Nat) (c:Nat),d+m=a.length→m<f→Ae S→S.length=a.length+1→oc S d→c≤1 →
  val S+4294967296 ^ d*c=val (a.take d)+val (b.take d) →
  ∃ S',Ae S'∧S'.length=a.length+1∧val S'=val a+val b∧∀ K:Nat→LA→O R,K3 N K (Aa a) a.length t (Aa b) b.length u f (a.length+1) (c:Int) (a.length:Int) (d:Int) (Aa S)=K (Af (val a+val b)).length (Aa S')
 | 0,d,f+1,S,c,L,_,hS,n,q,M,I=>by
  have T:=k.1;have U:=k.2
  have A:d=a.length:=by omega
  subst A
  have v:val (S.set a.length c)=val a+val b:=by
   rw[Lv q (by omega),I,List.take_length,List.take_of_length_le l]
  have x:=Bn hS (show c<4294967296 by omega) a.length
  refine⟨S.set a.length c,x,by simpa using n,v,fun K=>?_⟩
  rw[K3];unfold Ob
  rw[FG (Nat.le_refl _),cf,Aj (by omega),ct,tM (by omega),ct,nT (by omega),sN,Sa (by simp;omega) x (by simp only[List.length_set,n];exact k),v]
 | m+1,d,f+1,S,c,L,V,hS,n,q,M,I=>by
  have T:=k.1;have U:=k.2
  have i:d<a.length:=by omega
  have ad:=Aq y i
  have step:∀ s:Nat,s<8589934592→s=c+a[d]+b.getD d 0→val (S.set d (s%4294967296))+4294967296 ^ (d+1)*(s/4294967296)=val (a.take (d+1))+val (b.take (d+1)):=by
   intro s _ X
   rw[Lv q (by omega),An i,I9 b d,Nat.pow_succ]
   have e:=G9 (4294967296 ^ d) s
   have Y:4294967296 ^ d*s=4294967296 ^ d*c+4294967296 ^ d*a[d]+4294967296 ^ d*b.getD d 0:=by rw[X,Nat.mul_add,Nat.mul_add]
   omega
  by_cases j:d<b.length
  ·have bd:=Aq z j
   have B:b.getD d 0=b[d]:=by rw[List.getD_eq_getElem?_getD,List.getElem?_eq_getElem j];rfl
   obtain⟨S',C,D,F,G⟩:=WY (t:=t) (u:=u) y z k l m (d+1) f (S.set d ((c+a[d]+b[d])%4294967296)) ((c+a[d]+b[d])/4294967296) (by omega) (by omega) (Bn hS (by omega) d) (by simpa using n) (Pv q) (by omega) (step _ (by omega) (by rw[B]))
   refine⟨S',C,D,F,fun K=>?_⟩
   rw[K3];unfold Ob
   rw[Wj i,ct,Aj i,ct,Wk i,Wj j,ct,Aj j,ct,Wk j,Aj (by omega),ct,d5 (by omega),ct,Er (by omega),Er (by omega),Q7,Er (by omega),Q7,Er (by omega),MD,EX,Xn,wS (by omega)]
   exact G K
  ·have B:b.getD d 0=0:=by rw[List.getD_eq_getElem?_getD,List.getElem?_eq_none (by omega)];rfl
   obtain⟨S',C,D,F,G⟩:=WY (t:=t) (u:=u) y z k l m (d+1) f (S.set d ((c+a[d])%4294967296)) ((c+a[d])/4294967296) (by omega) (by omega) (Bn hS (by omega) d) (by simpa using n) (Pv q) (by omega) (step _ (by omega) (by rw[B];rfl))
   refine⟨S',C,D,F,fun K=>?_⟩
   rw[K3];unfold Ob
   rw[Wj i,ct,Aj i,ct,Wk i,FG (by omega),cf,Aj (by omega),ct,d5 (by omega),ct,Er (by omega),Q7,Er (by omega),MD,EX,Xn,wS (by omega)]
   exact G K
theorem qn {N:Nat} {a b:List Nat} {t u:Bool} (e:Ae a) (f:Ae b) (c:fit (a.length+1) N) (d:b.length≤a.length) :
  ∃ S',Ae S'∧val S'=val a+val b∧∀ K:Nat→LA→O R,R5 N K (Aa a) a.length t (Aa b) b.length u=K (Af (val a+val b)).length (Aa S'):=by
 have l:=c.1;have m:=c.2
 obtain⟨S',i,_,j,k⟩:=WY (R:=R) (t:=t) (u:=u) e f c d a.length 0 N (List.replicate (a.length+1) 0) 0 (by omega) (by omega) (Bk _) (by simp) (Gi _) (by omega) (by rw[Cg];simp[val])
 refine⟨S',i,j,fun K=>?_⟩
 unfold R5 FA
 rw[uP (by omega),pu (by omega),ct,Int.toNat_natCast,Bt]
 exact k K
theorem qo {N:Nat} {a b:List Nat} {n m:Nat} {t o t' o':Bool} (k:n=a.length) (l:m=b.length) (e:Ae a) (f:Ae b) (c:fit (a.length+b.length+1) N) :
  ∃ S',Ae S'∧val S'=val a+val b∧∀ K:Nat→LA→O R,MN N (Aa a) n t o (Aa b) m t' o' K=K (Af (val a+val b)).length (Aa S'):=by
 subst k l
 have la:=(A1 e).2
 have lb:=(A1 f).2
 by_cases q:(Af (val a)).length<(Af (val b)).length
 ·obtain⟨S',i,d,j⟩:=qn (R:=R) (N:=N) (a:=Af (val b)) (b:=Af (val a)) (t:=o') (u:=o) (Ab _) (Ab _) (c.le (by omega)) (by omega)
  rw[Ac,Ac,Nat.add_comm] at d
  refine⟨S',i,d,fun K=>?_⟩
  rw[FB];unfold HL
  dsimp only
  rw[A9 rfl e (c.le (by omega)),A9 rfl f (c.le (by omega)),Wj q,ct,j,Ac,Ac,Nat.add_comm (val b)]
 ·obtain⟨S',i,d,j⟩:=qn (R:=R) (N:=N) (a:=Af (val a)) (b:=Af (val b)) (t:=o) (u:=o') (Ab _) (Ab _) (c.le (by omega)) (by omega)
  rw[Ac,Ac] at d
  refine⟨S',i,d,fun K=>?_⟩
  rw[FB];unfold HL
  dsimp only
  rw[A9 rfl e (c.le (by omega)),A9 rfl f (c.le (by omega)),FG (by omega),cf,j,Ac,Ac]
end
end Gx

namespace Gx
open Go Go.Proofs
section
variable {R:Type}
theorem Z8 {x y:Nat} (b:x<4294967296) (e:y≤4294967296):∃ d c:Nat,d<4294967296∧c≤1∧x+4294967296*c=d+y∧IntKind.wrap .u32 (IntKind.wrap .u64 ((x:Int) - (y:Int)))=(d:Int)∧Int.fdiv (IntKind.wrap .u64 ((x:Int) - (y:Int))) (2 ^ 63)=(c:Int):=by
 by_cases h:y≤x
 ·refine⟨x - y,0,by omega,by omega,by omega,?_,?_⟩
  ·rw[MC (by omega) h,nT (by omega)]
  ·rw[MC (by omega) h,tL,Nat.div_eq_of_lt (by omega)]
 ·refine⟨x+4294967296 - y,1,by omega,by omega,by omega,?_,?_⟩
  ·rw[qh (by omega) (by omega),EX];congr 1;omega
  ·rw[qh (by omega) (by omega),tL];congr 1;omega
theorem rg {x c w:Nat} (b:x<4294967296) (d:c≤1) (e:w<4294967296):IntKind.wrap .u64 ((IntKind.wrap .u64 ((x:Int) - (c:Int))) - (w:Int))=IntKind.wrap .u64 ((x:Int) - ((c+w:Nat):Int)):=by
 rw[EY,EY,EY];omega
theorem WZ {N:Nat} {a b:List Nat} {t u:Bool} (z:Ae a) (A:Ae b) (n:fit a.length N) (k:b.length≤a.length) (q:val b≤val a):∀ (m d f:Nat) (S:List Nat) (c:Nat),d+m=a.length→m<f→Ae S→S.length=a.length→oc S d→c≤1 →
  val S+val (b.take d)=val (a.take d)+4294967296 ^ d*c →
  ∃ S',Ae S'∧val S'=val a - val b∧∀ K:Nat→Bool→LA→O R,I8 N K (Aa b) b.length t a.length (Aa a) u f (c:Int) (a.length:Int) (d:Int) (Aa S)=K (Af (val a - val b)).length true (Aa S')
 | 0,d,f+1,S,c,hd,_,hS,l,x,X,Y=>by
  have B:d=a.length:=by omega
  subst B
  rw[List.take_length,List.take_of_length_le k] at Y
  have C:=Bd hS
  rw[l] at C
  have D:c=0:=by
   rcases Nat.lt_or_ge 0 c with h | h
   ·exfalso
    have:c=1:=by omega
    subst this
    omega
   ·omega
  subst D
  have s:val S=val a - val b:=by omega
  refine⟨S,hS,s,fun K=>?_⟩
  rw[I8];unfold Oc
  rw[FG (Nat.le_refl _),cf,Sa l.symm hS (by rw[l];exact n),s]
 | m+1,d,f+1,S,c,hd,hfu,hS,l,x,X,Y=>by
  have h1:=n.1;have h2:=n.2
  have i:d<a.length:=by omega
  have ad:=Aq z i
  have step:∀ y g c':Nat,y=c+b.getD d 0→a[d]+4294967296*c'=g+y→val (S.set d g)+val (b.take (d+1))=val (a.take (d+1))+4294967296 ^ (d+1)*c':=by
   intro y g c' hy v
   rw[Lv x (by omega),An i,I9 b d,Nat.pow_succ,Nat.mul_assoc]
   have e:4294967296 ^ d*(a[d]+4294967296*c')=4294967296 ^ d*(g+(c+b.getD d 0)):=by rw[v,hy]
   rw[Nat.mul_add,Nat.mul_add,Nat.mul_add] at e
   omega
  by_cases j:d<b.length
  ·have bd:=Aq A j
   have v:b.getD d 0=b[d]:=by rw[List.getD_eq_getElem?_getD,List.getElem?_eq_getElem j];rfl
   obtain⟨g,c',F,G,I,L,M⟩:=Z8 ad (show c+b[d]≤4294967296 by omega)
   obtain⟨S',T,U,V⟩:=WZ (t:=t) (u:=u) z A n k q m (d+1) f (S.set d g) c' (by omega) (by omega) (Bn hS F d) (by simpa using l) (Pv x) G (step _ _ _ (by rw[v]) I)
   refine⟨S',T,U,fun K=>?_⟩
   rw[I8];unfold Oc
   rw[Wj i,ct,Aj i,ct,Wk i,Wj j,ct,Aj j,ct,Wk j,ct,d5 (by omega),ct,Er (show a[d]<18446744073709551616 by omega),Er (show b[d]<18446744073709551616 by omega),rg ad X bd,L,M,Xn,wS (by omega)]
   exact V K
  ·have v:b.getD d 0=0:=by rw[List.getD_eq_getElem?_getD,List.getElem?_eq_none (by omega)];rfl
   obtain⟨g,c',F,G,I,L,M⟩:=Z8 ad (show c≤4294967296 by omega)
   obtain⟨S',T,U,V⟩:=WZ (t:=t) (u:=u) z A n k q m (d+1) f (S.set d g) c' (by omega) (by omega) (Bn hS F d) (by simpa using l) (Pv x) G (step _ _ _ (by rw[v];rfl) I)
   refine⟨S',T,U,fun K=>?_⟩
   rw[I8];unfold Oc
   rw[Wj i,ct,Aj i,ct,Wk i,FG (by omega),cf,ct,d5 (by omega),ct,Er (show a[d]<18446744073709551616 by omega),L,M,Xn,wS (by omega)]
   exact V K
theorem W_ {N:Nat} {a b:List Nat} {n m:Nat} {t o t' o':Bool} (k:n=a.length) (l:m=b.length) (f:Ae a) (i:Ae b) (c:fit (a.length+b.length) N) (d:val b≤val a) :
  ∃ S',Ae S'∧val S'=val a - val b∧∀ K:Nat→Bool→LA→O R,T4 N (Aa a) n t o (Aa b) m t' o' K=K (Af (val a - val b)).length true (Aa S'):=by
 subst k l
 have v:=c.1;have x:=c.2
 have la:=(A1 f).2
 have lb:=(A1 i).2
 have e:=A6 d
 obtain⟨S',q,j,s⟩:=WZ (R:=R) (N:=N) (a:=Af (val a)) (b:=Af (val b)) (t:=o') (u:=o) (Ab _) (Ab _) (c.le (by omega)) e (by rw[Ac,Ac];exact d) (Af (val a)).length 0 N (List.replicate (Af (val a)).length 0) 0 (by omega) (by omega) (Bk _) (by simp) (Gi _) (by omega) (by rw[Cg];simp[val])
 rw[Ac,Ac] at j
 refine⟨S',q,j,fun K=>?_⟩
 rw[FC];unfold HN
 dsimp only
 rw[A9 rfl f (c.le (by omega)),A9 rfl i (c.le (by omega)),Z7 rfl rfl (Ab _) (Ab _) (c.le (by omega)),Ac,Ac]
 have:decide (Fc (val a) (val b)<0)=false:=by unfold Fc;split<;>(try split)<;>simp<;>omega
 rw[this,cf,pu (by omega),ct,Bt]
 have:=s K
 rw[Ac,Ac] at this
 exact this
theorem qp {N:Nat} {a b:List Nat} {n m:Nat} {t o t' o':Bool} {K:Nat→Bool→LA→O R} (i:n=a.length) (j:m=b.length) (e:Ae a) (f:Ae b) (c:fit (a.length+b.length) N) (d:val a<val b) :
  T4 N (Aa a) n t o (Aa b) m t' o' K=K 0 false []:=by
 subst i j
 have la:=(A1 e).2
 have lb:=(A1 f).2
 rw[FC];unfold HN
 dsimp only
 rw[A9 rfl e (c.le (by omega)),A9 rfl f (c.le (by omega)),Z7 rfl rfl (Ab _) (Ab _) (c.le (by omega)),Ac,Ac]
 have:decide (Fc (val a) (val b)<0)=true:=by unfold Fc;rw[if_pos d];rfl
 rw[this,ct]
end
end Gx

namespace Gx
open Go Go.Proofs
section
variable {R:Type}
theorem bX {n:Nat} (h:n≠0):(((n:Nat):Int)==(0:Int))=false:=by rw[beq_eq_false_iff_ne];omega
theorem uQ {n:Nat} (h:n=0):(((n:Nat):Int)==(0:Int))=true:=by subst h;rfl
theorem lj:∀ {S:List Nat} {j:Nat} (h:j<S.length),4294967296 ^ j*S[j]≤val S
 | x::r,0,_=>by simp[val]
 | x::r,j+1,h=>by
  have:=lj (S:=r) (j:=j) (by simpa using h)
  simp only[List.getElem_cons_succ,val,Nat.pow_succ]
  rw[Nat.mul_comm (4294967296 ^ j),Nat.mul_assoc]
  omega
theorem qq {S:List Nat} {k:Nat} (h:val S<4294967296 ^ k):oc S k:=fun j c d=>by
 have e:=lj c
 have f:4294967296 ^ k≤4294967296 ^ j:=Nat.pow_le_pow_right (by omega) d
 rcases Nat.eq_zero_or_pos S[j] with b | b
 ·exact b
 ·have:=Nat.le_mul_of_pos_right (4294967296 ^ j) b
  omega
theorem j2 {p q y s:Nat} (b:p<4294967296) (hq:q<4294967296) (c:y<4294967296) (d:s<4294967296):p+(q*y+s)<18446744073709551616:=by
 have:q*y≤4294967295*4294967295:=Nat.mul_le_mul (by omega) (by omega)
 omega
theorem qr {N:Nat} {x y:List Nat} {c d:Bool} {f q J:Nat} (F:Ae y) (hq:q<4294967296) (I:f<x.length) (L:x.length+y.length≤1000000000000):∀ (m l b:Nat) (S:List Nat) (p:Nat) (v:Nat),l+m=y.length→m<b→Ae S→S.length=x.length+y.length→oc S (f+y.length)→p<4294967296 →
  val S+4294967296 ^ (f+l)*p=v+4294967296 ^ f*(q*val (y.take l)) →
  ∃ S',Ae S'∧S'.length=x.length+y.length∧val S'=v+4294967296 ^ f*(q*val y)∧∀ (n:Nat→Int→Int→LA→O R) (K:Nat→LA→O R),K2 N n K (Aa y) y.length d (x.length+y.length) (f:Int) (q:Int) (Aa x) x.length c (J:Int) b (p:Int) (y.length:Int) (l:Int) (Aa S)=n (x.length+y.length) J ((f+1:Nat):Int) (Aa S')
 | 0,l,b+1,S,p,v,M,_,hS,i,A,u,B=>by
  have C:l=y.length:=by omega
  subst C
  rw[List.take_length] at B
  refine⟨S.set (f+y.length) p,Bn hS u _,by simpa using i,by rw[Lv A (by omega),B],fun n K=>?_⟩
  rw[K2];unfold T1
  rw[FG (Nat.le_refl _),cf,wA (by omega),Aj (by omega),ct,d5 (by omega),ct,nT u,Xn,wS (by omega)]
 | m+1,l,b+1,S,p,v,M,T,hS,i,A,u,B=>by
  have k:l<y.length:=by omega
  have yl:=Aq F k
  have z:f+l<S.length:=by omega
  have sl:=Aq hS z
  have U:=j2 u hq yl sl
  have D:q*y[l]<18446744073709551616:=by omega
  generalize t:p+(q*y[l]+S[f+l])=s at *
  have G:=H' (v:=s%4294967296) z
  have key:val (S.set (f+l) (s%4294967296))+4294967296 ^ (f+(l+1))*(s/4294967296)=v+4294967296 ^ f*(q*val (y.take (l+1))):=by
   rw[An k,←Nat.add_assoc f l 1,Nat.pow_succ]
   have e:=G9 (4294967296 ^ (f+l)) s
   have e2:4294967296 ^ (f+l)*s=4294967296 ^ (f+l)*p+(4294967296 ^ (f+l)*(q*y[l])+4294967296 ^ (f+l)*S[f+l]):=by rw[←t,Nat.mul_add,Nat.mul_add]
   have e3:4294967296 ^ f*(q*(val (y.take l)+4294967296 ^ l*y[l]))=4294967296 ^ f*(q*val (y.take l))+4294967296 ^ (f+l)*(q*y[l]):=by
    rw[Nat.mul_add,Nat.mul_add,Nat.pow_add]
    congr 1
    rw[Nat.mul_assoc];congr 1
    rw[←Nat.mul_assoc,←Nat.mul_assoc,Nat.mul_comm q]
   omega
  obtain⟨S',V,X,Y,q4⟩:=qr (N:=N) (x:=x) (c:=c) (d:=d) (J:=J) F hq I L m (l+1) b (S.set (f+l) (s%4294967296)) (s/4294967296) v (by omega) (by omega) (Bn hS (by omega) _) (by simpa using i) (fun j hj hk=>by
   rw[List.getElem_set,if_neg (by omega)];exact A j (by simpa using hj) hk) (by omega) key
  refine⟨S',V,X,Y,fun n K=>?_⟩
  rw[K2];unfold T1
  rw[Wj k,ct,Aj k,ct,Wk k,wA (by omega),Aj (by omega),ct,H_ z,ct,d5 z,ct,Er (show q<18446744073709551616 by omega),Er (show y[l]<18446744073709551616 by omega),Er (show S[f+l]<18446744073709551616 by omega),VN,Er D,Q7,Er (by omega),Q7,t,Er U,MD,EX,Xn,wS (by omega)]
  exact q4 n K
theorem gT {N:Nat} {x y:List Nat} {c d:Bool} (s:Ae x) (t:Ae y) (i:fit (x.length+y.length) N):∀ (m f b:Nat) (S:List Nat),f+m=x.length→m<b→Ae S→S.length=x.length+y.length →
  val S=val (x.take f)*val y →
  ∃ S',Ae S'∧val S'=val x*val y∧∀ K:Nat→LA→O R,Hw N K (Aa y) y.length d (Aa x) x.length c b (x.length+y.length) (x.length:Int) (f:Int) (Aa S)=K (Af (val x*val y)).length (Aa S')
 | 0,f,b+1,S,D,_,hS,j,n=>by
  have u:f=x.length:=by omega
  subst u
  rw[List.take_length] at n
  refine⟨S,hS,n,fun K=>?_⟩
  rw[Hw];unfold N8
  rw[FG (Nat.le_refl _),cf,Sa j.symm hS (by rw[j];exact i),n]
 | m+1,f,b+1,S,D,F,hS,j,n=>by
  have U:=i.1;have V:=i.2
  have e:f<x.length:=by omega
  have xf:=Aq s e
  have C:=Bd (Bh s f)
  rw[List.length_take,Nat.min_eq_left (by omega)] at C
  have G:=Bd t
  have l:val S<4294967296 ^ (f+y.length):=by
   rw[n,Nat.pow_add];exact Nat.mul_lt_mul'' C G
  have k:val (x.take (f+1))*val y=val S+4294967296 ^ f*(x[f]*val y):=by
   rw[An e,Nat.add_mul,n,Nat.mul_assoc]
  by_cases v:x[f]=0
  ·obtain⟨S',z,A,B⟩:=gT (c:=c) (d:=d) s t i m (f+1) b S (by omega) (by omega) hS j (by rw[k,v];simp)
   refine⟨S',z,A,fun K=>?_⟩
   rw[Hw];unfold N8
   rw[Wj e,ct,Aj e,ct,Wk e,show(((x[f]:Nat):Int)==0)=true by simp[v],ct,wS (by omega)]
   exact B K
  ·obtain⟨S1,I,L,M,T⟩:=qr (R:=R) (N:=N) (x:=x) (y:=y) (c:=c) (d:=d) (f:=f) (q:=x[f]) (J:=x.length) t xf e (by omega) y.length 0 N S 0 (val S) (by omega) (by omega) hS j (qq l) (by omega) (by simp[val])
   obtain⟨S',z,A,B⟩:=gT (c:=c) (d:=d) s t i m (f+1) b S1 (by omega) (by omega) I L (by rw[M,k])
   refine⟨S',z,A,fun K=>?_⟩
   rw[Hw];unfold N8
   rw[Wj e,ct,Aj e,ct,Wk e,show(((x[f]:Nat):Int)==0)=false by simp;exact v,cf]
   have:=T (Hw N K (Aa y) y.length d (Aa x) x.length c b) K
   simp only[Int.natCast_zero] at this
   dsimp only
   rw[this]
   exact B K
theorem IA {N:Nat} {a b:List Nat} {n m:Nat} {t o t' o':Bool} (q:n=a.length) (s:m=b.length) (j:Ae a) (k:Ae b) (e:fit (a.length+b.length) N) :
  ∃ S',Ae S'∧val S'=val a*val b∧∀ K:Nat→LA→O R,T2 N (Aa a) n t o (Aa b) m t' o' K=K (Af (val a*val b)).length (Aa S'):=by
 subst q s
 have z:=e.1;have A:=e.2
 have la:=(A1 j).2
 have lb:=(A1 k).2
 by_cases f:val a=0
 ·refine⟨[],Ky,by rw[f];simp[val],fun K=>?_⟩
  rw[T3];unfold Z5
  dsimp only
  rw[A9 rfl j (e.le (by omega)),A9 rfl k (e.le (by omega)),f,Nat.zero_mul,B6];rfl
 ·by_cases i:val b=0
  ·refine⟨[],Ky,by rw[i];simp[val],fun K=>?_⟩
   rw[T3];unfold Z5
   dsimp only
   rw[A9 rfl j (e.le (by omega)),A9 rfl k (e.le (by omega)),i,Nat.mul_zero,B6]
   cases ((((Af (val a)).length:Nat):Int)==0)<;>rfl
  ·obtain⟨S',u,l,v⟩:=gT (R:=R) (N:=N) (x:=Af (val a)) (y:=Af (val b)) (c:=o) (d:=o') (Ab _) (Ab _) (e.le (by omega)) (Af (val a)).length 0 N (List.replicate ((Af (val a)).length+(Af (val b)).length) 0) (by omega) (by omega) (Bk _) (by simp) (by rw[Cg];simp[val])
   rw[Ac,Ac] at l
   refine⟨S',u,l,fun K=>?_⟩
   rw[T3];unfold Z5
   dsimp only
   have n1:(Af (val a)).length≠0:=fun h=>f (A3.1 h)
   have n2:(Af (val b)).length≠0:=fun h=>i (A3.1 h)
   rw[A9 rfl j (e.le (by omega)),A9 rfl k (e.le (by omega)),bX n1,show((false:Bool)==false)=true by rfl,ct,uO,bX n2,cf]
   unfold Z4 E'
   rw[wA (by omega),pu (by omega),ct,Int.toNat_natCast,Bt]
   have:=v K
   rw[Ac,Ac] at this
   exact this
end
end Gx

namespace Gx
open Go Go.Proofs
section
variable {R:Type}
theorem IB {v:Nat} (h:(Af v).length≤2):v<18446744073709551616:=by
 have:=Bd (Ab v)
 rw[Ac] at this
 have b:4294967296 ^ (Af v).length≤4294967296 ^ 2:=Nat.pow_le_pow_right (by omega) h
 omega
theorem M7 {v:Nat} (h:v<18446744073709551616):(Af v).length≤2:=C8 (by simpa using h)
theorem Sc {N:Nat} {l:List Nat} {n:Nat} {t o:Bool} {K:Int→O R} (c:n=l.length) (b:Ae l) (d:l.length≤2) (hN:4≤N):In N (Aa l) n t o K=K (val l:Int):=by
 subst c
 obtain⟨M,rfl⟩:∃ M,N=M+4:=⟨N - 4,by omega⟩
 rw[PC];unfold HS
 match l,b,d with
 | [],_,_ =>
  dsimp only
  rw[Et];unfold Fd
  simp[val]
 | [x],b,_ =>
  have f:=(Bz.1 b).1
  dsimp only
  rw[Et];unfold Fd
  simp only[List.length_cons,List.length_nil,Int.toNat_zero,Nat.zero_mul,List.drop_zero,Nm,Ry]
  rw[show decide ((0:Int)<((0+1:Nat):Int))=true by decide,ct,show Am 0 (0+1)=true by decide,ct,show IntKind.wrap .i64 ((32:Int)*0)=0 by decide,show decide ((0:Int)<0)=false by decide,cf]
  rw[Et];unfold Fd
  rw[show IntKind.wrap .i64 ((0:Int)+1)=1 by decide,show decide ((1:Int)<((0+1:Nat):Int))=false by decide,cf]
  have e:IntKind.wrap .u64 ((IntKind.wrap .u64 (x:Int))*2 ^ (min (Int.toNat 0) 64))=(x:Int):=by rw[Er (by omega)];simp;exact Er (by omega)
  rw[e,show(0:Int)=((0:Nat):Int) by rfl,l9 (by omega) (by omega)]
  simp[val]
 | [x,y],b,_ =>
  have f:=(Bz.1 b).1
  have j:=(Bz.1 (Bz.1 b).2).1
  dsimp only
  rw[Et];unfold Fd
  simp only[List.length_cons,List.length_nil,Int.toNat_zero,Nat.zero_mul,List.drop_zero,Nm,Ry]
  rw[show decide ((0:Int)<((0+1+1:Nat):Int))=true by decide,ct,show Am 0 (0+1+1)=true by decide,ct,show IntKind.wrap .i64 ((32:Int)*0)=0 by decide,show decide ((0:Int)<0)=false by decide,cf]
  rw[Et];unfold Fd
  rw[show IntKind.wrap .i64 ((0:Int)+1)=1 by decide,show decide ((1:Int)<((0+1+1:Nat):Int))=true by decide,ct,show Am 1 (0+1+1)=true by decide,ct,show IntKind.wrap .i64 ((32:Int)*1)=32 by decide,show decide ((32:Int)<0)=false by decide]
  simp only[show Int.toNat 1*1=1 by rfl,List.drop_succ_cons,List.drop_zero,Ry,cf]
  rw[Et];unfold Fd
  rw[show IntKind.wrap .i64 ((1:Int)+1)=2 by decide,show decide ((2:Int)<((0+1+1:Nat):Int))=false by decide,cf]
  have e:IntKind.wrap .u64 ((IntKind.wrap .u64 (x:Int))*2 ^ (min (Int.toNat 0) 64))=(x:Int):=by rw[Er (by omega)];simp;exact Er (by omega)
  have i:IntKind.wrap .u64 ((IntKind.wrap .u64 (y:Int))*2 ^ (min (Int.toNat 32) 64))=((y*2 ^ 32:Nat):Int):=by
   rw[Er (by omega),show(2:Int) ^ (min (Int.toNat 32) 64)=((2 ^ 32:Nat):Int) by rfl,VN,Er (by omega)]
  rw[e,i,show(0:Int)=((0:Nat):Int) by rfl,l9 (by omega) (by omega),l9 (by simp;omega) (by omega),Nat.zero_or,Nat.or_comm,ME (by omega)]
  congr 1;simp only[val];omega
theorem Fu {N:Nat} {v:Nat} (e:v<18446744073709551616) (hN:4≤N):∃ S,Ae S∧val S=v∧∀ K:Nat→LA→O R,A7 N (v:Int) K=K (Af v).length (Aa S):=by
 have d:Ae [v%4294967296,v/4294967296]:=Bz.2 ⟨by omega,Bz.2 ⟨by omega,Ky⟩⟩
 have b:val [v%4294967296,v/4294967296]=v:=by simp[val];omega
 refine⟨_,d,b,fun K=>?_⟩
 rw[Po];unfold N7
 rw[EX,MD,nT (show v/4294967296<4294967296 by omega)]
 have:=WW (R:=R) (N:=N) (l:=[v%4294967296,v/4294967296]) (K:=fun c=>K c (Aa [v%4294967296,v/4294967296])) d (by simp) 2 N (by simp) (by omega)
 rw[show [v%4294967296,v/4294967296].take 2=[v%4294967296,v/4294967296] by rfl,b] at this
 rw[EZ];unfold HD
 exact this
theorem Ha {N:Nat} {l:List Nat} {n:Nat} {t o:Bool} {K:Int→Bool→O R} (c:n=l.length) (d:Ae l) (b:fit l.length N):Np N (Aa l) n t o K=if val l<18446744073709551616 then K (val l:Int) true else K 0 false:=by
 have f:=b.1
 rw[BO];unfold FF
 rw[A9 c d b]
 by_cases h:val l<18446744073709551616
 ·have:=M7 h
  rw[if_pos h,show decide ((((Af (val l)).length:Nat):Int)>2)=false by simp;omega,cf,Sc rfl (Ab _) this (by omega),Ac]
 ·have:¬ (Af (val l)).length≤2:=fun e=>h (IB e)
  rw[if_neg h,show decide ((((Af (val l)).length:Nat):Int)>2)=true by simp;omega,ct]
theorem Sd {N:Nat} {l:List Nat} {n:Nat} {t o:Bool} {K:Nat→LA→O R} (d:n=l.length) (c:Ae l) (b:fit l.length N):Lu N (Aa l) n t o K=K (Af (val l)).length (Aa (Af (val l))):=by
 have e:=b.1;have f:=b.2
 have:=(A1 c).2
 rw[O_];unfold VU
 rw[A9 d c b,pu (by omega),ct,Pm,Bool.or_true,ct]
 congr 1
 unfold G4
 rw[Nat.min_self,Nat.mul_one,List.take_zero,List.nil_append,List.take_of_length_le (by rw[A5];exact Nat.le_refl _),List.drop_eq_nil_of_le (by simp[A5]),List.append_nil]
end
end Gx
