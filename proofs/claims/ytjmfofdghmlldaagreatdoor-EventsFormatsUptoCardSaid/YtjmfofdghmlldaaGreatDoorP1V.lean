/- A part of the proof: what it holds is said by each theorem. -/
import Derived.ProofKit
import Derived.OpenShut
import Derived.ChangeOld
import Derived.Below
import Derived.Lib.LaidTab
import Derived.JoinedOf
import Derived.Test.YtjmfofdghmlldaaGreatDoorCards
import Derived.Test.YtjmfofdghmlldaaGreatDoorTie
import Derived.Deep.DeepHandedRow
import Derived.Deep.DeepWitnessRowRef
import Derived.LaidMore
import Derived.Shelf.Vars
import Derived.SevenTiedAt
import Derived.IntWalk
import Derived.Test.YtjmfofdghmlldaaGreatDoorProg
import Derived.Test.YtjmfofdghmlldaaGreatDoorRows
import Derived.ChangeSame
import Derived.Lay
import Derived.Shelf.Strings.Repeat
import Derived.Shelf.Strings.Split
import Derived.Shelf.Strings.Cut
import Derived.Shelf.Strconv.AtoiAll
import Derived.Shelf.Strconv.Itoa3
import Derived.Shelf.LaysM
import Derived.Shelf.LaysC
import Derived.Lib.RepeatB
import Derived.Test.YtjmfofdghmlldaaGreatDoorP0V
set_option linter.unusedVariables false
set_option linter.defProp false
set_option linter.unusedSimpArgs false
namespace Gx
open Go
theorem Nx:∀ {l:List Nat} {b:Nat},Kt l b=true↔b ∈ l
  | [],b=>by simp[Kt]
  | i::r,b=>by
    rw[Kt]
    cases hi:Nat.beq i b with
    | true=>have:=Nat.eq_of_beq_eq_true hi;subst this;simp
    | false => have := CO hi; simp only [cond_false, List.mem_cons]; rw [Nx]; constructor
               · exact fun h=>.inr h
               · rintro(h | h)
                 · exact absurd h.symm this
                 · exact h
theorem Xq:∀ {l:List Nat},bC l=true→l.Nodup
 | [],_=>List.nodup_nil
 | i::r,h=>by
  rw[bC] at h;simp at h
  refine List.nodup_cons.2 ⟨fun b=>?_,Xq h.2⟩
  rw[Nx.2 b] at h;simp at h
theorem sT {g:Bj} {ids:List Nat}:∀ {l:List Nat},z8 g ids l=true→∀ b ∈ l,∀ x,Hc g b=some x→b ∈ ids
 | [],_,b,c,_,_=>by simp at c
 | i::r,h,b,c,x,f=>by
  rw[z8] at h;simp at h
  rcases List.mem_cons.1 c with e | c
  ·subst e
   rcases h.1 with d | d
   ·exact Nx.1 d
   ·rw[f] at d;simp at d
  ·exact sT h.2 b c x f
theorem Asm:∀ {l:List Nat},A2d l=true→∀ b ∈ l,Jc≤b→Nw b<100000
 | [],_,b,c,_=>by simp at c
 | i::r,h,b,c,hn=>by
  rw[A2d] at h;simp at h
  rcases List.mem_cons.1 c with e | c
  ·subst e
   have:Nat.ble Jc b=true:=by simpa using hn
   rw[this] at h;simpa using h.1
  ·exact Asm h.2 b c hn
theorem GJ (g:Bj):∀ c:LA,(Mp g c).length=c.length
 | []=>rfl
 | x::r=>by rw[Mp,List.length_cons,List.length_cons,GJ g r]
section
variable {R:Type} {r:R} {Z:Start} {nt:Nat} {J J':Bool→Nat→Prop} {β β':Cp} {st:St} {h h':Aj} {a:Act} {w w':World} {ids:List Nat}
def Ph (g:Bj) (x:Blk):Blk:={ x with cells:=cond x.pure x.cells (Mp g x.cells) }
theorem mF {g:Bj}:∀ {ids:List Nat},(ids.map Nw).Nodup→∀ c y,Am (GG g ids) c=some y→∃ b x,b ∈ ids∧Nw b=c∧Hc g b=some x∧y=Ph g x
 | [],_,c,y,d=>by simp[GG,Am] at d
 | b::r,hn,c,y,d=>by
  rw[List.map_cons,List.nodup_cons] at hn
  rw[GG] at d
  split at d
  ·rename_i x m
   rw[Ah] at d
   by_cases e:c=Nw b
   ·rw[if_pos e] at d;simp at d
    exact⟨b,x,by simp,e.symm,m,d.symm⟩
   ·rw[if_neg e] at d
    obtain⟨f,x',i,j,k,l⟩:=mF hn.2 c y d
    exact⟨f,x',by simp[i],j,k,l⟩
  ·obtain⟨f,x',i,j,k,l⟩:=mF hn.2 c y d
   exact⟨f,x',by simp[i],j,k,l⟩
theorem GK {g:Bj}:∀ {ids:List Nat},(ids.map Nw).Nodup→∀ b x,b ∈ ids→Hc g b=some x→Am (GG g ids) (Nw b)=some (Ph g x)
 | [],_,b,x,c,_=>by simp at c
 | i::r,hn,b,x,c,d=>by
  rw[List.map_cons,List.nodup_cons] at hn
  rw[GG]
  by_cases e:b=i
  ·subst e
   rw[d]
   simp only
   rw[Ah,if_pos rfl];rfl
  ·have f:b ∈ r:=by simpa[e] using c
   have ne:Nw b≠Nw i:=fun h=>hn.1 (by rw[←h];exact List.mem_map.2 ⟨b,f,rfl⟩)
   split
   ·rw[Ah,if_neg ne];exact GK hn.2 b x f d
   ·exact GK hn.2 b x f d
def zp (ids:List Nat) (c:Nat):Option Nat:=ids.find? fun b=>Nat.beq (Nw b) c
theorem N8 (hn:(ids.map Nw).Nodup) {b:Nat} (c:b ∈ ids):zp ids (Nw b)=some b:=by
 induction ids with
 | nil=>simp at c
 | cons i r d =>
  rw[List.map_cons,List.nodup_cons] at hn
  unfold zp at d ⊢
  rw[List.find?_cons]
  by_cases e:b=i
  ·subst e;simp
  ·have f:b ∈ r:=by simpa[e] using c
   have ne:Nw i≠Nw b:=fun h=>hn.1 (by rw[h];exact List.mem_map.2 ⟨b,f,rfl⟩)
   rw[aO ne];exact d hn.2 f
def A9k (g:Bj) (ids:List Nat) (l:List Nat):Prop:=∀ b ∈ l,∀ x,Hc g b=some x→b ∈ ids
theorem A3o {b:Nat}:Hc (Am h) b=(Am h b).bind fun x=>cond x.dead none (some x):=rfl
theorem mG {b:Nat} {x y:Blk} (e:Am h b=some x) (c:Hc (Am h) b=some y):y=x∧x.dead=false:=by
 rw[A3o,e] at c
 cases d:x.dead with
 | true=>simp[d] at c
 | false=>simp[d] at c;exact⟨c.symm,rfl⟩
mutual
theorem Rep.clean (hn:(ids.map Nw).Nodup):∀ {x:AV} {v:Value},A9k (Am h) ids (Iq x)→Rep J β h w x v →
  Rep J (fun c=>(zp ids c).bind β) (GG (Am h) ids) w (GF (Am h) x) v
 | .own b off n,v,hm,hr=>by
  rw[Rep] at hr
  obtain⟨x,A,cap,⟨hx,hmp⟩,h1,h2,h3⟩:=hr
  rw[GF]
  cases hv:Hc (Am h) b with
  | none=>simp only;rw[Rep];trivial
  | some y =>
   obtain⟨rfl,hd⟩:=mG hx hv
   have hb:=hm b (by simp[Iq]) _ hv
   simp only
   rw[Rep]
   refine⟨Ph (Am h) y,A,cap,⟨GK hn b y hb hv,hmp⟩,h1,h2,?_⟩
   rcases h3 with h3 | ⟨k,o,h4,h5⟩
   ·exact .inl h3
   ·refine .inr ⟨k,o,h4,?_⟩
    rcases h5 with h5 | ⟨h5,h6,h7⟩
    ·simp[hd] at h5
    ·refine .inr ⟨by rw[N8 hn hb];exact h5,h6,?_⟩
     have:(Ph (Am h) y).cells.length=y.cells.length:=by
      unfold Ph;cases y.pure
      ·simp;exact GJ _ _
      ·rfl
     rw[this];exact h7
 | .optr b off,v,hm,hr=>by
  rw[Rep] at hr
  obtain⟨x,k,o,⟨hx,hmp⟩,h1,h2⟩:=hr
  rw[GF]
  cases hv:Hc (Am h) b with
  | none=>simp only;rw[Rep];trivial
  | some y =>
   obtain⟨rfl,hd⟩:=mG hx hv
   have hb:=hm b (by simp[Iq]) _ hv
   simp only
   rw[Rep]
   refine⟨Ph (Am h) y,k,o,⟨GK hn b y hb hv,hmp⟩,h1,?_⟩
   rcases h2 with h2 | h2
   ·simp[hd] at h2
   ·exact .inr (by rw[N8 hn hb];exact h2)
 | .omap b,v,hm,hr=>by
  rw[Rep] at hr
  obtain⟨x,k,⟨hx,hmp⟩,h2⟩:=hr
  rw[GF]
  cases hv:Hc (Am h) b with
  | none=>simp only;rw[Rep];trivial
  | some y =>
   obtain⟨rfl,hd⟩:=mG hx hv
   have hb:=hm b (by simp[Iq]) _ hv
   simp only
   rw[Rep]
   refine⟨Ph (Am h) y,k,⟨GK hn b y hb hv,hmp⟩,?_⟩
   rcases h2 with h2 | h2
   ·simp[hd] at h2
   ·exact .inr (by rw[N8 hn hb];exact h2)
 | .agg c,v,hm,hr=>by
  rw[Rep] at hr
  obtain⟨cs,h1,h2⟩:=hr
  rw[GF,Rep]
  exact⟨cs,h1,Reps.clean hn (by simpa[Iq] using hm) h2⟩
 | .tup c,v,hm,hr=>by
  rw[Rep] at hr
  obtain⟨cs,h1,h2⟩:=hr
  rw[GF,Rep]
  exact⟨cs,h1,Reps.clean hn (by simpa[Iq] using hm) h2⟩
 | .fn f c,v,hm,hr=>by
  rw[Rep] at hr
  obtain⟨cs,h1,h2⟩:=hr
  rw[GF,Rep]
  exact⟨cs,h1,Reps.clean hn (by simpa[Iq] using hm) h2⟩
 | .pagg c o,v,hm,hr=>by show Rep J _ _ w (.pagg c o) v;rw[Rep] at hr ⊢;exact hr
 | .undef,v,hm,hr=>by show Rep J _ _ w (.undef) v;rw[Rep] at hr ⊢;exact hr
 | .imm c n sz t o,v,hm,hr=>by show Rep J _ _ w (.imm c n sz t o) v;rw[Rep] at hr ⊢;exact hr
 | .iptr c o,v,hm,hr=>by show Rep J _ _ w (.iptr c o) v;rw[Rep] at hr ⊢;exact hr
 | .int k n,v,hm,hr=>by show Rep J _ _ w (.int k n) v;rw[Rep] at hr ⊢;exact hr
 | .bool b,v,hm,hr=>by show Rep J _ _ w (.bool b) v;rw[Rep] at hr ⊢;exact hr
 | .str s,v,hm,hr=>by show Rep J _ _ w (.str s) v;rw[Rep] at hr ⊢;exact hr
 | .nsl,v,hm,hr=>by show Rep J _ _ w (.nsl) v;rw[Rep] at hr ⊢;exact hr
 | .nilptr,v,hm,hr=>by show Rep J _ _ w (.nilptr) v;rw[Rep] at hr ⊢;exact hr
 | .nilfn,v,hm,hr=>by show Rep J _ _ w (.nilfn) v;rw[Rep] at hr ⊢;exact hr
theorem Reps.clean (hn:(ids.map Nw).Nodup):∀ {c:List AV} {cs:List Value},A9k (Am h) ids (Ks c)→Reps J β h w c cs →
  Reps J (fun c=>(zp ids c).bind β) (GG (Am h) ids) w (Mp (Am h) c) cs
 | [],cs,hm,hr=>by rw[Reps] at hr;rw[Mp,Reps];exact hr
 | x::r,cs,hm,hr=>by
  rw[Reps] at hr
  obtain⟨u,us,h1,h2,h3⟩:=hr
  rw[Mp,Reps]
  exact⟨u,us,h1,Rep.clean hn (fun b hb=>hm b (by simp[Ks,hb])) h2,Reps.clean hn (fun b hb=>hm b (by simp[Ks,hb])) h3⟩
end
theorem JB {g:Bj} {K:List Nat}:∀ {s:Ip} {i:Nat},Hb (sL g K s) i=if Kt K i=true then GF g (Hb s i) else .undef
 | [],i=>by
  simp only[sL,Hb]
  show AV.undef=if Kt K i=true then AV.undef else AV.undef
  split<;>rfl
 | (t,v)::r,i=>by
  rw[sL,Hb]
  cases b:Kt K t with
  | true =>
   simp only[cond_true,Hb]
   cases hi:Nat.beq t i with
   | true =>
    have:=Nat.eq_of_beq_eq_true hi;subst this
    simp[b]
   | false=>simp only[cond_false];exact JB
  | false =>
   simp only[cond_false]
   rw[JB]
   cases hi:Nat.beq t i with
   | true =>
    have:=Nat.eq_of_beq_eq_true hi;subst this
    simp[b]
   | false=>rfl
theorem zq {K:List Nat}:∀ {s:Ip} {i:Nat},Kt K i=true→∀ b ∈ Iq (Hb s i),b ∈ z7 K s
 | [],i,_,b,c=>by simp[Hb,Iq] at c
 | (t,v)::r,i,d,b,c=>by
  rw[Hb] at c
  rw[z7]
  cases hi:Nat.beq t i with
  | true =>
   have:=Nat.eq_of_beq_eq_true hi;subst this
   rw[hi] at c
   rw[d];simp at c ⊢;exact .inl c
  | false =>
   rw[hi] at c
   have:=zq d b c
   cases Kt K t
   ·exact this
   ·simp;exact .inr this
theorem sU {g:Bj}:∀ {ids:List Nat} {b:Nat} {x:Blk},b ∈ ids→g b=some x→x.pure=false→∀ c ∈ Ks x.cells,c ∈ Nv g ids
 | [],b,x,d,_,_,_,_=>by simp at d
 | i::r,b,x,d,f,j,c,k=>by
  rw[Nv]
  by_cases e:b=i
  ·subst e;rw[f];simp only[j,cond_false];exact List.mem_append.2 (.inl k)
  ·exact List.mem_append.2 (.inr (sU (by simpa[e] using d) f j c k))
theorem sV:∀ {c:LA} {j:Nat} {x:AV},c[j]?=some x→∀ b ∈ Iq x,b ∈ Ks c
 | [],j,x,d,_,_=>by simp at d
 | y::r,j,x,d,b,e=>by
  rw[Ks]
  cases j with
  | zero=>simp at d;subst d;exact List.mem_append.2 (.inl e)
  | succ j=>exact List.mem_append.2 (.inr (sV (by simpa using d) b e))
theorem uH {g:Bj}:∀ {c:LA} {j:Nat} {y:AV},(Mp g c)[j]?=some y→∃ x,c[j]?=some x∧y=GF g x
 | [],j,y,b=>by simp[Mp] at b
 | x::r,j,y,b=>by
  rw[Mp] at b
  cases j with
  | zero=>simp at b;exact⟨x,by simp,b.symm⟩
  | succ j=>obtain⟨x',d,e⟩:=uH (c:=r) (j:=j) (by simpa using b);exact⟨x',by simpa using d,e⟩
theorem A3p {b:Nat} (c:b<Jc):Nw b=b:=by
 unfold Nw
 have:Nat.ble Jc b=false:=by
  cases h:Nat.ble Jc b with
  | false=>rfl
  | true=>have:=Nat.le_of_ble_eq_true h;omega
 rw[this];rfl
theorem Asn {K roots:List Nat} {st':St} (I:Inv Z nt J β st a w) (hh:clean K roots st=some st'):∃ β',Inv Z nt J β' st' a w:=by
 unfold clean at hh
 obtain⟨hc,h1⟩:_∧_:=uc hh
 simp only[Bool.and_eq_true] at hc
 obtain⟨c1,c2,c3,c4⟩:=hc
 generalize hids:IZ (Am st.h) (GE (Am st.h) (z7 K st.s++roots))=ids at *
 simp at h1
 have hn:=Xq c1
 have blk:∀ c y,Am (GG (Am st.h) ids) c=some y→∃ b x,b ∈ ids∧Nw b=c∧Am st.h b=some x∧x.dead=false∧y=Ph (Am st.h) x:=by
  intro c y m
  obtain⟨b,x,t,z,D,F⟩:=mF hn c y m
  have e:Am st.h b=some x∧x.dead=false:=Es (fun _ _ h=>h) D
  exact⟨b,x,t,z,e.1,e.2,F⟩
 have n:∀ x:Blk,(Ph (Am st.h) x).cells.length=x.cells.length:=fun x=>by
  unfold Ph;cases x.pure
  ·simp;exact GJ _ _
  ·rfl
 refine⟨fun c=>(zp ids c).bind β,?_⟩
 subst h1
 refine⟨⟨I.sim.jlt,I.sim.jft,I.sim.gl,fun c y m T V=>?_,fun c y m T V=>by
   obtain⟨b,x,f,rfl,e,d,rfl⟩:=blk c y m
   obtain⟨t,z,k,ob,D,F,U,X⟩:=I.sim.mblk b x e d V
   have:(Ph (Am st.h) x).cells=x.cells:=by unfold Ph;rw[t];rfl
   exact⟨t,z,k,ob,by simp only[N8 hn f,Option.bind_some];exact D,F,by rw[ObjIs,show(Ph (Am st.h) x).sz=x.sz from rfl,this];exact U,X⟩,?_⟩,⟨fun i v hv=>?_,fun i hi=>?_⟩,I.tmps,I.defers,I.os,I.tape,I.output,I.size,I.frame,?_,I.jsub,I.jup,I.sizes,I.zlt,I.zge,?_⟩
 ·obtain⟨b,x,f,rfl,e,d,rfl⟩:=blk c y m
  rcases I.sim.blk b x e d V with⟨t,z⟩ | ⟨k,o,cs,ty,fr,t,z,D,F,U,X,g7⟩
  ·refine .inl ⟨by simp only[N8 hn f,Option.bind_some];exact t,?_⟩
   have:=n x;rw[z] at this;simpa using this
  ·refine .inr ⟨k,o,cs,ty,fr,by simp only[N8 hn f,Option.bind_some];exact t,z,D,by rw[n];exact F,⟨fun Y=>?_,fun Y j q hj=>?_⟩,X,g7⟩
   ·have l:x.pure=true:=Y
    have:(Ph (Am st.h) x).cells=x.cells:=by unfold Ph;rw[l];rfl
    rw[this];exact U.1 l
   ·have l:x.pure=false:=Y
    have:(Ph (Am st.h) x).cells=Mp (Am st.h) x.cells:=by unfold Ph;rw[l];rfl
    rw[this] at hj
    obtain⟨q',hq,rfl⟩:=uH hj
    obtain⟨u,hu,hr,ho⟩:=U.2 l j q' hq
    exact⟨u,hu,Rep.clean hn (fun G A x' C=>sT c3 G (sU f e l G (sV hq G A)) x' C) hr,ho⟩
 ·intro c c' y y' k o o' m hy' T hd' hs L M
  obtain⟨b,x,f,rfl,e,d,rfl⟩:=blk c y m
  obtain⟨G,x',A,rfl,C,O,rfl⟩:=blk c' y' hy'
  simp only[N8 hn f,Option.bind_some] at L
  simp only[N8 hn A,Option.bind_some] at M
  rw[I.sim.sep b G x x' k o o' e C d O hs L M]
 ·rw[JB]
  split
  ·rename_i hk
   exact Rep.clean hn (fun b f x e=>sT c2 b (zq hk b f) x e) (I.ss.slot i v hv)
  ·rw[Rep];trivial
 ·rw[JB,I.ss.out i hi]
  split
  ·rfl
  ·rfl
 ·rintro k ⟨c,y,o,m,T,hs,L⟩ hk
  obtain⟨b,x,f,rfl,e,d,rfl⟩:=blk c y m
  simp only[N8 hn f,Option.bind_some] at L
  exact I.wr k ⟨b,x,o,e,d,hs,L⟩ hk
 ·intro c x0 y h0 m T
  obtain⟨b,x,f,rfl,e,d,rfl⟩:=blk c y m
  have hlt:=I.zlt _ _ h0
  have hge:=I.zge _ _ h0
  have S:Nw b=b:=by
   by_cases hnb:Jc≤b
   ·have:=Asm c4 b f hnb;omega
   ·exact A3p (by omega)
  rw[S] at h0
  obtain⟨⟨e1,em⟩,e2,e3,e4⟩:=I.outs b x0 x h0 e d
  refine⟨⟨?_,em⟩,e2,by rw[n];exact e3,e4⟩
  simp only[N8 hn f,Option.bind_some];rw[S];exact e1
end
end Gx

namespace Gx
open Go
section
variable {R:Type}
theorem Ao {α β:Type} (b:Bool) (x y:Option α) (f:α→Option β):(cond b x y).bind f=cond b (x.bind f) (y.bind f):=by cases b<;>rfl
theorem SU {R':Type} (P:Program) (t:TypeId) (c:LA) (o:Bool) (k:Bool→Option R') (f:R'→O R):(DT P t c o k).bind f=DT P t c o fun o=>(k o).bind f:=by
 unfold DT;simp only[Ao,Option.bind_none]
theorem Xr (P:Program) (t:TypeId) (c:LA) (org:Bool) (k:AV→O R):a8 P t c org k=(a8 P t c org some).bind k:=by
 unfold a8
 split<;>simp[Option.bind_assoc,Ao,SU]<;>rfl
theorem Ayk (P:Program) (t:TypeId) (c:LA) (k:AV→O R):tu P t c k=(tu P t c some).bind k:=by
 unfold tu
 split<;>simp[Option.bind_assoc,Ao]
theorem uI (n:Nat) (k:AV→O R):∀ (c:LA) (i:Nat),SD n k c i=(SD n some c i).bind k
 | [],_=>rfl
 | v::r,i=>by rw[SD,SD,Ao,uI n k r (i+1)];rfl
theorem uJ (P:Program) (t:TypeId) (c:LA) (off:Nat) (k:AV→O R):a_ P t c off k=(a_ P t c off some).bind k:=by
 unfold a_
 split
 ·simp[Option.bind_assoc,Ao]
 ·simp[Option.bind_assoc,Ao]
 ·exact uI ..
 ·rfl
theorem SV (P:Program) (g:Bj) (t:TypeId) (p:AV) (k:AV→O R):zV P g t p k=(zV P g t p some).bind k:=by
 unfold zV
 split
 ·exact Xr ..
 ·rw[Option.bind_assoc]
  congr 1;funext x
  rw[Ao,←Xr,←uJ]
 ·rfl
theorem WD (P:Program) (t:TypeId) (x i:AV) (k:AV→O R):Xj P t x i k=(Xj P t x i some).bind k:=by
 unfold Xj
 split<;>simp[Option.bind_assoc,Ao]
theorem WE (P:Program) (t:TypeId) (x:AV) (f:Nat) (k:AV→O R):Xk P t x f k=(Xk P t x f some).bind k:=by
 unfold Xk
 simp only[Option.bind_assoc,Ao]
 congr 1;funext p;congr 1;funext n;congr 1
 split<;>rfl
theorem uK (P:Program) (t:TypeId) (x:AV) (f:Nat) (k:AV→O R):sA P t x f k=(sA P t x f some).bind k:=by
 unfold sA
 rw[Option.bind_assoc]
 congr 1;funext p
 split
 ·exact Xr ..
 ·exact Ayk ..
 ·rfl
theorem uL (P:Program) (t:TypeId) (x i:AV) (k:AV→O R):sB P t x i k=(sB P t x i some).bind k:=by
 unfold sB
 split
 ·simp[Ao]
 ·simp only[Option.bind_assoc,Ao,←Xr];rfl
 ·simp only[Option.bind_assoc,Ao,←uJ];rfl
 ·rfl
theorem DY {α:Type} (lo hi mx:Option AV) (n:Nat) (f:Nat→Nat→α) (k:α→O R):(DU lo hi mx n fun l h=>k (f l h))=(DU lo hi mx n fun l h=>some (f l h)).bind k:=by
 unfold DU
 simp[Option.bind_assoc,Ao]
theorem uM (P:Program) (g:Bj) (t:TypeId) (x:AV) (lo hi mx:Option AV) (k:AV→O R):sC P g t x lo hi mx k=(sC P g t x lo hi mx some).bind k:=by
 unfold sC
 split
 ·rw[Ao,←DY];rfl
 ·rw[Option.bind_assoc];congr 1;funext _;exact DY lo hi mx 0 (fun _ _=>AV.nsl) k
 ·rw[Option.bind_assoc];congr 1;funext _;rw[Ao,←DY];rfl
 ·rw[Option.bind_assoc];congr 1;funext _;rw[Option.bind_assoc];congr 1;funext _;rw[Ao,←DY];rfl
 ·rfl
theorem A3q (P:Program) (t:TypeId) (op:BinOp) (x y:AV) (k:AV→O R):A3e P t op x y k=(A3e P t op x y some).bind k:=by
 unfold A3e
 split
 ·split<;>simp[Ao]
 ·split<;>simp[Ao]
 ·split<;>simp[Ao]
 ·rfl
def pr (v:AV) (u:Fy):Option (AV×Fy):=some (v,u)
theorem Aso (P:Program) (g:Bj) (t:TypeId) (p v:AV) (k:AV→Fy→O R):sD P g t p v k=(sD P g t p v pr).bind fun q=>k q.1 q.2:=by
 unfold sD
 split
 ·simp only[Option.bind_assoc,Ao]
  congr 1;funext x;congr 1;funext n;congr 1;congr 1
  split<;>simp[Ao,pr]
 ·rfl
theorem mH (P:Program) (c:LA) (org:Bool):∀ (L:List (Nat×TypeId)) (acc:LA) (k:LA→O R),nE P c org L acc k=(nE P c org L acc some).bind k
 | [],acc,k=>rfl
 | (off,t)::L,acc,k=>by
  rw[nE,nE,Ao]
  congr 1
  rw[Xr,Xr (k:=fun v=>nE P c org L (acc++[v]) some),Option.bind_assoc]
  congr 1;funext v
  exact mH P c org L _ k
theorem uN (P:Program) (co:Bool) (t:TypeId) (v:AV) (k:AV→O R):sF P co t v k=(sF P co t v some).bind k:=by
 unfold sF
 split
 ·rename_i c org
  rw[mH,mH (k:=fun l=>cond (Nat.beq c.length l.length) (some (AV.agg l)) none),Option.bind_assoc]
  congr 1;funext l
  rw[Ao];rfl
 ·rfl
theorem Akc (P:Program) (g:Bj) (d:Nat) (t:TypeId) (v:AV) (k:AV→Fy→O R):Arz P g d t v k=(Arz P g d t v pr).bind fun q=>k q.1 q.2:=by
 unfold Arz
 split<;>simp[Option.bind_assoc,Ao,pr]
theorem sW (P:Program) (g:Bj) (d:Nat) (t:TypeId) (len:Nat) (ps:List (Nat×AV)) (k:AV→Fy→O R):Ug P g d t len ps k=(Ug P g d t len ps pr).bind fun q=>k q.1 q.2:=by
 unfold Ug
 split<;>simp[Option.bind_assoc,Ao,pr,OK]
theorem yG (P:Program) (g:Bj) (d:Nat) (t:TypeId) (len:Nat) (ps:List (Nat×AV)) (k:AV→Fy→O R):Xl P g d t len ps k=(Xl P g d t len ps pr).bind fun q=>k q.1 q.2:=by
 unfold Xl
 split<;>simp[Option.bind_assoc,Ao,pr]
theorem A3r (P:Program) (t:TypeId) (co:Bool) (d:Nat) (v:AV) (k:AV→Fy→O R):A3f P t co d v k=(A3f P t co d v pr).bind fun q=>k q.1 q.2:=by
 unfold A3f
 split<;>simp[Ao,pr]
theorem Ayl (P:Program) (d:Nat) (t:TypeId) (l c:AV) (k:AV→Fy→O R):Aj0 P d t l c k=(Aj0 P d t l c pr).bind fun q=>k q.1 q.2:=by
 unfold Aj0
 split<;>simp[Option.bind_assoc,Ao,pr]
theorem Anv (P:Program) (g:Bj) (d:Nat) (t tx:TypeId) (s x:AV) (k:AV→Fy→O R):gG P g d t tx s x k=(gG P g d t tx s x pr).bind fun q=>k q.1 q.2:=by
 unfold gG lw
 split<;>simp[Option.bind_assoc,Ao,pr,SU]
theorem Aym (P:Program) (g:Bj) (t:TypeId) (s x:AV) (k:AV→Fy→O R):Aj1 P g t s x k=(Aj1 P g t s x pr).bind fun q=>k q.1 q.2:=by
 unfold Aj1 lw
 split<;>simp[Option.bind_assoc,Ao,pr,SU]
theorem Anw (P:Program) (g:Bj) (d:Nat) (t:TypeId) (k:AV→Fy→O R):gF P g d t k=(gF P g d t pr).bind fun q=>k q.1 q.2:=by
 unfold gF
 split<;>simp[Ao,pr]
theorem Asp (P:Program) (g:Bj) (t:TypeId) (s:AV) (k:AV→Fy→O R):sG P g t s k=(sG P g t s pr).bind fun q=>k q.1 q.2:=by
 unfold sG
 split<;>simp[Option.bind_assoc,Ao,pr]
theorem Ayn (P:Program) (g:Bj) (d:Nat) (src dst:TypeId) (x:AV) (k:AV→Fy→O R):Aj2 P g d src dst x k=(Aj2 P g d src dst x pr).bind fun q=>k q.1 q.2:=by
 unfold Aj2
 split
 ·split<;>simp[Ao,pr]
 ·split
  ·split<;>simp[pr]
  ·split
   ·split<;>simp[Option.bind_assoc,pr]
   ·rfl
  ·rfl
 ·split
  ·rw[Ao,Option.bind_assoc];simp only[Ao];rfl
  ·rfl
  ·rfl
 ·rfl
theorem Asq (P:Program) (g:Bj) (d:Nat) (src dst:TypeId) (x:AV) (k:AV→Fy→O R):sH P g d src dst x k=(sH P g d src dst x pr).bind fun q=>k q.1 q.2:=by
 unfold sH
 split
 ·split
  ·simp only[Option.bind_assoc,Ao];rfl
  ·rfl
 ·split
  ·simp only[Option.bind_assoc,Ao];rfl
  ·rfl
 ·exact Ayn ..
theorem yH (g:Bj) (x:AV) (k:AV→Fy→O R):Xm g x k=(Xm g x pr).bind fun q=>k q.1 q.2:=by
 unfold Xm
 split
 ·rfl
 ·simp only[Option.bind_assoc,Ao];rfl
 ·rfl
theorem yI (P:Program) (g:Bj) (t:TypeId) (x n:AV) (k:AV→Fy→O R):Xn P g t x n k=(Xn P g t x n pr).bind fun q=>k q.1 q.2:=by
 unfold Xn
 split
 ·rw[Ao];rfl
 ·simp only[Option.bind_assoc]
  congr 1;funext y;congr 1;funext q
  split
  ·simp only[Option.bind_assoc,Ao];rfl
  ·rfl
 ·rfl
theorem mI {R':Type} {f:R'→O R} {s1:TypeId→LA→LA→(Bool→Option R')→Option R'} {s2:TypeId→LA→LA→(Bool→O R)→O R} (hs:∀ t x y k,(s1 t x y k).bind f=s2 t x y fun b=>(k b).bind f) {x y:LA} :
  ∀ (l:List (Nat×TypeId)) (k:Bool→Option R'),(OA s1 x y l k).bind f=OA s2 x y l fun b=>(k b).bind f
 | [],k=>rfl
 | (o,t)::r,k=>by
  rw[OA,OA,hs]
  congr 1;funext b
  exact mI hs r _
theorem gO {R':Type} {f:R'→O R} (P:Program):∀ (d:Nat) (t:TypeId) (x y:LA) (k:Bool→Option R'),(yE P d t x y k).bind f=yE P d t x y fun b=>(k b).bind f
 | 0,t,x,y,k=>rfl
 | d+1,t,x,y,k=>by
  rw[yE,yE]
  split<;>simp only[Option.bind_assoc,Ao,Option.bind_none]
  ·congr 1;funext sz;rw[mI (gO P d)]
  ·congr 1;funext s;congr 1;funext sz;rw[mI (gO P d)]
theorem Ayo (P:Program) (t:TypeId) (op:BinOp) (x y:AV) (k:AV→O R):Ajy P t op x y k=(Ajy P t op x y some).bind k:=by
 unfold Ajy
 split
 ·rw[Option.bind_assoc]
  congr 1;funext s
  rw[Ao]
  congr 1
  split
  ·rw[gO];rfl
  ·rw[gO];rfl
  ·rfl
 ·exact A3q ..
theorem zr (P:Program) (g:Bj) (t:TypeId) (op:BinOp) (x y:AV) (k:AV→O R):Aj5 P g t op x y k=(Aj5 P g t op x y some).bind k:=by
 unfold Aj5
 split
 ·rw[Ao];congr 1;split<;>rfl
 ·exact Ayo ..
theorem zt (c x y:AV) (k:AV→O R):Aj7 c x y k=(Aj7 c x y some).bind k:=by
 unfold Aj7
 split<;>first | rfl | (rw[Ao];rfl)
theorem Asr (P:Program) (g:Bj) (co:Bool) (d:Nat) (t:TypeId) (k:AV→Fy→O R):sE P g co d t k=(sE P g co d t pr).bind fun q=>k q.1 q.2:=by
 unfold sE
 split
 ·rw[Option.bind_assoc];rfl
 ·exact Akc ..
 ·rfl
theorem zu:∀ (T:List (Nat×Tw)) (f:Nat) (b:LA) (h:Aj) (k:AV→Aj→O R),nF T f b h k=(nF T f b h fun v h'=>some (v,h')).bind fun p=>k p.1 p.2
 | [],f,b,h,k=>rfl
 | (g,t)::r,f,b,h,k=>by
  rw[nF,nF]
  cases Nat.beq g f
  ·exact zu r f b h k
  ·exact t.eq b h k
theorem Ayp (E:Env) (g:Bj) (d f:Nat) (b:LA) (k:AV→Fy→O R):Aj6 E g d f b k=(Aj6 E g d f b pr).bind fun q=>k q.1 q.2:=by
 unfold Aj6
 rw[Option.bind_assoc]
 congr 1;funext q
 simp only[Ao,Option.bind_none]
 congr 1
 rw[zu,zu (R:=AV×Fy),Option.bind_assoc]
 congr 1;funext p
 simp only[Ao,Option.bind_none,pr,Option.bind_some]
theorem Agz (d:Nat) (o:Option AV) (k:AV→Fy→O R):GD d o k=(GD d o pr).bind fun q=>k q.1 q.2:=by
 unfold GD
 split<;>rfl
theorem Ass (P:Program) (g:Bj) (t:TypeId) (m x y:AV) (k:AV→Fy→O R):sI P g t m x y k=(sI P g t m x y pr).bind fun q=>k q.1 q.2:=by
 unfold sI
 split<;>simp[Ao,Option.bind_assoc,pr]
theorem Ast (P:Program) (d:Nat) (t:TypeId) (x:AV) (k:AV→Fy→O R):sJ P d t x k=(sJ P d t x pr).bind fun q=>k q.1 q.2:=by
 unfold sJ
 split<;>rfl
theorem Ayq (g:Bj) (it:AV) (b:Bool) (k:AV→Fy→O R):Aj4 g it b k=(Aj4 g it b pr).bind fun q=>k q.1 q.2:=by
 unfold Aj4
 split
 ·rw[Option.bind_assoc];congr 1;funext x
  rw[Ao];congr 1
  split
  ·rename_i s p _
   cases decide (p<(s.length:Int))<;>rfl
  ·rfl
 ·rfl
theorem zw (P:Program) (g:Bj) (t:TypeId) (m x:AV) (c:Bool) (k:AV→O R):Aj3 P g t m x c k=(Aj3 P g t m x c some).bind k:=by
 unfold Aj3
 split<;>simp[Ao,Option.bind_assoc]
theorem A3s (E:Env) (g:Bj) (d:Nat) (v:Operand→AV) (o:Op) (k:AV→Fy→O R):Agu E g d v o k=(Agu E g d v o pr).bind fun q=>k q.1 q.2:=by
 unfold Agu
 split
 ·rfl
 ·rfl
 ·rw[zt,zt (k:=fun r=>pr r []),Option.bind_assoc];rfl
 ·rw[Ao,←Anw,←Asr]
 ·rw[uN,uN (k:=fun u=>Arz E.P g d _ u pr),Option.bind_assoc];congr 1;funext u;exact Akc ..
 ·rw[mB,mB,Option.bind_assoc];congr 1;funext x;exact A3r ..
 ·rw[Ao,←yG,←sW]
 ·rw[SV,SV (k:=fun r=>pr r []),Option.bind_assoc];rfl
 ·exact Aso ..
 ·split<;>rfl
 ·rw[zr,zr (k:=fun r=>pr r []),Option.bind_assoc];rfl
 ·rw[Option.bind_assoc];rfl
 ·exact Asq ..
 ·rw[Ao];rfl
 ·exact Ayl ..
 ·rw[uM,uM (k:=fun r=>pr r []),Option.bind_assoc];rfl
 ·rw[WE,WE (k:=fun r=>pr r []),Option.bind_assoc];rfl
 ·rw[uK,uK (k:=fun r=>pr r []),Option.bind_assoc];rfl
 ·rw[WD,WD (k:=fun r=>pr r []),Option.bind_assoc];rfl
 ·rw[uL,uL (k:=fun r=>pr r []),Option.bind_assoc];rfl
 ·exact Agz ..
 ·exact Ass ..
 ·rw[zw,zw (k:=fun r=>pr r []),Option.bind_assoc];rfl
 ·exact Ast ..
 ·exact Ayq ..
 ·split
  ·rw[Option.bind_assoc];rfl
  ·rfl
 ·split
  ·split
   ·rw[Option.bind_assoc];rfl
   ·rfl
  ·split
   ·exact Anv ..
   ·rfl
  ·split
   ·exact Aym ..
   ·rfl
  ·split
   ·exact Asp ..
   ·rfl
  ·split
   ·rw[Option.bind_assoc];rfl
   ·simp only[Option.bind_assoc];rfl
   ·rfl
  ·split
   ·rw[Option.bind_assoc];rfl
   ·simp only[Option.bind_assoc];rfl
   ·rfl
  ·split
   ·exact yH ..
   ·rfl
  ·split
   ·exact yI ..
   ·rfl
  ·split
   ·rw[Ao,←Ayp,Ao];congr 1;congr 1
    split<;>rfl
   ·rfl
  ·rfl
 ·rfl
end
end Gx

namespace Gx
open Go
theorem OM:∀ {l acc:List Nat} {b:Nat},b ∈ tz l acc↔b ∈ l∨b ∈ acc
 | [],acc,b=>by simp[tz]
 | i::r,acc,b=>by
  rw[tz]
  cases c:Kt acc i with
  | true =>
   simp only[cond_true]
   rw[OM]
   have:=Nx.1 c
   constructor
   ·rintro(h | h)
    ·exact .inl (by simp[h])
    ·exact .inr h
   ·rintro(h | h)
    ·rcases List.mem_cons.1 h with e | h
     ·subst e;exact .inr this
     ·exact .inl h
    ·exact .inr h
  | false =>
   simp only[cond_false]
   rw[OM]
   simp only[List.mem_cons]
   constructor
   ·rintro(h | h | h)
    ·exact .inl (.inr h)
    ·exact .inl (.inl h)
    ·exact .inr h
   ·rintro((h | h) | h)
    ·exact .inr (.inl h)
    ·exact .inl h
    ·exact .inr (.inr h)
theorem JC {g g':Bj}:∀ {l:List Nat},(∀ b ∈ l,g' b=g b)→Nv g' l=Nv g l
 | [],_=>rfl
 | i::r,h=>by
  rw[Nv,Nv,h i (by simp),JC (fun b c=>h b (by simp[c]))]
theorem nR {g:Bj}:∀ {a b:List Nat},Nv g (a++b)=Nv g a++Nv g b
 | [],b=>rfl
 | i::r,b=>by rw[List.cons_append,Nv,Nv,nR,List.append_assoc]
theorem Asu {g g':Bj} {ids:List Nat} (h:∀ b ∈ GE g ids,g' b=g b):GE g' ids=GE g ids:=by
 have d:∀ b ∈ ids,g' b=g b:=fun b c=>h b (OM.2 (.inl (List.mem_append.2 (.inl c))))
 have e1:Nv g' ids=Nv g ids:=JC d
 have e:∀ b ∈ Nv g ids,g' b=g b:=fun b c=>h b (OM.2 (.inl (List.mem_append.2 (.inr (by rw[nR];exact List.mem_append.2 (.inl c))))))
 unfold GE
 rw[e1,JC (l:=ids++Nv g ids) (fun b c=>by
  rcases List.mem_append.1 c with c | c
  ·exact d b c
  ·exact e b c)]
section
variable {R:Type} {E:Env} {ops:Array Oper} {o p:Oper} {st A2j st2:St}
theorem uO {v v':Operand→AV} {parts:Array (Nat×Operand)} (h:∀ q ∈ parts.toList,v' q.2=v q.2):(parts.toList.map fun q=>(q.1,v' q.2))=(parts.toList.map fun q=>(q.1,v q.2)) :=
 List.map_congr_left (fun q hq=>by rw[h q hq])
theorem Ayr {g:Bj} {d:Nat} {v v':Operand→AV} {op:Op} {k:AV→Fy→O R} (h:∀ x ∈ op.operands.toList,v' x=v x):Agu E g d v' op k=Agu E g d v op k:=by
  unfold Agu
  cases op
  case build t parts =>
    simp only
    rw[uO (v:=v) (v':=v') (fun q hq=>h q.2 (by simp[Op.operands];exact⟨q.1,by simpa using hq⟩))]
  case buildSlice t n parts =>
    simp only
    rw[uO (v:=v) (v':=v') (fun q hq=>h q.2 (by simp[Op.operands];exact⟨q.1,by simpa using hq⟩))]
  case slice t x lo hi mx =>
    simp only
    have e:v' x=v x:=h x (by simp[Op.operands])
    have l:lo.map v'=lo.map v:=by
      cases lo with
      | none=>rfl
      | some y=>simp;exact h y (by simp[Op.operands])
    have m:hi.map v'=hi.map v:=by
      cases hi with
      | none=>rfl
      | some y=>simp;exact h y (by simp[Op.operands])
    have s:mx.map v'=mx.map v:=by
      cases mx with
      | none=>rfl
      | some y=>simp;exact h y (by simp[Op.operands])
    rw[e,l,m,s]
  case makeMap t rr =>
    simp only
    have e:rr.map v'=rr.map v:=by
      cases rr with
      | none=>rfl
      | some y=>simp;exact h y (by simp[Op.operands])
    rw[e]
  case makeFunc f first caps =>
    cases f<;>try rfl
    simp only
    have:(first.toList++caps.toList).map v'=(first.toList++caps.toList).map v:=List.map_congr_left (fun x j=>h x (by simp[Op.operands];simpa using j))
    rw[this]
  case call c =>
    have i:∀ x ∈ c.args.toList,v' x=v x:=fun x j=>h x (by
      simp only[Op.operands,Call.operands,Array.toList_append]
      exact List.mem_append.2 (.inr j))
    have u:c.args.toList.map v'=c.args.toList.map v:=List.map_congr_left i
    simp only
    cases z:c.callee with
    | value f =>
      have A:v' f=v f:=h f (by simp[Op.operands,Call.operands,z])
      simp only[A,u]
    | invoke a b=>rfl
    | builtin b =>
      cases b<;>try rfl
      all_goals
        simp only
        split
        · first
            | (rename_i e l
               simp only[e,List.mem_cons,List.not_mem_nil,or_false,forall_eq_or_imp,forall_eq] at i
               simp only[i])
            | (rename_i e
               simp only[e,List.mem_cons,List.not_mem_nil,or_false,forall_eq_or_imp,forall_eq] at i
               simp only[i])
        all_goals first
          | rfl
          | (rename_i e
             simp only[e,List.mem_cons,List.not_mem_nil,or_false,forall_eq_or_imp,forall_eq] at i
             simp only[i])
  all_goals first
    | rfl
    | (simp[Op.operands] at h;simp[h])
end
end Gx

namespace Gx
open Go
section
variable {R:Type} {E:Env} {ops:Array Oper} {o p:Oper} {st A2j st2 st3:St}
def A2k (ops:Array Oper) (o:Oper):List Nat:=match gH ops o with | some p=>[p.1] | none=>[]
def MR (o:Oper) (s:Ip):LA:=o.op.operands.toList.map (ev s)
def Anx (h:Aj) (F:List Nat):Bj:=fun b=>cond (Kt F b) (Am h b) none
def Bcj (o:Oper):Nat:=o.dst.getD 50000
def Wz (E:Env) (ops:Array Oper) (o:Oper) (st:St):Option (AV×Fy×Foot) :=
  (SG ops st.s o).bind fun wanted=>cond wanted
    ((Agu E (Anx st.h (CB st.h o.op (MR o st.s))) (Bcj o) (ev st.s) o.op pr).bind fun q =>
      cond (ii (Bcj o) (CB st.h o.op (MR o st.s)) st.h q.2) (some (q.1,q.2,{ r:=A2k ops o++lz o.op.operands.toList,w:=o.dst,f:=CB st.h o.op (MR o st.s),u:=q.2.map (·.1) })) none)
    (some (.tup [],[],{ r:=A2k ops o,w:=o.dst,f:=[],u:=[] }))
def after (E:Env) (o:Oper) (st:St) (q:AV×Fy×Foot):St:={ s:=Ax7 E.nt st.s o.dst q.1,h:=Al q.2.1 st.h }
theorem gP (k:St→Foot→O R):Ar2 E ops o st k=(Wz E ops o st).bind fun q=>k (after E o st q) q.2.2:=by
 unfold Ar2 Wz
 rw[Option.bind_assoc]
 congr 1;funext t
 rw[Ao]
 congr 1
 rw[A3s,Option.bind_assoc]
 congr 1;funext q
 rw[Ao]
 rfl
theorem zx:∀ {l:List Operand} {t:Nat},Operand.tmp t ∈ l→t ∈ lz l
 | [],t,h=>by simp at h
 | x::r,t,h=>by
  rcases List.mem_cons.1 h with e | h'
  ·subst e;simp[lz]
  ·have b:=zx h'
   cases x<;>simp[lz]<;>first | exact .inr b | exact b
theorem uP {d:Nat} {F:List Nat} {h e:Aj}:∀ {ups:Fy},(∀ b ∈ ups.map (·.1),Am e b=Am h b)→ii d F e ups=ii d F h ups
 | [],_=>rfl
 | (b,_)::r,f=>by rw[ii,ii,f b (by simp),uP (fun c i=>f c (by simp at i ⊢;exact .inr i))]
theorem ix {s s2:Ip} (h:∀ t ∈ A2k ops o,Hb s2 t=Hb s t):SG ops s2 o=SG ops s o:=by
 unfold SG
 cases b:o.guard with
 | none=>rfl
 | some q =>
  obtain⟨j,want⟩:=q
  simp only
  cases c:(ops[j]?).bind (·.dst) with
  | none=>rfl
  | some t =>
   have:Hb s2 t=Hb s t:=h t (by simp[A2k,gH,b,c])
   simp only[this]
theorem bO {q:AV×Fy×Foot} (k:Wz E ops o st=some q) (hr:∀ t ∈ q.2.2.r,Hb st2.s t=Hb st.s t) (c:∀ b,b ∈ q.2.2.f∨b ∈ q.2.2.u→Am st2.h b=Am st.h b):Wz E ops o st2=some q:=by
 have z:=k
 unfold Wz at k
 obtain⟨t,i,j⟩:=ub k
 cases t with
 | false =>
  simp at j;subst j
  unfold Wz
  rw[ix (s:=st.s) hr,i];rfl
 | true =>
  rw[cond_true] at j
  obtain⟨x,A,C⟩:=ub j
  obtain⟨D,n⟩:=uc C
  simp at n;subst n
  simp only at hr c
  have v:∀ y ∈ o.op.operands.toList,ev st2.s y=ev st.s y:=fun y F=>by
   cases y with
   | tmp t=>exact hr t (List.mem_append.2 (.inr (zx F)))
   | const _=>rfl
   | global _=>rfl
   | func _=>rfl
  have d:MR o st2.s=MR o st.s:=List.map_congr_left v
  have hF:CB st2.h o.op (MR o st.s)=CB st.h o.op (MR o st.s):=by
   unfold CB at c ⊢
   cases l:A2b o.op with
   | true =>
    rw[l] at c
    cases m:A2c o.op with
    | true=>rfl
    | false=>rw[m] at c;exact Asu (fun b e=>c b (.inl e))
   | false=>rfl
  have G:Anx st2.h (CB st.h o.op (MR o st.s))=Anx st.h (CB st.h o.op (MR o st.s)):=by
   funext b
   unfold Anx
   cases e:Kt (CB st.h o.op (MR o st.s)) b with
   | false=>rfl
   | true=>simp only[cond_true];exact c b (.inl (Nx.1 e))
  unfold Wz
  rw[ix (s:=st.s) (fun t i=>hr t (List.mem_append.2 (.inl i))),i]
  simp only[Option.bind_some,cond_true]
  rw[d,hF,G,Ayr v,A]
  simp only[Option.bind_some]
  rw[uP (h:=st.h) (fun b e=>c b (.inr e)),D]
  rfl
theorem gQ:∀ {ups:Fy} {b:Nat},Be ups b=true↔b ∈ ups.map (·.1)
 | [],b=>by simp[Be]
 | (i,_)::r,b=>by
  rw[Be]
  cases hi:Nat.beq i b with
  | true=>have:=Nat.eq_of_beq_eq_true hi;subst this;simp
  | false =>
   have ne:=CO hi
   simp only[cond_false]
   rw[gQ]
   simp only[List.map_cons,List.mem_cons]
   constructor
   ·exact fun h=>.inr h
   ·rintro(h | h)
    ·exact absurd h.symm ne
    ·exact h
theorem A2l {q:AV×Fy×Foot} (c:Wz E ops o st=some q):q.2.2.w=o.dst∧q.2.2.u=q.2.1.map (·.1):=by
 unfold Wz at c
 obtain⟨t,f,b⟩:=ub c
 cases t with
 | false=>simp at b;subst b;simp
 | true =>
  rw[cond_true] at b
  obtain⟨x,i,e⟩:=ub b
  obtain⟨j,d⟩:=uc e
  simp at d;subst d;simp
theorem Ir:∀ (ups:Fy) {h e:Aj},(∀ b,Am e b=Am h b)→∀ b,Am (Al ups e) b=Am (Al ups h) b
 | [],_,_,d,b=>d b
 | (i,some x)::r,h,e,d,b=>Ir r (fun c=>by rw[Ah,Ah,d c]) b
 | (i,none)::r,h,e,d,b=>by
  rw[Al,Al]
  refine Ir r (fun c=>?_) b
  rw[d i]
  split
  ·rw[Ah,Ah,d c]
  ·exact d c
theorem Asv {q:AV×Fy×Foot} (h:Eqv st st2):Eqv (after E o st q) (after E o st2 q):=by
 refine⟨fun t=>?_,fun b=>?_⟩
 ·unfold after;simp only;rw[Qz,Qz,h.1 t]
 ·exact(Ir q.2.1 (fun b=>(h.2 b).symm) b).symm
theorem Vf {i:Nat} {y:Blk}:∀ (ups:Fy) {h:Aj},Be ups i=false→∀ b,Am (Al ups (Gg h i y)) b=if b=i then some y else Am (Al ups h) b
 | [],h,_,b=>Ah h i y b
 | (j,some x)::r,h,hi,b=>by
  rw[Be] at hi
  cases d:Nat.beq j i with
  | true=>rw[d] at hi;simp at hi
  | false =>
   rw[d] at hi
   have ne:=CO d
   rw[Al,Al,Ir r (h:=Gg (Gg h j x) i y) (fun c=>by
    rw[Ah,Ah,Ah,Ah]
    by_cases e1:c=j
    ·subst e1;simp[ne]
    ·simp[e1]) b]
   exact Vf r hi b
 | (j,none)::r,h,hi,b=>by
  rw[Be] at hi
  cases d:Nat.beq j i with
  | true=>rw[d] at hi;simp at hi
  | false =>
   rw[d] at hi
   have ne:=CO d
   rw[Al,Al,Ah,if_neg ne]
   split
   ·rename_i x e
    rw[Ir r (h:=Gg (Gg h j { x with dead:=true,pure:=true,cells:=[] }) i y) (fun c=>by
     rw[Ah,Ah,Ah,Ah]
     by_cases e1:c=j
     ·subst e1;simp[ne]
     ·simp[e1]) b]
    exact Vf r hi b
   ·exact Vf r hi b
theorem Y2:∀ (u1 u2:Fy) (h:Aj),(∀ b,Be u1 b=true→Be u2 b=false)→∀ b,Am (Al u2 (Al u1 h)) b=Am (Al u1 (Al u2 h)) b
 | [],u2,h,_,b=>rfl
 | (i,some x)::r,u2,h,d,b=>by
  rw[Al,Al]
  have hi:Be u2 i=false:=d i (by simp[Be])
  rw[Y2 r u2 (Gg h i x) (fun c e=>d c (by rw[Be,e];cases Nat.beq i c<;>rfl)) b]
  refine Ir r (fun c=>?_) b
  rw[Vf u2 hi,Ah]
 | (i,none)::r,u2,h,d,b=>by
  rw[Al,Al]
  have hi:Be u2 i=false:=d i (by simp[Be])
  rw[Db u2 h i hi]
  split
  ·rename_i x f
   rw[Y2 r u2 _ (fun c e=>d c (by rw[Be,e];cases Nat.beq i c<;>rfl)) b]
   refine Ir r (fun c=>?_) b
   rw[Vf u2 hi,Ah]
  ·exact Y2 r u2 h (fun c e=>d c (by rw[Be,e];cases Nat.beq i c<;>rfl)) b
theorem zy:∀ {a l:List Nat},Ar1 a l=true→∀ b ∈ a,b ∉ l
 | [],l,_,b,c=>by simp at c
 | i::r,l,h,b,c=>by
  rw[Ar1] at h;simp at h
  rcases List.mem_cons.1 c with e | c
  ·subst e;intro d;rw[Nx.2 d] at h;simp at h
  ·exact zy h.2 b c
theorem Aaa {q:AV×Fy×Foot} {t:Nat} (h:o.dst≠some t):Hb (after E o st q).s t=Hb st.s t:=by
 unfold after;simp only;rw[Qz,if_neg (fun b=>h b.1)]
theorem Aab {q:AV×Fy×Foot} {b:Nat} (h:b ∉ q.2.1.map (·.1)):Am (after E o st q).h b=Am st.h b:=by
 unfold after;simp only
 rw[Db]
 cases hi:Be q.2.1 b with
 | false=>rfl
 | true=>exact absurd (gQ.1 hi) h
theorem Akd {w:Option Nat} {l:List Nat} (h:Bbv w l=false):∀ t ∈ l,w≠some t:=by
 intro t b e
 subst e
 rw[Bbv,Nx.2 b] at h;cases h
theorem Bb0 {f d:AV×Fy×Foot} (m:Wz E ops p st=some f) (n:Wz E ops o (after E p st f)=some d) (hi:uA f.2.2 d.2.2=true) :
  Wz E ops o st=some d∧Wz E ops p (after E o st d)=some f∧Eqv (after E p (after E o st d) f) (after E o (after E p st f) d):=by
 unfold uA at hi
 simp only[Bool.and_eq_true,Bool.not_eq_true'] at hi
 obtain⟨⟨⟨⟨i1,i2⟩,i3⟩,i4⟩,i5⟩:=hi
 obtain⟨q,u1⟩:=A2l m
 obtain⟨s,u2⟩:=A2l n
 have k:=zy i4
 have v:=zy i5
 have a1:Wz E ops o st=some d:=bO n (fun t l=>(Aaa (by rw[←q];exact Akd i1 t l)).symm) (fun b e=>(Aab (fun j=>by
  rw[←u1] at j
  exact k b j (by rcases e with e | e<;>simp[e]))).symm)
 have a2:Wz E ops p (after E o st d)=some f:=bO m (fun t l=>Aaa (by rw[←s];exact Akd i2 t l)) (fun b e=>Aab (fun j=>by
  rw[←u2] at j
  rcases e with e | e
  ·exact v b j e
  ·exact k b e (by simp[j])))
 refine⟨a1,a2,fun t=>?_,fun b=>?_⟩
 ·unfold after;simp only
  rw[Qz,Qz,Qz,Qz]
  by_cases e1:p.dst=some t∧t<E.nt
  ·by_cases i:o.dst=some t∧t<E.nt
   ·exfalso
    rw[q,s,e1.1,i.1] at i3
    simp at i3
   ·rw[if_pos e1,if_neg i,if_pos e1]
  ·by_cases i:o.dst=some t∧t<E.nt
   ·rw[if_neg e1,if_pos i,if_pos i]
   ·rw[if_neg e1,if_neg i,if_neg i,if_neg e1]
 ·unfold after;simp only
  refine(Y2 f.2.1 d.2.1 st.h (fun c x=>?_) b).symm
  cases y:Be d.2.1 c with
  | false=>rfl
  | true =>
   have m1:c ∈ f.2.2.u:=by rw[u1];exact gQ.1 x
   have m2:c ∈ d.2.2.u:=by rw[u2];exact gQ.1 y
   exact absurd (by simp[m2]) (k c m1)
def RunF (E:Env) (ops:Array Oper) (fp:Nat→Foot):List (Nat×Oper)→St→St→Prop
 | [],st,e=>Eqv st e
 | (i,o)::r,st,e=>∃ q,Wz E ops o st=some q∧q.2.2=fp i∧RunF E ops fp r (after E o st q) e
theorem RunF.congr {fp:Nat→Foot}:∀ {l:List (Nat×Oper)} {st st2 e:St},RunF E ops fp l st e→Eqv st st2→RunF E ops fp l st2 e
 | [],st,st2,e,h,c=>c.symm.trans h
 | (i,o)::r,st,st2,e,h,c=>by
  rw[RunF] at h ⊢
  obtain⟨q,d,f,j⟩:=h
  exact⟨q,bO d (fun t _=>(c.1 t).symm) (fun b _=>(c.2 b).symm),f,RunF.congr j (Asv c)⟩
theorem RunF.pull {fp:Nat→Foot} {i:Nat} {o:Oper} {B:List (Nat×Oper)}:∀ {A:List (Nat×Oper)} {st e:St},RunF E ops fp (A++(i,o)::B) st e→(∀ jp ∈ A,uA (fp jp.1) (fp i)=true) →
  ∃ q,Wz E ops o st=some q∧q.2.2=fp i∧RunF E ops fp (A++B) (after E o st q) e
 | [],st,e,h,_=>h
 | (j,p)::A,st,e,h,hA=>by
  rw[List.cons_append,RunF] at h
  obtain⟨b,k,c,l⟩:=h
  obtain⟨d,m,f,n⟩:=RunF.pull l (fun jp s=>hA jp (by simp[s]))
  have hi:uA b.2.2 d.2.2=true:=by rw[c,f];exact hA (j,p) (by simp)
  obtain⟨a1,a2,a3⟩:=Bb0 k m hi
  refine⟨d,a1,f,?_⟩
  rw[List.cons_append,RunF]
  exact⟨b,a2,c,RunF.congr n a3.symm⟩
end
end Gx

namespace Gx
open Go
def A2m:Nat→List Oper→List (Nat×Oper)
 | _,[]=>[]
 | n,o::r=>(n,o)::A2m (n+1) r
theorem zA:∀ {l:List Oper} {n:Nat} {p:Nat×Oper},p ∈ A2m n l↔n≤p.1∧l[p.1 - n]?=some p.2
 | [],n,p=>by simp[A2m]
 | o::r,n,p=>by
  rw[A2m,List.mem_cons,zA]
  constructor
  ·rintro(rfl | ⟨d,c⟩)
   ·simp
   ·refine⟨by omega,?_⟩
    rw[show p.1 - n=(p.1 - (n+1))+1 by omega];simpa using c
  ·rintro⟨d,c⟩
   by_cases e:p.1=n
   ·left
    rw[e] at c;simp at c
    obtain⟨a,b⟩:=p
    simp at e c;subst e c;rfl
   ·right
    refine⟨by omega,?_⟩
    rw[show p.1 - n=(p.1 - (n+1))+1 by omega] at c;simpa using c
theorem Aac:∀ (l:List Oper) (n:Nat),(A2m n l).Pairwise (fun a b=>a.1<b.1)
 | [],n=>List.Pairwise.nil
 | o::r,n=>by
  rw[A2m]
  refine List.pairwise_cons.2 ⟨fun p c=>?_,Aac r (n+1)⟩
  have:=(zA.1 c).1
  show n<p.1;omega
section
variable {R:Type} {r:R} {Z:Start} {E:Env} {ops:Array Oper}
def RunL (E:Env) (ops:Array Oper):List Oper→List Foot→St→St→Prop
 | [],[],st,e=>st=e
 | o::l,f::fs,st,e=>∃ st' q,Eqv st st'∧Wz E ops o st'=some q∧q.2.2=f∧RunL E ops l fs (after E o st' q) e
 | _,_,_,_=>False
theorem Asw:∀ {l:List Oper} {st:St} {tr:List Foot} {k:St→List Foot→O R},z6 E ops l st tr k=some r→∃ fs e,k e (fs.reverse++tr)=some r∧RunL E ops l fs st e
 | [],st,tr,k,h=>⟨[],st,by simpa[z6] using h,rfl⟩
 | o::l,st,tr,k,h=>by
  rw[z6] at h
  obtain⟨st',b,h⟩:=zn h
  rw[gP] at h
  obtain⟨q,c,d⟩:=ub h
  obtain⟨fs,e,f,i⟩:=Asw d
  exact⟨q.2.2::fs,e,by simpa using f,st',q,b,c,rfl,i⟩
theorem RunL.length:∀ {l:List Oper} {fs:List Foot} {st e:St},RunL E ops l fs st e→fs.length=l.length
 | [],[],_,_,_=>rfl
 | [],_::_,_,_,h=>h.elim
 | _::_,[],_,_,h=>h.elim
 | o::l,f::fs,st,e,⟨_,q,_,_,_,h⟩=>by simp[RunL.length h]
theorem RunL.runF {fp:Nat→Foot}:∀ {l:List Oper} {fs:List Foot} {n:Nat} {st e:St},RunL E ops l fs st e→(∀ (j:Nat) (f:Foot),fs[j]?=some f→fp (n+j)=f)→RunF E ops fp (A2m n l) st e
 | [],[],n,st,e,h,_=>by subst h;exact Eqv.refl _
 | [],_::_,_,_,_,h,_=>h.elim
 | _::_,[],_,_,_,h,_=>h.elim
 | o::l,f::fs,n,st,e,⟨st',q,c,d,i,k⟩,b=>by
  rw[A2m]
  refine RunF.congr ?_ c.symm
  rw[RunF]
  refine⟨q,d,by rw[i];exact(b 0 f (by simp)).symm,RunL.runF k (fun j g m=>?_)⟩
  have:=b (j+1) g (by simpa using m)
  rwa [show n+(j+1)=n+1+j by omega] at this
theorem uQ {f:Foot} {anc:List Nat}:∀ {seen:List Foot} {i:Nat},nH f anc i seen=true→∀ (j:Nat) (g:Foot),seen[j]?=some g→(i+j) ∈ anc∨uA g f=true
 | [],i,_,j,g,b=>by simp at b
 | x::r,i,h,j,g,b=>by
  rw[nH] at h;simp only[Bool.and_eq_true,Bool.or_eq_true] at h
  cases j with
  | zero =>
   simp at b;subst b
   rcases h.1 with c | c
   ·exact .inl (Nx.1 c)
   ·exact .inr c
  | succ j =>
   have:=uQ h.2 j g (by simpa using b)
   rwa [show i+1+j=i+(j+1) by omega] at this
theorem Aad:∀ {fs:List Foot} {az9:List (List Nat)} {seen:List Foot},gI fs az9 seen=true→∀ (i:Nat) (f:Foot),fs[i]?=some f →
  ∃ a,az9[i]?=some a∧∀ (j:Nat) (g:Foot),(seen++fs)[j]?=some g→j<seen.length+i→j ∈ a∨uA g f=true
 | [],az9,seen,_,i,f,b=>by simp at b
 | x::r,[],seen,h,i,f,b=>by simp[gI] at h
 | x::r,a::az9,seen,h,i,f,b=>by
  rw[gI] at h;simp only[Bool.and_eq_true] at h
  cases i with
  | zero =>
   simp at b;subst b
   refine⟨a,by simp,fun j g c d=>?_⟩
   rw[List.getElem?_append,if_pos (by omega)] at c
   simpa using uQ h.1 j g c
  | succ i =>
   obtain⟨e,k,l⟩:=Aad h.2 i f (by simpa using b)
   refine⟨e,by simpa using k,fun j g c d=>l j g ?_ (by simp;omega)⟩
   simpa using c
theorem MS:∀ {l:List Oper} {acc:List (List Nat)} {i:Nat},i<acc.length→(Ij l acc)[i]?=acc[i]?
 | [],acc,i,_=>rfl
 | o::r,acc,i,hi=>by
  rw[Ij,OH,MS (by simp;omega),List.getElem?_append,if_pos hi]
theorem SW:∀ {l:List Oper} {acc:List (List Nat)} {i:Nat} {a:List Nat},(Ij l acc)[i]?=some a→acc.length≤i→∃ o,l[i - acc.length]?=some o ∧
  ∀ k ∈ a,k ∈ SH o∨∃ j d,j ∈ SH o∧j<i∧(Ij l acc)[j]?=some d∧k ∈ d
 | [],acc,i,a,h,hi=>by
  rw[Ij,List.getElem?_eq_none hi] at h;cases h
 | o::r,acc,i,a,h,hi=>by
  by_cases e:i=acc.length
  ·subst e
   rw[Ij,OH,MS (by simp)] at h
   simp only[List.getElem?_concat_length,Option.some.injEq] at h
   refine⟨o,by simp,fun k b=>?_⟩
   rw[←h,OM] at b
   replace b:=b.resolve_right (by simp)
   rcases List.mem_append.1 b with b | b
   ·exact .inl b
   ·right
    obtain⟨j,n,b⟩:=List.mem_flatMap.1 b
    cases f:acc[j]? with
    | none=>rw[f] at b;simp at b
    | some d =>
     rw[f] at b;simp at b
     have c:j<acc.length:=(List.getElem?_eq_some_iff.1 f).1
     exact⟨j,d,n,c,by rw[MS c];exact f,b⟩
  ·rw[Ij,OH] at h
   obtain⟨o',m,q⟩:=SW h (by simp;omega)
   refine⟨o',?_,fun k b=>?_⟩
   ·simp at m
    rw[show i - acc.length=(i - (acc.length+1))+1 by omega];simpa using m
   ·rw[Ij,OH];exact q k b
theorem nS:∀ {l:List Oper} {n i:Nat} {o:Oper},FO n l=true→l[i]?=some o→∀ e ∈ o.after,bE e=true→e.on<n+i
 | [],n,i,o,_,hi,_,_,_=>by simp at hi
 | x::r,n,i,o,h,hi,e,b,c=>by
  rw[FO] at h;simp only[Bool.and_eq_true] at h
  cases i with
  | zero =>
   simp at hi;subst hi
   have:=List.all_eq_true.1 h.1 e (by simpa using b)
   rw[c] at this;simpa using this
  | succ i =>
   have:=nS h.2 (by simpa using hi) e b c
   omega
theorem Ake (e:Edge):Region.binds .any e=bE e:=by
 unfold Region.binds bE
 cases e.ground<;>rfl
theorem Ays {listed:Array Bool} (hclosed:∀ (j:Nat) (o:Oper),ops[j]?=some o→listed.getD j true=true→∀ k ∈ SH o,listed.getD k false=true) :
  ∀ (i:Nat) (a:List Nat) (o:Oper),(Ij ops.toList [])[i]?=some a→ops[i]?=some o→(∀ k ∈ SH o,listed.getD k false=true)→∀ k ∈ a,listed.getD k false=true:=by
 intro i
 induction i using Nat.strongRecOn with
 | _ i s =>
  intro a o t u m k v
  obtain⟨o',e,x⟩:=SW t (by simp)
  simp at e
  rw[u] at e;simp at e;subst e
  rcases x k v with f | ⟨j,y,f,z,n,A⟩
  ·exact m k f
  ·have c:=m j f
   obtain⟨oj,d,_⟩:=SW n (by simp)
   simp at d
   have l:listed.getD j true=true:=by
    rw[Array.getD_eq_getD_getElem?] at c ⊢
    cases q:listed[j]? with
    | none=>rw[q] at c;simp at c
    | some b=>rw[q] at c;simpa using c
   exact s j z y oj n d (hclosed j oj d l) k A
def Jq (ops:Array Oper) (listed:Array Bool):List (Nat×Oper):=(A2m 0 ops.toList).filter fun p=>!listed.getD p.1 true
theorem bR (listed:Array Bool):(Jq ops listed).Pairwise (fun a b=>a.1<b.1):=(Aac _ _).filter _
theorem ON {listed:Array Bool} {p:Nat×Oper}:p ∈ Jq ops listed↔ops[p.1]?=some p.2∧listed.getD p.1 true=false:=by
 unfold Jq
 rw[List.mem_filter,zA]
 simp
theorem Asx {listed:Array Bool} {i:Nat} {o:Oper} {A B:List (Nat×Oper)} (h:Jq ops listed=A++(i,o)::B):Jq ops (listed.setIfInBounds i true)=A++B:=by
 have hi:(i,o) ∈ Jq ops listed:=by rw[h];simp
 have b:=(ON.1 hi).2
 have d:i<listed.size:=by
  rw[Array.getD_eq_getD_getElem?] at b
  rcases Nat.lt_or_ge i listed.size with f | f
  ·exact f
  ·rw[Array.getElem?_eq_none f] at b;simp at b
 have k:Jq ops (listed.setIfInBounds i true)=(Jq ops listed).filter fun p=>!Nat.beq p.1 i:=by
  unfold Jq
  rw[List.filter_filter]
  congr 1;funext p
  by_cases e:p.1=i
  ·rw[e];simp[d]
  ·rw[getD_set_ne true (fun l=>e l.symm),aO e];simp
 rw[k,h,List.filter_append,List.filter_cons]
 have hs:=bR (ops:=ops) listed
 rw[h] at hs
 have c:=List.pairwise_append.1 hs
 have hB:=List.pairwise_cons.1 c.2.1
 have e1:A.filter (fun p=>!Nat.beq p.1 i)=A:=List.filter_eq_self.2 (fun p j=>by
  have:p.1<i:=c.2.2 p j (i,o) (by simp)
  rw[aO (by omega)];rfl)
 have m:B.filter (fun p=>!Nat.beq p.1 i)=B:=List.filter_eq_self.2 (fun p j=>by
  have:i<p.1:=hB.1 p j
  rw[aO (by omega)];rfl)
 rw[e1,m];simp
theorem A3t (hC:mD E) {Q:Exit→Act→World→Prop} {fp:Nat→Foot} {e:St} (Y:FO 0 ops.toList=true)
  (C:∀ (i j:Nat) (o:Oper),ops[i]?=some o→j<i→∃ a,(Ij ops.toList [])[i]?=some a∧(j ∈ a∨uA (fp j) (fp i)=true))
  (hQ:∀ a' w' J' β',Inv Z E.nt J' β' e a' w'→Q .normal a' w') :
  ∀ (fuel:Nat) (listed:Array Bool) {st:St} {a:Act} {w:World} {J:Bool→Nat→Prop} {β:Cp},listed.size=ops.size→(Jq ops listed).length=fuel →
   (∀ (j:Nat) (o:Oper),ops[j]?=some o→listed.getD j true=true→∀ k ∈ SH o,listed.getD k false=true) →
   RunF E ops fp (Jq ops listed) st e→Inv Z E.nt J β st a w→wpAny E.P .any ops Q fuel listed a w:=by
 intro fuel
 have fin:∀ (listed:Array Bool) {st:St} {a:Act} {w:World} {J:Bool→Nat→Prop} {β:Cp},Jq ops listed=[]→RunF E ops fp (Jq ops listed) st e→Inv Z E.nt J β st a w→Region.ready .any ops listed=[]∧Q .normal a w:=by
  intro listed st a w J β hr c I
  refine⟨List.eq_nil_iff_forall_not_mem.2 (fun i hi=>?_),?_⟩
  ·obtain⟨D,o,n,_⟩:=mem_ready.1 hi
   have:(i,o) ∈ Jq ops listed:=ON.2 ⟨n,D⟩
   rw[hr] at this;simp at this
  ·rw[hr,RunF] at c
   exact hQ _ _ J β (I.eqv c)
 induction fuel with
 | zero =>
  intro listed st a w J β _ d _ c I
  exact fin listed (List.length_eq_zero_iff.1 d) c I
 | succ fuel ih =>
  intro listed st a w J β F d hclosed c I
  refine⟨fun G=>?_,fun i hi=>?_⟩
  ·
   cases l:Jq ops listed with
   | nil=>rw[l] at d;simp at d
   | cons p r =>
    exfalso
    have hp:p ∈ Jq ops listed:=by rw[l];simp
    obtain⟨m,hl⟩:=ON.1 hp
    have hs:=bR (ops:=ops) listed
    rw[l] at hs
    have L:=(List.pairwise_cons.1 hs).1
    have:p.1 ∈ Region.ready .any ops listed:=mem_ready.2 ⟨hl,p.2,m,fun v y hb=>by
     rw[Ake] at hb
     have t:=nS Y (i:=p.1) (o:=p.2) (by simpa using m) v y hb
     simp at t
     have M:v.on<ops.size:=by have:=(Array.getElem?_eq_some_iff.1 m).1;omega
     cases z:listed.getD v.on true with
     | true =>
      rw[Array.getD_eq_getD_getElem?] at z ⊢
      rw[Array.getElem?_eq_getElem (by omega)] at z ⊢
      simpa using z
     | false =>
      have hm:(v.on,ops[v.on]) ∈ Jq ops listed:=ON.2 ⟨by simp[M],z⟩
      rw[l] at hm
      rcases List.mem_cons.1 hm with e1 | e1
      ·have:v.on=p.1:=by rw[←e1]
       omega
      ·have:=L _ e1
       simp at this;omega⟩
    rw[G] at this;simp at this
  ·obtain⟨hl,o,m,O⟩:=mem_ready.1 hi
   have S:(i,o) ∈ Jq ops listed:=ON.2 ⟨m,hl⟩
   obtain⟨A,B,hAB⟩:=List.append_of_mem S
   have x:∀ k ∈ SH o,listed.getD k false=true:=by
    intro k T
    unfold SH at T
    obtain⟨v,y,rfl⟩:=List.mem_map.1 T
    obtain⟨D,n⟩:=List.mem_filter.1 y
    exact O v (by simpa using D) (by rw[Ake];exact n)
   have hs:=bR (ops:=ops) listed
   rw[hAB] at hs
   have hs':=List.pairwise_append.1 hs
   rw[hAB] at c
   obtain⟨q,g1,g2,g3⟩:=c.pull (fun jp U=>by
    have t:jp.1<i:=hs'.2.2 jp U (i,o) (by simp)
    obtain⟨an,D,n⟩:=C i jp.1 o m t
    rcases n with n | n
    ·exfalso
     have:=Ays hclosed i an o D m x jp.1 n
     have hjm:jp ∈ Jq ops listed:=by rw[hAB];simp[U]
     have V:=(ON.1 hjm).2
     rw[Array.getD_eq_getD_getElem?] at this V
     cases z:listed[jp.1]? with
     | none=>rw[z] at this;simp at this
     | some b=>rw[z] at this V;simp at this V;rw[this] at V;cases V
    ·exact n)
   have X:Ar2 E ops o st (fun s f=>some (s,f))=some (after E o st q,q.2.2):=by rw[gP,g1];rfl
   obtain⟨st',f,h4,h5⟩:=zm (K:=wpAny E.P .any ops Q fuel (listed.setIfInBounds i true)) (Q:=Q) hC I X
   simp only[Option.some.injEq,Prod.mk.injEq] at h4
   obtain⟨rfl,rfl⟩:=h4
   have t:i<listed.size:=by rw[F];exact(Array.getElem?_eq_some_iff.1 m).1
   have:=h5 (fun a' w' J' β' I'=>ih (listed.setIfInBounds i true) (by simp[F]) (by
     rw[Asx hAB];rw[hAB] at d;simp at d ⊢;omega) (fun j oj u hj k T=>?_) (by rw[Asx hAB];exact g3) I')
   ·unfold wpOp
    rw[m]
    simp only
    split
    ·rename_i hw;rw[if_pos hw] at this;exact .inl this
    ·rename_i hw;rw[if_neg hw] at this;exact this
   ·by_cases e1:j=i
    ·subst e1
     rw[m] at u;simp at u;subst u
     exact getD_set_true (x k T)
    ·rw[getD_set_ne true (fun e'=>e1 e'.symm)] at hj
     exact getD_set_true (hclosed j oj u hj k T)
end
end Gx

namespace Gx
open Go
section
variable {R:Type} {r:R} {Z:Start} {E:Env}
theorem Ag0 (hC:mD E) (S:E.P.follows .mixedOrders=true) {roots:List Nat} {id:Nat} {ops:Array Oper} {draw:Bool} {st:St} {k:St→O R} {a:Act} {w:World} {J:Bool→Nat→Prop} {β:Cp} {Q:Exit→Act→World→Prop}
  (I:Inv Z E.nt J β st a w) (D:gJ E roots ops draw st k=some r) (hQ:∀ st' d w' J' β',Inv Z E.nt J' β' st' d w'→k st'=some r→Q .normal d w'):(Code.region id ops draw).wp E.P Q a w:=by
 unfold gJ at D
 have done:∀ {st':St} {tr:List Foot} {d:Act} {w':World} {J':Bool→Nat→Prop} {β':Cp},Inv Z E.nt J' β' st' d w' →
   cond (!draw||(FO 0 ops.toList&&gI tr.reverse (Ij ops.toList []) [])) ((clean (st'.s.map (·.1)) roots st').bind k) none=some r→Q .normal d w':=by
  intro st' tr d w' J' β' I' h'
  obtain⟨_,A⟩:=uc h'
  obtain⟨st2,C,L⟩:=ub A
  obtain⟨β2,I2⟩:=Asn I' C
  exact hQ _ _ _ _ _ I2 L
 cases draw with
 | false=>exact wp_region_list (zo hC _ I D (fun st' T d w' J' β' I' h'=>done I' h'))
 | true =>
  obtain⟨fs,e,A,C⟩:=Asw D
  obtain⟨M,L⟩:=uc A
  simp at M
  obtain⟨F,t⟩:=M
  have v:=C.length
  refine wp_region_any S ?_
  have I':Inv Z E.nt J β st a w.drew:=I.step (Step.drew I.sim) (fun b x U hn=>by rw[U] at hn;cases hn)
  have c:Jq ops (Array.replicate ops.size false)=A2m 0 ops.toList:=by
   unfold Jq
   refine List.filter_eq_self.2 (fun p V=>?_)
   have:=(zA.1 V).2
   have m:p.1<ops.size:=by
    simp at this
    exact(Array.getElem?_eq_some_iff.1 this).1
   simp[m]
  have y:(A2m 0 ops.toList).length=ops.size:=by
   have:∀ (l:List Oper) (n:Nat),(A2m n l).length=l.length:=by
    intro l
    induction l with
    | nil=>intro n;rfl
    | cons o r X=>intro n;simp[A2m,X]
   rw[this];simp
  have z:RunF E ops (fun i=>fs.getD i { r:=[],w:=none,f:=[],u:=[] }) (A2m 0 ops.toList) st e:=C.runF (fun j f q=>by simp[q])
  refine A3t hC (fp:=fun i=>fs.getD i { r:=[],w:=none,f:=[],u:=[] }) (e:=e) F (fun i j o G K=>?_) (fun d w' J' β' Ie=>done (tr:=fs.reverse++[]) Ie A) ops.size _ (by simp) (by rw[c,y]) (fun j o G q=>?_) (by rw[c];exact z) I'
  ·have hi:i<fs.length:=by rw[v];simpa using(Array.getElem?_eq_some_iff.1 G).1
   obtain⟨an,Y,g2⟩:=Aad t i fs[i] (List.getElem?_eq_getElem hi)
   refine⟨an,Y,?_⟩
   have q:j<fs.length:=by omega
   have:=g2 j fs[j] (by simp[q]) (by simpa using K)
   simpa[hi,q] using this
  ·exfalso
   have m:j<ops.size:=(Array.getElem?_eq_some_iff.1 G).1
   simp[m] at q
end
end Gx

namespace Gx
open Go
theorem nT (ρ:Nat→Nat):∀ c:LA,(CN ρ c).length=c.length
 | []=>rfl
 | x::r=>by rw[CN,List.length_cons,List.length_cons,nT ρ r]
theorem Pi (ρ:Nat→Nat) (x:Blk):(IQ ρ x).cells.length=x.cells.length:=by
 unfold IQ;cases x.pure
 ·simp;exact nT _ _
 ·rfl
theorem Akf {ρ:Nat→Nat}:∀ {c:LA} {j:Nat} {y:AV},(CN ρ c)[j]?=some y→∃ x,c[j]?=some x∧y=iG ρ x
 | [],j,y,b=>by simp[CN] at b
 | x::r,j,y,b=>by
  rw[CN] at b
  cases j with
  | zero=>simp at b;exact⟨x,by simp,b.symm⟩
  | succ j=>obtain⟨x',d,e⟩:=Akf (c:=r) (j:=j) (by simpa using b);exact⟨x',by simpa using d,e⟩
section
variable {R:Type} {r:R} {J J':Bool→Nat→Prop} {β β':Cp} {h h':Aj} {w w':World} {ids:List Nat} {ρ:Nat→Nat}
theorem Q3 {g:Bj}:∀ {ids:List Nat},(ids.map ρ).Nodup→∀ c y,Am (sub g ρ ids) c=some y→∃ b x,b ∈ ids∧ρ b=c∧g b=some x∧y=IQ ρ x
 | [],_,c,y,d=>by simp[sub,Am] at d
 | b::r,hn,c,y,d=>by
  rw[List.map_cons,List.nodup_cons] at hn
  rw[sub] at d
  split at d
  ·rename_i x m
   rw[Ah] at d
   by_cases e:c=ρ b
   ·rw[if_pos e] at d;simp at d
    exact⟨b,x,by simp,e.symm,m,d.symm⟩
   ·rw[if_neg e] at d
    obtain⟨f,x',i,j,k,l⟩:=Q3 hn.2 c y d
    exact⟨f,x',by simp[i],j,k,l⟩
  ·obtain⟨f,x',i,j,k,l⟩:=Q3 hn.2 c y d
   exact⟨f,x',by simp[i],j,k,l⟩
theorem JD {g:Bj}:∀ {ids:List Nat},(ids.map ρ).Nodup→∀ b x,b ∈ ids→g b=some x→Am (sub g ρ ids) (ρ b)=some (IQ ρ x)
 | [],_,b,x,c,_=>by simp at c
 | i::r,hn,b,x,c,d=>by
  rw[List.map_cons,List.nodup_cons] at hn
  rw[sub]
  by_cases e:b=i
  ·subst e
   rw[d]
   simp only
   rw[Ah,if_pos rfl]
  ·have f:b ∈ r:=by simpa[e] using c
   have ne:ρ b≠ρ i:=fun h=>hn.1 (by rw[←h];exact List.mem_map.2 ⟨b,f,rfl⟩)
   split
   ·rw[Ah,if_neg ne];exact JD hn.2 b x f d
   ·exact JD hn.2 b x f d
def A6g (ρ:Nat→Nat) (ids:List Nat) (c:Nat):Option Nat:=ids.find? fun b=>Nat.beq (ρ b) c
theorem A6h (hn:(ids.map ρ).Nodup) {b:Nat} (c:b ∈ ids):A6g ρ ids (ρ b)=some b:=by
 induction ids with
 | nil=>simp at c
 | cons i r d =>
  rw[List.map_cons,List.nodup_cons] at hn
  unfold A6g at d ⊢
  rw[List.find?_cons]
  by_cases e:b=i
  ·subst e;simp
  ·have f:b ∈ r:=by simpa[e] using c
   have ne:ρ i≠ρ b:=fun h=>hn.1 (by rw[h];exact List.mem_map.2 ⟨b,f,rfl⟩)
   rw[aO ne];exact d hn.2 f
def WF (ρ:Nat→Nat) (ids:List Nat) (β:Cp):Cp:=fun c=>(A6g ρ ids c).bind β
theorem Is (hn:(ids.map ρ).Nodup) {b:Nat} (c:b ∈ ids):WF ρ ids β (ρ b)=β b:=by
 unfold WF;rw[A6h hn c];rfl
mutual
theorem Rep.ren (hn:(ids.map ρ).Nodup):∀ {x:AV} {v:Value},(∀ b ∈ Iq x,b ∈ ids)→Rep J β h w x v→Rep J (WF ρ ids β) (sub (Am h) ρ ids) w (iG ρ x) v
 | .own b off n,v,hm,hr=>by
  rw[Rep] at hr
  obtain⟨x,A,cap,⟨hx,hmp⟩,h1,h2,h3⟩:=hr
  have hb:=hm b (by simp[Iq])
  rw[iG,Rep]
  refine⟨IQ ρ x,A,cap,⟨JD hn b x hb hx,hmp⟩,h1,h2,?_⟩
  rw[Pi,Is hn hb]
  exact h3
 | .optr b off,v,hm,hr=>by
  rw[Rep] at hr
  obtain⟨x,k,o,⟨hx,hmp⟩,h1,h2⟩:=hr
  have hb:=hm b (by simp[Iq])
  rw[iG,Rep]
  refine⟨IQ ρ x,k,o,⟨JD hn b x hb hx,hmp⟩,h1,?_⟩
  rw[Is hn hb]
  exact h2
 | .omap b,v,hm,hr=>by
  rw[Rep] at hr
  obtain⟨x,k,⟨hx,hmp⟩,h2⟩:=hr
  have hb:=hm b (by simp[Iq])
  rw[iG,Rep]
  refine⟨IQ ρ x,k,⟨JD hn b x hb hx,hmp⟩,?_⟩
  rw[Is hn hb]
  exact h2
 | .agg c,v,hm,hr=>by
  rw[Rep] at hr
  obtain⟨cs,h1,h2⟩:=hr
  rw[iG,Rep]
  exact⟨cs,h1,Reps.ren hn (by simpa[Iq] using hm) h2⟩
 | .tup c,v,hm,hr=>by
  rw[Rep] at hr
  obtain⟨cs,h1,h2⟩:=hr
  rw[iG,Rep]
  exact⟨cs,h1,Reps.ren hn (by simpa[Iq] using hm) h2⟩
 | .fn f c,v,hm,hr=>by
  rw[Rep] at hr
  obtain⟨cs,h1,h2⟩:=hr
  rw[iG,Rep]
  exact⟨cs,h1,Reps.ren hn (by simpa[Iq] using hm) h2⟩
 | .pagg c o,v,hm,hr=>by show Rep J _ _ w (.pagg c o) v;rw[Rep] at hr ⊢;exact hr
 | .undef,v,hm,hr=>by show Rep J _ _ w (.undef) v;rw[Rep] at hr ⊢;exact hr
 | .imm c n sz t o,v,hm,hr=>by show Rep J _ _ w (.imm c n sz t o) v;rw[Rep] at hr ⊢;exact hr
 | .iptr c o,v,hm,hr=>by show Rep J _ _ w (.iptr c o) v;rw[Rep] at hr ⊢;exact hr
 | .int k n,v,hm,hr=>by show Rep J _ _ w (.int k n) v;rw[Rep] at hr ⊢;exact hr
 | .bool b,v,hm,hr=>by show Rep J _ _ w (.bool b) v;rw[Rep] at hr ⊢;exact hr
 | .str s,v,hm,hr=>by show Rep J _ _ w (.str s) v;rw[Rep] at hr ⊢;exact hr
 | .nsl,v,hm,hr=>by show Rep J _ _ w (.nsl) v;rw[Rep] at hr ⊢;exact hr
 | .nilptr,v,hm,hr=>by show Rep J _ _ w (.nilptr) v;rw[Rep] at hr ⊢;exact hr
 | .nilfn,v,hm,hr=>by show Rep J _ _ w (.nilfn) v;rw[Rep] at hr ⊢;exact hr
theorem Reps.ren (hn:(ids.map ρ).Nodup):∀ {c:List AV} {cs:List Value},(∀ b ∈ Ks c,b ∈ ids)→Reps J β h w c cs→Reps J (WF ρ ids β) (sub (Am h) ρ ids) w (CN ρ c) cs
 | [],cs,hm,hr=>by rw[Reps] at hr;rw[CN,Reps];exact hr
 | x::r,cs,hm,hr=>by
  rw[Reps] at hr
  obtain⟨u,us,h1,h2,h3⟩:=hr
  rw[CN,Reps]
  exact⟨u,us,h1,Rep.ren hn (fun b hb=>hm b (by simp[Ks,hb])) h2,Reps.ren hn (fun b hb=>hm b (by simp[Ks,hb])) h3⟩
end
theorem SimH.ren (S:SimH J β h w) (hn:(ids.map ρ).Nodup) (A:∀ b ∈ Nv (Am h) ids,b ∈ ids):SimH J (WF ρ ids β) (sub (Am h) ρ ids) w:=by
 refine⟨S.jlt,S.jft,S.gl,fun c y m n C=>?_,fun c y m n C=>by
   obtain⟨b,x,e,rfl,i,rfl⟩:=Q3 hn c y m
   obtain⟨l,s,k,ob,D,F,z,G⟩:=S.mblk b x i n C
   have:(IQ ρ x).cells=x.cells:=by unfold IQ;rw[l];rfl
   exact⟨l,s,k,ob,by rw[Is hn e];exact D,F,by rw[ObjIs,show(IQ ρ x).sz=x.sz from rfl,this];exact z,G⟩,?_⟩
 ·obtain⟨b,x,e,rfl,i,rfl⟩:=Q3 hn c y m
  rcases S.blk b x i n C with⟨l,s⟩ | ⟨k,o,cs,ty,fr,l,s,D,F,z,G,U⟩
  ·refine .inl ⟨by rw[Is hn e];exact l,?_⟩
   have:=Pi ρ x;rw[s] at this;simpa using this
  ·refine .inr ⟨k,o,cs,ty,fr,by rw[Is hn e];exact l,s,D,by rw[Pi];exact F,⟨fun I=>?_,fun I j q O=>?_⟩,G,U⟩
   ·have d:x.pure=true:=I
    have:(IQ ρ x).cells=x.cells:=by unfold IQ;rw[d];rfl
    rw[this];exact z.1 d
   ·have d:x.pure=false:=I
    have:(IQ ρ x).cells=CN ρ x.cells:=by unfold IQ;rw[d];rfl
    rw[this] at O
    obtain⟨V,hq,rfl⟩:=Akf O
    obtain⟨u,X,hr,Y⟩:=z.2 d j V hq
    exact⟨u,X,Rep.ren hn (fun t f=>A t (sU e i d t (sV hq t f))) hr,Y⟩
 ·intro c c' y y' k o o' m K n L hs T v
  obtain⟨b,x,e,rfl,i,rfl⟩:=Q3 hn c y m
  obtain⟨t,x',f,rfl,M,rfl⟩:=Q3 hn c' y' K
  rw[Is hn e] at T
  rw[Is hn f] at v
  rw[S.sep b t x x' k o o' i M n L hs T v]
theorem Anz (hn:(ids.map ρ).Nodup) {k:Nat} (e:Ar5 (WF ρ ids β) (sub (Am h) ρ ids) k):Ar5 β h k:=by
 obtain⟨c,y,o,f,i,hs,d⟩:=e
 obtain⟨b,x,j,rfl,l,rfl⟩:=Q3 hn c y f
 rw[Is hn j] at d
 exact⟨b,x,o,l,i,hs,d⟩
end
end Gx

namespace Gx
open Go
theorem R6 {ids:List Nat}:∀ {l:List Nat},VZ ids l=true→∀ b ∈ l,b ∈ ids
 | [],_,b,c=>by simp at c
 | i::r,h,b,c=>by
  rw[VZ] at h
  simp at h
  rcases List.mem_cons.1 c with rfl | c
  ·exact Nx.1 h.1
  ·exact R6 h.2 b c
theorem GL {d:Nat}:∀ {l:List Nat} {base b:Nat},b ∈ l→base≤K8 d (A8 base l) b∧K8 d (A8 base l) b<base+l.length
 | [],base,b,c=>by simp at c
 | i::r,base,b,c=>by
  rw[A8,K8]
  cases hi:Nat.beq i b with
  | true=>simp
  | false =>
   have e:=CO hi
   have f:b ∈ r:=by
    rcases List.mem_cons.1 c with h | h
    ·exact absurd h.symm e
    ·exact h
   have:=GL (d:=d) (base:=base+1) f
   simp only[cond_false,List.length_cons]
   omega
theorem Asy {free ids:List Nat} {b:Nat} (h:OI free b=true):GH free ids b=b:=by unfold GH;rw[h];rfl
theorem An0 {free ids:List Nat} {b:Nat} (h:OI free b=false) (c:b ∈ ids):300000≤GH free ids b:=by
 unfold GH A56;rw[h]
 exact(GL (List.mem_filter.2 ⟨c,by simp[h]⟩)).1
theorem Aae {b:Nat}:z_ b=true↔100000≤b∧b<200000:=by unfold z_;simp
theorem uR {free ids:List Nat} {b c:Nat} (e:b ∈ ids) (f:100000≤c∧c<200000) (d:GH free ids b=c):b=c:=by
 cases hr:OI free b with
 | true=>rw[Asy hr] at d;exact d
 | false=>have:=An0 hr e;omega
theorem OO {ρ:Nat→Nat} {K:List Nat}:∀ {s:Ip} {i:Nat},Hb (A57 ρ K s) i=if Kt K i=true then iG ρ (Hb s i) else .undef
 | [],i=>by
  show AV.undef=if Kt K i=true then iG ρ .undef else AV.undef
  simp[iG]
 | (t,v)::r,i=>by
  rw[A57]
  by_cases e:t=i
  ·subst e
   cases b:Kt K t with
   | true=>simp[Hb]
   | false=>simp only[cond_false];rw[OO];simp[b]
  ·have c:Nat.beq t i=false:=aO e
   cases b:Kt K t with
   | true=>simp only[cond_true,Hb,c,cond_false];exact OO
   | false=>simp only[cond_false,Hb,c];exact OO
theorem Asz {g:Bj} {l:List Nat} {b:Nat} (h:b ∈ IZ g l):∃ x,g b=some x∧x.dead=false:=by
 unfold IZ at h
 obtain⟨_,c⟩:=List.mem_filter.1 h
 unfold Hc at c
 cases d:g b with
 | none=>simp[d] at c
 | some x =>
  cases e:x.dead with
  | false=>exact⟨x,rfl,e⟩
  | true=>simp[d,e] at c
section
variable {Z:Start} {nt:Nat} {J:Bool→Nat→Prop} {β:Cp} {st st':St} {a:Act} {w:World}
def AV.isz:AV→Nat
 | .imm _ _ s _ _=>s
 | _=>0
theorem Q4 {live:List Nat}:∀ (nils:List (Nat×Nat)) {st:St} {J:Bool→Nat→Prop} {β:Cp},Inv Z nt J β st a w→SI live nils st=some st'→∃ J' β',Inv Z nt J' β' st' a w
 | [],st,J,β,I,f=>by simp[SI] at f;subst f;exact⟨J,β,I⟩
 | (t,sz)::r,st,J,β,I,f=>by
  rw[SI] at f
  cases q:Nat.ble 1000000 sz with
  | true =>
   rw[q,cond_true] at f
   split at f
   ·rename_i L hs
    refine Q4 r (J:=J) (β:=β) (st:={ s:=lq st.s t (.imm [] 0 (sz - 1000000) false false),h:=st.h }) ?_ f
    refine { I with ss:=⟨fun i v k=>?_,fun i hi=>?_⟩ }
    ·rw[Qx]
     by_cases e:i=t
     ·subst e
      have:=I.ss.slot i v k
      rw[hs,Rep] at this
      subst this
      rw[if_pos rfl,Rep,RepC]
      exact⟨by simp,none,0,rfl,Nat.le_refl _,fun _=>rfl,.inl rfl⟩
     ·rw[if_neg e];exact I.ss.slot i v k
    ·rw[Qx]
     by_cases e:i=t
     ·subst e
      have:=I.ss.out i hi
      rw[hs] at this;cases this
     ·rw[if_neg e];exact I.ss.out i hi
   ·rename_i b off n L hs
    obtain⟨⟨v',ups,org⟩,u,M⟩:=ub f
    by_cases z:∃ v,a.tmps[t]?=some v
    ·obtain⟨v0,C⟩:=z
     have hr:=I.ss.slot t v0 C
     rw[hs] at hr
     obtain⟨J1,A,l,_⟩:=bI I.sim (fun b x O=>⟨x,O,rfl⟩) u hr
     have I1:=I.step A (fun c x m hn=>by
      exfalso
      unfold ig at u
      obtain⟨y,F,j⟩:=ub u
      obtain⟨_,j⟩:=uc j
      simp at j
      obtain⟨_,j,_⟩:=j
      subst j
      simp only[Al,Ah] at m
      unfold Hc at F
      obtain⟨y0,D,_⟩:=ub F
      by_cases e:c=b
      ·subst e;rw[hn] at D;cases D
      ·rw[if_neg e,hn] at m;cases m)
     refine Q4 r (J:=J1) (β:=β) (st:={ s:=lq st.s t v',h:=Al ups st.h }) ?_ M
     have G:∃ c,v'=.imm c n (v'.isz) false org:=by
      unfold ig at u
      obtain⟨y,F,j⟩:=ub u
      obtain⟨_,j⟩:=uc j
      simp at j
      obtain⟨j,_,S⟩:=j
      subst j S
      exact⟨_,rfl⟩
     refine { I1 with ss:=⟨fun i v k=>?_,fun i hi=>?_⟩ }
     ·rw[Qx]
      by_cases e:i=t
      ·subst e
       rw[if_pos rfl]
       rw[C] at k;simp at k;subst k
       obtain⟨c,T⟩:=G
       rw[T] at l ⊢
       rw[Rep];exact l
      ·rw[if_neg e];exact I1.ss.slot i v k
     ·rw[Qx]
      by_cases e:i=t
      ·subst e
       have:=I.ss.out i hi
       rw[hs] at this;cases this
      ·rw[if_neg e];exact I1.ss.out i hi
    ·exfalso
     have:=I.ss.out t (by
      cases h:a.tmps[t]? with
      | none=>simp at h;omega
      | some v=>exact absurd ⟨v,h⟩ z)
     rw[hs] at this;cases this
   ·exact Q4 r I f
  | false =>
   rw[q,cond_false] at f
   split at f
   ·rename_i L hs
    cases K:Am st.h (nid t+15) with
    | some x=>simp[K] at f
    | none =>
     simp[K] at f
     have A:=Step.newNone I.sim (d:=nid t+15) (x:=Hd sz) K rfl
     have I1:=I.step A (fun b x m hn=>by
      rw[Ah] at m
      by_cases e:b=nid t+15
      ·subst e;unfold nid Jc;omega
      ·rw[if_neg e,hn] at m;cases m)
     refine Q4 r (J:=J) (β:=fun b=>if b=nid t+15 then none else β b) (st:={ s:=lq st.s t (.own (nid t+15) 0 0),h:=Gg st.h (nid t+15) (Hd sz) }) ?_ f
     refine { I1 with ss:=⟨fun i v k=>?_,fun i hi=>?_⟩ }
     ·rw[Qx]
      by_cases e:i=t
      ·subst e
       rw[if_pos rfl,Rep]
       have:=I.ss.slot i v k
       rw[hs,Rep] at this
       subst this
       exact⟨Hd sz,none,0,⟨by rw[Ah,if_pos rfl],rfl⟩,rfl,Nat.le_refl _,.inl rfl⟩
      ·rw[if_neg e];exact I1.ss.slot i v k
     ·rw[Qx]
      by_cases e:i=t
      ·subst e
       have:=I.ss.out i hi
       rw[hs] at this;cases this
      ·rw[if_neg e];exact I1.ss.out i hi
   ·exact Q4 r I f
theorem bS {E:Env} {live roots:List Nat} (I:Inv Z nt J β st a w) (e:nI E live roots st=some st'):∃ J' β',Inv Z nt J' β' st' a w:=by
 unfold nI at e
 obtain⟨s1,m,n⟩:=ub e
 obtain⟨J1,β1,I1⟩:=Q4 _ I m
 obtain⟨f,j⟩:=uc n
 simp at f j
 subst j
 obtain⟨hn,hs,hi,_⟩:=f
 have hn:=Xq hn
 have d:∀ b ∈ Nv (Am s1.h) (IZ (Am s1.h) (GE (Am s1.h) (z7 live s1.s++roots))),b ∈ IZ (Am s1.h) (GE (Am s1.h) (z7 live s1.s++roots)):=R6 hi
 refine⟨J1,WF _ _ β1,{ I1 with sim:=I1.sim.ren hn d,ss:=⟨fun i v q=>?_,fun i hi=>?_⟩,wr:=fun k t=>I1.wr k (Anz hn t),outs:=fun b x0 x h0 u y=>?_ }⟩
 ·rw[OO]
  cases z:Kt live i with
  | false=>simp[Rep]
  | true =>
   simp only[if_true]
   exact Rep.ren hn (fun b A=>R6 hs b (zq z b A)) (I1.ss.slot i v q)
 ·rw[OO,I1.ss.out i hi];simp[iG]
 ·obtain⟨C,x',c,l,D,rfl⟩:=Q3 hn b x u
  have:=uR c ⟨I1.zge b x0 h0,I1.zlt b x0 h0⟩ l
  subst this
  obtain⟨⟨e1,em⟩,F,e3,e4⟩:=I1.outs C x0 x' h0 D y
  refine⟨⟨?_,em⟩,F,by rw[Pi];exact e3,e4⟩
  have:=Is (β:=β1) hn c
  rw[l] at this
  rw[this];exact e1
end
end Gx

namespace Gx
open Go
section
variable {R:Type} {r:R} {Z:Start} {E:Env}
theorem As0 (hC:mD E) (z:E.P.follows .mixedOrders=true) {roots:List Nat} {N:Nat}:∀ (c:Code) {H:Hint} {kn:St→O R} {kx:Nat→St→O R} {kr:St→O R} {st:St} {a:Act} {w:World} {J:Bool→Nat→Prop} {β:Cp} {Q:Exit→Act→World→Prop},
  Inv Z E.nt J β st a w→He E roots N c H kn kx kr st=some r →
  (∀ st' d w' J' β',Inv Z E.nt J' β' st' d w'→kn st'=some r→Q .normal d w') →
  (∀ id st' d w' J' β',Inv Z E.nt J' β' st' d w'→kx id st'=some r→Q (.exit id) d w') →
  (∀ st' d w' J' β',Inv Z E.nt J' β' st' d w'→kr st'=some r→Q .ret d w')→c.wp E.P Q a w:=by
 intro c
 induction c with
 | skip=>intro H kn kx kr st a w J β Q I b hn e hr;exact wp_skip (hn _ _ _ _ _ I b)
 | region id ops draw=>intro H kn kx kr st a w J β Q I b hn e hr;exact Ag0 hC z I b hn
 | seq x y i f =>
  intro H kn kx kr st a w J β Q I b hn e hr
  rw[He] at b
  refine wp_seq (i I b (fun st' d w' J' β' I' h'=>?_) (fun id st' d w' J' β' I' h'=>e id st' d w' J' β' I' h') (fun st' d w' J' β' I' h'=>hr st' d w' J' β' I' h'))
  unfold A3i at h'
  cases l:H.isJoin with
  | true =>
   rw[l,cond_true,I_] at h'
   obtain⟨s2,m,q⟩:=ub h'
   obtain⟨J2,β2,I2⟩:=bS I' m
   exact f I2 q hn e hr
  | false=>rw[l] at h';exact f I' h' hn e hr
 | cond c x y i f =>
  intro H kn kx kr st a w J β Q I b hn e hr
  rw[He] at b
  split at b
  ·rename_i t A
   have v:=Bi I.ss c
   rw[A,Rep] at v
   refine wp_cond v ?_
   cases t with
   | true=>exact i I b hn e hr
   | false=>exact f I b hn e hr
  ·simp at b
 | block id c s =>
  intro H kn kx kr st a w J β Q I b hn e hr
  rw[He] at b
  refine wp_block (s I b (fun st' d w' J' β' I' h'=>hn _ _ _ _ _ I' h') (fun j st' d w' J' β' I' h'=>?_) (fun st' d w' J' β' I' h'=>hr _ _ _ _ _ I' h'))
  cases l:Nat.beq j id with
  | true =>
   rw[l] at h'
   have:=Nat.eq_of_beq_eq_true l
   subst this
   simp only[Exit.inBlock,if_true]
   exact hn _ _ _ _ _ I' h'
  | false =>
   rw[l] at h'
   simp only[Exit.inBlock]
   rw[if_neg (CO l)]
   exact e _ _ _ _ _ _ I' h'
 | loop c s =>
  intro H kn kx kr st a w J β Q I b hn e hr
  rw[He,I_] at b
  refine wp_loop_rounds N ?_
  have key:∀ (n:Nat) {st:St} {a:Act} {w:World} {J:Bool→Nat→Prop} {β:Cp},Inv Z E.nt J β st a w→bF (nI E H.live roots) (fun k st=>He E roots N c H.a k kx kr st) n st=some r→Code.rounds E.P c Q n a w:=by
   intro n
   induction n with
   | zero=>intro st a w J β I h';simp[bF] at h'
   | succ n u =>
    intro st a w J β I h'
    rw[bF] at h'
    rw[rounds_succ]
    refine s I h' (fun st' d w' J' β' I' h''=>?_) (fun id st' d w' J' β' I' h''=>e _ _ _ _ _ _ I' h'') (fun st' d w' J' β' I' h''=>hr _ _ _ _ _ I' h'')
    obtain⟨s2,m,q⟩:=ub h''
    obtain⟨J2,β2,I2⟩:=bS I' m
    exact u I2 q
  obtain⟨s2,m,q⟩:=ub b
  obtain⟨J2,β2,I2⟩:=bS I m
  exact key N I2 q
 | exit id=>intro H kn kx kr st a w J β Q I b hn e hr;exact wp_exit (e _ _ _ _ _ _ I b)
 | ret=>intro H kn kx kr st a w J β Q I b hn e hr;exact wp_ret (hr _ _ _ _ _ I b)
 | rangeFunc=>intro H kn kx kr st a w J β Q I b;simp[He] at b
 | scope=>intro H kn kx kr st a w J β Q I b;simp[He] at b
 | label=>intro H kn kx kr st a w J β Q I b;simp[He] at b
 | goto=>intro H kn kx kr st a w J β Q I b;simp[He] at b
 | refuse=>intro H kn kx kr st a w J β Q I b;simp[He] at b
end
end Gx

namespace Gx
open Go
structure FDone (Z:Start) (J:Bool→Nat→Prop) (β:Cp) (h:Aj) (w:World):Prop where
 sim:SimH J β h w
 os:w.os=Z.w.os
 tape:w.tape=Z.w.tape
 output:w.output=Z.w.output
 size:Z.w.heap.size≤w.heap.size
 frame:∀ k,k<Z.w.heap.size→¬ Ar5 Z.β Z.h k→w.heap[k]?=Z.w.heap[k]?
 wr:∀ k,Ar5 β h k→k<Z.w.heap.size→Ar5 Z.β Z.h k
 jsub:∀ o k,Z.J o k→J o k
 jup:∀ o k,J o k→Z.J o k∨Ar5 Z.β Z.h k∨Z.w.heap.size≤k
 sizes:∀ k,Bh Z.w k≤Bh w k
 outs:∀ b x0 x,Am Z.h b=some x0→Am h b=some x→x.dead=false→(β b=Z.β b∧x.mp=x0.mp)∧x.sz=x0.sz∧(x0.mp=false→x.cells.length=x0.cells.length)∧x0.dead=false
 live:∀ b x,Am h b=some x→x.dead=false
def Baz (P:Program) (f:Nat) (args:LA) (h:Aj) (res:AV) (h':Aj):Prop :=
 ∀ (J:Bool→Nat→Prop) (β:Cp) (w:World) (vs:List Value),SimH J β h w→Reps J β h w args vs →
  Calls P f vs.toArray w fun e w'=>∃ vc J' β',e=.returned vc∧FDone ⟨J,β,h,w⟩ J' β' h' w'∧Rep J' β' h' w' res vc
def As1 (P:Program) (f:Nat) (t:Tw):Prop:=∀ args h res h',(t.runK args h fun v h'=>some (v,h'))=some (res,h')→Baz P f args h res h'
def Aaf (P:Program):List (Nat×Tw)→Prop
 | []=>True
 | p::r=>As1 P p.1 p.2∧Aaf P r
theorem As2 {P:Program} {R:Type} {r:R}:∀ {T:List (Nat×Tw)},Aaf P T→∀ {f:Nat} {b:LA} {h:Aj} {k:AV→Aj→O R},nF T f b h k=some r →
  ∃ c h',Baz P f b h c h'∧k c h'=some r
 | [],_,f,b,h,k,d=>by simp[nF] at d
 | (g,t)::T,hT,f,b,h,k,d=>by
  rw[nF] at d
  cases e:Nat.beq g f with
  | false=>rw[e] at d;exact As2 hT.2 d
  | true =>
   rw[e] at d
   have:=Nat.eq_of_beq_eq_true e
   subst this
   simp only[cond_true] at d
   rw[t.eq] at d
   obtain⟨⟨c,h'⟩,i,j⟩:=ub d
   exact⟨c,h',hT.1 b h c h' i,j⟩
section
variable {R:Type} {r:R} {Z:Start} {nt:Nat} {J:Bool→Nat→Prop} {β:Cp} {st:St} {a:Act} {w:World}
def nU (tmps:Array Value):ResultVar→Sem Value
 | .tmp t=>pure (tmps.getD t undef)
 | .cell a t=>do loadVar t (←Go.asAddr (tmps.getD a undef))
theorem A6i {α β:Type} (f:α→Sem β) (xs:Array α):xs.mapM f=(List.toArray <$> xs.toList.mapM f):=by
 rw[←List.mapM_toArray]
theorem Ayt (fn:Func) (tmps:Array Value):results fn tmps=(do let vs ←fn.results.mapM (nU tmps);pure (if h:vs.size=1 then vs[0] else .tuple vs)):=by
 unfold results
 congr 1
def As3 (l:List Value):Value:=match l with | [v]=>v | l=>.tuple l.toArray
theorem As4 {P:Program} (fn:Func) (tmps:Array Value) {vs:List Value} (h:(fn.results.toList.mapM (nU tmps)).run P w=.ok vs w):(results fn tmps).run P w=.ok (As3 vs) w:=by
 rw[Ayt,A6i]
 simp only[map_eq_pure_bind,Sem.run_bind,h,Result.andThen_ok,Sem.run_pure]
 congr 1
 match vs with
 | []=>rfl
 | [v]=>rfl
 | v::u::r=>simp[As3]
theorem As5 {P:Program} {t:TypeId} {v vc:Value} (h:(Instr.loadAt t v).run P w=.ok vc w):(do loadVar t (←Go.asAddr v):Sem Value).run P w=.ok vc w:=by
 unfold Instr.loadAt at h
 cases v with
 | pointer a =>
  cases a with
  | some a=>exact h
  | none=>simp[Instr.sureAddr] at h
 | _=>simp[Instr.sureAddr] at h
theorem MT {E:Env} (S:SimH J β st.h w) (SS:SimS J β st.h w st.s a.tmps):∀ (l:List ResultVar) {acc:LA} {k:LA→O R},Qw E st l acc k=some r →
  ∃ vals vs,k (acc.reverse++vals)=some r∧(l.mapM (nU a.tmps)).run E.P w=.ok vs w∧Reps J β st.h w vals vs
 | [],acc,k,b=>⟨[],[],by simpa[Qw] using b,by simp,by rw[Reps]⟩
 | .tmp t::l,acc,k,b=>by
  rw[Qw] at b
  obtain⟨vals,vs,c,d,e⟩:=MT S SS l b
  refine⟨Hb st.s t::vals,a.tmps.getD t undef::vs,by simpa using c,?_,by rw[Reps];exact⟨_,_,rfl,Bi SS (.tmp t),e⟩⟩
  simp only[List.mapM_cons,nU,Sem.run_bind,Sem.run_pure,Result.andThen_ok,d]
 | .cell ad t::l,acc,k,b=>by
  rw[Qw] at b
  obtain⟨v,vc,h0,c,d⟩:=uD S (fun _ _ h=>h) b (Bi SS (.tmp ad))
  obtain⟨vals,vs,e,f,i⟩:=MT S SS l h0
  refine⟨v::vals,vc::vs,by simpa using e,?_,by rw[Reps];exact⟨_,_,rfl,d,i⟩⟩
  have:(nU a.tmps (.cell ad t)).run E.P w=.ok vc w:=As5 c
  simp only[List.mapM_cons,Sem.run_bind,this,Sem.run_pure,Result.andThen_ok,f]
theorem Ayu {i:Nat} {m:Nat×Nat} {v v':AV} {ups:Fy} {vc:Value} {h:Aj} (S:SimH J β h w) (d:A90 (Am h) i m v=some (v',ups)) (f:Rep J β h w v vc) :
  ∃ J' β',Step J β h w J' β' (Al ups h) w∧Rep J' β' (Al ups h) w v' vc∧(∀ b x,Am (Al ups h) b=some x→Am h b=none→Jc≤b):=by
 have old:∀ {ups:Fy},(∀ b,Be ups b=true→∃ x,Am h b=some x)→∀ b x,Am (Al ups h) b=some x→Am h b=none→Jc≤b:=by
  intro ups z b x j hn
  cases hi:Be ups b with
  | true=>obtain⟨y,C⟩:=z b hi;rw[C] at hn;cases hn
  | false=>rw[Db _ _ _ hi,hn] at j;cases j
 unfold A90 at d
 cases h0:Nat.beq m.1 0 with
 | true =>
  rw[h0] at d;simp at d
  obtain⟨rfl,rfl⟩:=d
  exact⟨J,β,Step.refl S,f,old (by simp[Be])⟩
 | false =>
  rw[h0,cond_false] at d
  cases t:Nat.beq m.1 1 with
  | true =>
   rw[t,cond_true] at d
   split at d
   ·simp at d;obtain⟨rfl,rfl⟩:=d
    rw[Rep] at f;subst f
    refine⟨J,β,Step.refl S,?_,old (by simp[Be])⟩
    rw[Rep,RepC]
    exact⟨by simp,none,0,rfl,Nat.le_refl _,by simp,.inl rfl⟩
   ·simp at d;obtain⟨rfl,rfl⟩:=d
    refine⟨J,β,Step.refl S,?_,old (by simp[Be])⟩
    rw[Rep,RepC] at f ⊢
    obtain⟨e1,A,cap,D,e3,e4,F⟩:=f
    exact⟨e1,A,cap,D,e3,by simp,F⟩
   ·obtain⟨⟨G,I,K⟩,hq,l⟩:=ub d
    simp at l;obtain⟨rfl,rfl⟩:=l
    obtain⟨J',A,hA,_⟩:=bI S (Looks.s fun _ _ h=>h) hq f
    refine⟨J',β,A,?_,old (Aka hq)⟩
    unfold ig at hq
    obtain⟨x,j,k⟩:=ub hq
    obtain⟨_,u⟩:=uc k
    simp at u
    obtain⟨rfl,rfl,rfl⟩:=u
    rw[Rep];exact hA
   ·simp at d
  | false =>
   rw[t,cond_false] at d
   cases l:Nat.beq m.1 2 with
   | true =>
    rw[l,cond_true] at d
    split at d
    ·obtain⟨hn,k⟩:=Aya d
     simp at k;obtain⟨rfl,rfl⟩:=k
     have q:Am h (nid 90000+i)=none:=by cases j:Am h (nid 90000+i)<;>simp_all
     have A:=Step.newNone S (x:=Hd m.2) q rfl
     refine⟨J,fun b=>if b=nid 90000+i then none else β b,A,?_,fun b x j L=>?_⟩
     ·rw[Rep] at f;subst f;rw[Rep]
      exact⟨Hd m.2,none,0,⟨by simp only[Al];rw[Ah,if_pos rfl],rfl⟩,rfl,Nat.le_refl _,.inl rfl⟩
     ·simp only[Al] at j
      rw[Ah] at j
      by_cases e:b=nid 90000+i
      ·subst e;unfold nid Jc;omega
      ·rw[if_neg e,L] at j;cases j
    ·simp at d;obtain⟨rfl,rfl⟩:=d
     exact⟨J,β,Step.refl S,f,old (by simp[Be])⟩
   | false =>
    rw[l,cond_false] at d
    split at d
    ·rename_i c
     obtain⟨⟨G,I,K⟩,hq,k⟩:=ub d
     simp at k;obtain⟨rfl,rfl⟩:=k
     rw[Rep] at f
     obtain⟨cs,rfl,M⟩:=f
     obtain⟨J',A,hA,n,_⟩:=Ve S (Looks.s fun _ _ h=>h) hq M
     refine⟨J',β,A,?_,old (GI hq)⟩
     rw[Rep]
     exact⟨cs,rfl,n.symm,hA⟩
    ·simp at d;obtain⟨rfl,rfl⟩:=d
     exact⟨J,β,Step.refl S,f,old (by simp[Be])⟩
    ·simp at d
theorem uS {s:Ip}:∀ (vals:LA) {i:Nat} {ms:List (Nat×Nat)} {h h':Aj} {vals':LA} {vs:List Value} {J:Bool→Nat→Prop} {β:Cp},
  Inv Z nt J β { s:=s,h:=h } a w→Ar3 h i ms vals=some (vals',h')→Reps J β h w vals vs →
  ∃ J' β',Inv Z nt J' β' { s:=s,h:=h' } a w∧Reps J' β' h' w vals' vs∧∀ x v,Rep J β h w x v→Rep J' β' h' w x v
 | [],i,ms,h,h',vals',vs,J,β,I,b,d=>by
  simp[Ar3] at b;obtain⟨rfl,rfl⟩:=b
  exact⟨J,β,I,d,fun _ _ h=>h⟩
 | v::r,i,ms,h,h',vals',vs,J,β,I,b,d=>by
  rw[Ar3] at b
  obtain⟨⟨v1,u1⟩,l,m⟩:=ub b
  obtain⟨⟨q,hr⟩,n,j⟩:=ub m
  simp at j;obtain⟨rfl,rfl⟩:=j
  rw[Reps] at d
  obtain⟨u,us,rfl,e,f⟩:=d
  obtain⟨J1,β1,A,hA,c⟩:=Ayu I.sim l e
  have I1:=I.step A c
  obtain⟨J2,β2,I2,hB,k⟩:=uS r I1 n (Reps.ext A.ext f)
  refine⟨J2,β2,I2,?_,fun x v h=>k x v (Rep.ext A.ext h)⟩
  rw[Reps]
  exact⟨u,us,rfl,k _ _ hA,hB⟩
theorem Ag1 {E:Env} {fn:Func} {modes:List (Nat×Nat)} {outs:List Nat} {k:AV→Aj→O R} (I:Inv Z nt J β st a w) (q:DV E fn modes outs k st=some r) :
  ∃ e h' vc J' β',k e h'=some r∧(results fn a.tmps).run E.P w=.ok vc w∧FDone Z J' β' h' w∧Rep J' β' h' w e vc:=by
 unfold DV at q
 obtain⟨vals,vs,t,C,D⟩:=MT I.sim I.ss _ q
 simp only[List.reverse_nil,List.nil_append] at t
 obtain⟨⟨vals',h'⟩,F,G⟩:=ub t
 obtain⟨J1,β1,I1,hR,_⟩:=uS (s:=st.s) vals I F D
 obtain⟨y,K⟩:=uc G
 simp at y
 obtain⟨hn,hs,hi,_⟩:=y
 have hn:=Xq hn
 have f:=R6 hi
 have hs:=R6 hs
 refine⟨_,_,As3 vs,J1,WF _ _ β1,K,As4 fn a.tmps C,?_,Rep.ren hn hs ?_⟩
 ·exact⟨I1.sim.ren hn f,I1.os,I1.tape,I1.output,I1.size,I1.frame,fun k L=>I1.wr k (Anz hn L),I1.jsub,I1.jup,I1.sizes,fun b x0 x h0 i M=>by
   obtain⟨z,x',d,j,m,rfl⟩:=Q3 hn b x i
   have:=uR d ⟨I1.zge b x0 h0,I1.zlt b x0 h0⟩ j
   subst this
   obtain⟨⟨e1,em⟩,S,e3,e4⟩:=I1.outs z x0 x' h0 m M
   refine⟨⟨?_,em⟩,S,by rw[Pi];exact e3,e4⟩
   have:=Is (β:=β1) hn d
   rw[j] at this
   rw[this];exact e1,fun b x i=>by
   obtain⟨z,x',d,j,m,rfl⟩:=Q3 hn b x i
   obtain⟨x2,n,T⟩:=Asz d
   rw[m] at n;simp at n;subst n;exact T⟩
 ·match vals',vs,hR with
  | [],vs,hR=>rw[Reps] at hR;subst hR;simp only[As3,A91];rw[Rep];exact⟨[],rfl,by rw[Reps]⟩
  | [v],vs,hR =>
   rw[Reps] at hR
   obtain⟨u,us,rfl,A,c⟩:=hR
   rw[Reps] at c;subst c
   exact A
  | v::v2::l,vs,hR =>
   have hR':=hR
   rw[Reps] at hR
   obtain⟨u,us,rfl,A,c⟩:=hR
   rw[Reps] at c
   obtain⟨u2,us2,rfl,_,_⟩:=c
   simp only[As3,A91]
   rw[Rep]
   exact⟨_,rfl,hR'⟩
end
end Gx

namespace Gx
open Go
section
variable {J J':Bool→Nat→Prop} {β:Cp} {h:Aj} {w:World}
mutual
theorem Rep.noOrg:∀ {x:AV} {v:Value},MP x=false→Rep J β h w x v→Rep (fun _=>J false) β h w x v
 | .own ..,v,_,hr=>by rw[Rep] at hr ⊢;exact hr
 | .optr ..,v,_,hr=>by rw[Rep] at hr ⊢;exact hr
 | .omap ..,v,_,hr=>by rw[Rep] at hr ⊢;exact hr
 | .pagg c o,v,ho,hr=>by
  rw[MP] at ho;subst ho
  rw[Rep] at hr ⊢;exact hr
 | .agg c,v,ho,hr=>by
  rw[MP] at ho
  rw[Rep] at hr ⊢
  obtain⟨cs,h1,h2⟩:=hr
  exact⟨cs,h1,Reps.noOrg ho h2⟩
 | .tup c,v,ho,hr=>by
  rw[MP] at ho
  rw[Rep] at hr ⊢
  obtain⟨cs,h1,h2⟩:=hr
  exact⟨cs,h1,Reps.noOrg ho h2⟩
 | .fn f c,v,ho,hr=>by
  rw[MP] at ho
  rw[Rep] at hr ⊢
  obtain⟨cs,h1,h2⟩:=hr
  exact⟨cs,h1,Reps.noOrg ho h2⟩
 | .undef,_,_,_=>by rw[Rep];trivial
 | .imm c n sz t o,v,ho,hr=>by
  rw[MP] at ho;subst ho
  rw[Rep] at hr ⊢;exact hr
 | .iptr c o,v,ho,hr=>by
  rw[MP] at ho;subst ho
  rw[Rep] at hr ⊢;exact hr
 | .int ..,v,_,hr=>by rw[Rep] at hr ⊢;exact hr
 | .bool _,v,_,hr=>by rw[Rep] at hr ⊢;exact hr
 | .str _,v,_,hr=>by rw[Rep] at hr ⊢;exact hr
 | .nsl,v,_,hr=>by rw[Rep] at hr ⊢;exact hr
 | .nilptr,v,_,hr=>by rw[Rep] at hr ⊢;exact hr
 | .nilfn,v,_,hr=>by rw[Rep] at hr ⊢;exact hr
theorem Reps.noOrg:∀ {c:List AV} {cs:List Value},Yw c=false→Reps J β h w c cs→Reps (fun _=>J false) β h w c cs
 | [],_,_,hr=>by rw[Reps] at hr ⊢;exact hr
 | x::r,cs,ho,hr=>by
  rw[Yw] at ho
  simp at ho
  rw[Reps] at hr ⊢
  obtain⟨u,us,h1,h2,h3⟩:=hr
  exact⟨u,us,h1,Rep.noOrg ho.1 h2,Reps.noOrg ho.2 h3⟩
end
theorem Aag:∀ {c:LA} {j:Nat} {x:AV},Yw c=false→c[j]?=some x→MP x=false
 | [],j,x,_,b=>by simp at b
 | y::r,j,x,d,b=>by
  rw[Yw] at d
  simp at d
  cases j with
  | zero=>simp at b;subst b;exact d.1
  | succ j=>exact Aag d.2 (by simpa using b)
theorem Aah:∀ {h:Aj} {b:Nat} {x:Blk},nG h=false→Am h b=some x→x.taint=false∧(x.pure=false→Yw x.cells=false)
 | [],b,x,_,c=>by simp[Am] at c
 | (i,y)::r,b,x,d,c=>by
  rw[nG] at d
  simp at d
  rw[Am] at c
  cases hi:Nat.beq i b with
  | true =>
   rw[hi] at c;simp at c;subst c
   refine⟨d.1.1,fun e=>?_⟩
   have:=d.1.2
   rw[e] at this;simpa using this
  | false=>rw[hi] at c;exact Aah d.2 (by simpa using c)
theorem SimH.noOrg (S:SimH J β h w) (y:nG h=false):SimH (fun _=>J false) β h w:=by
 refine⟨fun _ k d=>S.jlt _ k d,fun k d=>d,S.gl.to (fun _ h=>h) (fun _ _=>rfl),fun b x e i l=>?_,fun b x e i l=>by
   obtain⟨m,n,k,ob,q,z,A,C⟩:=S.mblk b x e i l
   exact⟨m,n,k,ob,q,z,A,fun _ D=>C false D⟩,S.sep⟩
 obtain⟨t,F⟩:=Aah y e
 rcases S.blk b x e i l with s | ⟨k,o,cs,ty,fr,s,G,I,K,v,L,M⟩
 ·exact .inl s
 ·refine .inr ⟨k,o,cs,ty,fr,s,G,I,K,⟨fun f=>?_,fun f j c d=>?_⟩,fun hs _=>L hs _,fun hs=>?_⟩
  ·have:=v.1 f;rw[t] at this;exact this
  ·obtain⟨u,m,n,q⟩:=v.2 f j c d
   exact⟨u,m,Rep.noOrg (Aag (F f) d) n,q⟩
  ·have:=M hs;rw[t] at this;exact this
theorem Ext.grow (hJ:∀ o k,J o k→J' o k):Ext J β h w J' β h w:=⟨hJ,fun _ _ _=>rfl,fun b x c=>⟨x,⟨c,rfl⟩,by cases d:x.dead<;>simp⟩,fun _ _ _ _=>Nat.le_refl _⟩
theorem SimH.grow (S:SimH J β h w) (hJ:∀ o k,J o k→J' o k) (i:∀ o k,J' o k→k<w.heap.size) (j:∀ k,J' false k→J' true k)
  (c:∀ b x k o,Am h b=some x→x.dead=false→x.sealed=false→β b=some (k,o)→∀ g,¬ J' g k):SimH J' β h w:=by
 refine⟨i,j,S.gl.to (hJ false) (fun _ _=>rfl),fun b x d e l=>?_,fun b x d e l=>by
   obtain⟨q,m,k,ob,n,s,t,C⟩:=S.mblk b x d e l
   exact⟨q,m,k,ob,n,s,t,c b x k 0 d e m n⟩,S.sep⟩
 rcases S.blk b x d e l with f | ⟨k,o,cs,ty,fr,f,u,v,y,z,D,A⟩
 ·exact .inl f
 ·exact .inr ⟨k,o,cs,ty,fr,f,u,v,y,z.ext (Ext.grow hJ),fun hs=>c b x k o d e hs f,fun hs=>hJ _ _ (A hs)⟩
def Ba0 (β:Cp) (h:Aj) (fz:List Nat) (k:Nat):Prop:=∃ b x o,b ∈ fz∧Am h b=some x∧x.dead=false∧x.sealed=false∧β b=some (k,o)
def JS (J:Bool→Nat→Prop) (β:Cp) (h:Aj) (fz:List Nat):Bool→Nat→Prop:=fun o k=>J o k∨(o=true∧Ba0 β h fz k)
theorem Aai {g:Bj} {b off n:Nat} {x:Blk} {vc:Value} {fz:List Nat} (S:SimH J β h w) (u:Looks g h) (c:Hc g b=some x) (v:x.pure=true) (y:x.sealed=false→b ∈ fz) (s:Rep J β h w (.own b off n) vc) :
  Rep (JS J β h fz) β h w (.imm ((x.cells.drop off).take (n*x.sz)) n x.sz false (!x.sealed||x.taint)) vc:=by
 unfold Hc at c
 obtain⟨x0,l,c⟩:=ub c
 obtain⟨m,c⟩:=Aya c
 simp at c;subst c
 have j:=u b _ l
 rw[Rep]
 have key:=(A2f (J':=fun o k=>o≠x0.taint∨JS J β h fz (!x0.sealed||x0.taint) k) S j m v s (fun k o q=>.inr ?_) (fun o k f=>?_) false (!x0.sealed||x0.taint)).2 (by simp)
 ·exact RepC.keep (fun k i=>by rcases i with i | i;exact absurd rfl i;exact i) (fun _ _=>rfl) key
 ·cases hs:x0.sealed with
  | false =>
   simp only[Bool.not_false,Bool.true_or]
   exact .inr ⟨rfl,b,x0,o,y hs,j,m,hs,q⟩
  | true =>
   simp only[Bool.not_true,Bool.false_or]
   rcases S.blk b x0 j m (A59 j s) with⟨d,_⟩ | ⟨A,o',cs,ty,fr,d,C,D,F,G,I,z⟩
   ·rw[q] at d;cases d
   ·rw[q] at d;simp at d;obtain⟨rfl,rfl⟩:=d
    exact .inl (z hs)
 ·by_cases e:o=x0.taint
  ·subst e
   right
   cases hs:x0.sealed with
   | false =>
    simp only[Bool.not_false,Bool.true_or]
    left
    cases t:x0.taint with
    | false=>rw[t] at f;exact S.jft k f
    | true=>rw[t] at f;exact f
   | true=>simp only[Bool.not_true,Bool.false_or];exact .inl f
  ·exact .inl e
theorem JS.mono (S:SimH J β h w) {fz:List Nat} {a b:Bool} (k:Nat) (c:JS J β h fz a k):JS J β h fz (a||b) k:=by
 cases a
 ·cases b
  ·exact c
  ·rcases c with c | ⟨d,_⟩
   ·exact .inl (S.jft k c)
   ·cases d
 ·exact c
theorem Ag2 {g:Bj} {v v':AV} {o:Bool} {vc:Value} {fz:List Nat} (S:SimH J β h w) (q:Looks g h) (d:SF g v=some (v',o)) (s:∀ b off n x,v=.own b off n→g b=some x→x.sealed=false→b ∈ fz) (f:Rep J β h w v vc) :
  RepC (JS J β h fz o) w v' vc:=by
 cases v
 case own b off n =>
  rw[SF] at d
  obtain⟨x,e,u⟩:=ub d
  obtain⟨y,m⟩:=uc u
  simp at m
  obtain⟨rfl,rfl⟩:=m
  have:=Aai S q e y (fun hs=>by
   unfold Hc at e
   obtain⟨x0,i,e⟩:=ub e
   obtain⟨F,e⟩:=Aya e
   simp at e;subst e
   exact s b off n x0 rfl i hs) f
  rw[Rep] at this;exact this
 case imm c n sz t org =>
  simp[SF] at d;obtain⟨rfl,rfl⟩:=d
  rw[Rep,RepC] at f
  rw[RepC]
  obtain⟨e1,A,cap,z,e3,e4,j⟩:=f
  refine⟨e1,A,cap,z,e3,by simp,?_⟩
  rcases j with j | ⟨a,C,D,e8⟩
  ·exact .inl j
  ·exact .inr ⟨a,C,.inl D,RepCs.keep (fun k l=>.inl l) (fun _ _=>rfl) (fun _=>rfl) e8⟩
 case iptr c org =>
  simp[SF] at d;obtain⟨rfl,rfl⟩:=d
  rw[Rep] at f
  exact RepC.keep (fun k l=>.inl l) (fun _ _=>rfl) f
 all_goals first
  | (simp[SF] at d;done)
  | (simp[SF] at d;obtain⟨rfl,rfl⟩:=d;rw[Rep] at f;rw[RepC];exact f)
theorem bT {g:Bj} {fz:List Nat} (S:SimH J β h w) (y:Looks g h):∀ {c f:LA} {o:Bool} {cs:List Value},bB g c=some (f,o)→(∀ b ∈ Mo g c,b ∈ fz)→Reps J β h w c cs →
  cs.length=f.length∧∀ (j:Nat) (x:AV),f[j]?=some x→∃ u,cs[j]?=some u∧RepC (JS J β h fz o) w x u
 | [],f,o,cs,d,m,i=>by
  simp[bB] at d;obtain⟨rfl,rfl⟩:=d
  rw[Reps] at i;subst i
  exact⟨rfl,fun j x l=>by simp at l⟩
 | v::r,f,o,cs,d,m,i=>by
  rw[bB] at d
  obtain⟨⟨v1,o1⟩,z,d⟩:=ub d
  obtain⟨⟨M,o2⟩,A,d⟩:=ub d
  simp at d;obtain⟨rfl,rfl⟩:=d
  rw[Reps] at i
  obtain⟨u,us,rfl,C,D⟩:=i
  have q:∀ b ∈ Mo g r,b ∈ fz:=fun b s=>m b (by
   cases v<;>simp only[Mo]<;>try exact s
   split
   ·rename_i x _;cases x.sealed<;>simp[s]
   ·exact s)
  have a1:=Ag2 (fz:=fz) S y z (fun b off n x e F hs=>m b (by subst e;simp[Mo,F,hs])) C
  obtain⟨G,I⟩:=bT S y A q D
  refine⟨by simp[G],fun j x l=>?_⟩
  cases j with
  | zero=>simp at l;subst l;exact⟨u,by simp,RepC.keep (fun k t=>JS.mono S k t) (fun _ _=>rfl) a1⟩
  | succ j =>
   obtain⟨K,e1,L⟩:=I j x (by simpa using l)
   exact⟨K,by simpa using e1,RepC.keep (fun k t=>by rw[Bool.or_comm];exact JS.mono S k t) (fun _ _=>rfl) L⟩
theorem Ag3 {g:Bj} {v v':AV} {q:Bool} {vc:Value} {fz:List Nat} (S:SimH J β h w) (C:Looks g h) (e:Ana g v=some (v',q)) (D:∀ b ∈ OE g v,b ∈ fz) (i:Rep J β h w v vc) :
  Rep (JS J β h fz) β h w v' vc∧Iq v'=[]:=by
 unfold Ana at e
 split at e
 ·rename_i b off n
  obtain⟨x,d,f⟩:=ub e
  obtain⟨F,m⟩:=uc f
  simp at m
  obtain⟨rfl,_⟩:=m
  exact⟨Aai S C d F (fun hs=>by
   unfold Hc at d
   obtain⟨x0,s,d⟩:=ub d
   obtain⟨y,d⟩:=Aya d
   simp at d;subst d
   exact D b (by simp[OE,s,hs])) i,by simp[Iq]⟩
 ·simp at e;obtain⟨rfl,_⟩:=e
  refine⟨?_,by simp[Iq]⟩
  rw[Rep,RepC] at i ⊢
  obtain⟨e1,A,cap,G,e3,e4,I⟩:=i
  refine⟨e1,A,cap,G,e3,by simp,?_⟩
  rcases I with I | ⟨a,T,U,e8⟩
  ·exact .inl I
  ·exact .inr ⟨a,T,.inl U,RepCs.keep (fun k V=>.inl V) (fun _ _=>rfl) (fun _=>rfl) e8⟩
 ·rename_i b off
  obtain⟨x,d,f⟩:=ub e
  obtain⟨F,m⟩:=uc f
  simp at m
  obtain⟨rfl,_⟩:=m
  unfold Hc at d
  obtain⟨x0,s,d⟩:=ub d
  obtain⟨y,d⟩:=Aya d
  simp at d;subst d
  have K:=C b _ s
  refine⟨?_,by simp[Iq]⟩
  rw[Rep] at i
  obtain⟨x1,k,o,⟨L,gm⟩,X,t⟩:=i
  rw[K] at L;simp at L;subst L
  rcases t with t | t
  ·simp[y] at t
  ·rcases S.blk b x0 K y gm with⟨f,_⟩ | ⟨k',o',cs,ty,fr,f,m,h3,h4,Y,h6,h7⟩
   ·rw[t] at f;cases f
   ·rw[t] at f;simp at f;obtain⟨rfl,rfl⟩:=f
    have M:∀ z,J x0.taint z→JS J β h fz (!x0.sealed||x0.taint) z:=by
     intro z l
     left
     cases hs:x0.sealed with
     | false =>
      simp only[Bool.not_false,Bool.true_or]
      cases O:x0.taint with
      | false=>rw[O] at l;exact S.jft z l
      | true=>rw[O] at l;exact l
     | true=>simp only[Bool.not_true,Bool.false_or];exact l
    rw[Rep,RepC]
    refine⟨_,X,?_,?_⟩
    ·cases hs:x0.sealed with
     | false =>
      simp only[Bool.not_false,Bool.true_or]
      exact .inr ⟨rfl,b,x0,o,D b (by simp[OE,s,hs]),K,y,hs,t⟩
     | true =>
      simp only[Bool.not_true,Bool.false_or]
      exact .inl (h7 hs)
    ·refine RepCs.keep M (fun _ _=>rfl) (fun j=>?_) ((Y.1 F).drop off)
     rw[Addr.add_mid,Vd m,Nat.add_assoc]
 ·rename_i c
  obtain⟨⟨c1,o1⟩,f,m⟩:=ub e
  simp at m;obtain⟨rfl,_⟩:=m
  rw[Rep] at i
  obtain⟨cs,rfl,i⟩:=i
  obtain⟨b1,b2⟩:=bT (fz:=fz) S C f (by simpa[OE] using D) i
  refine⟨?_,by simp[Iq]⟩
  rw[Rep]
  refine⟨cs,rfl,b1,?_⟩
  rw[B4]
  intro j x l
  obtain⟨u,e1,G⟩:=b2 j x l
  exact⟨u,by simpa using e1,G⟩
 ·simp at e;obtain⟨rfl,_⟩:=e
  exact⟨Rep.ext (Ext.grow fun _ _ l=>.inl l) i,by simp[Iq,Ks]⟩
 ·simp at e
 ·simp at e
 ·simp at e
 ·simp at e
 ·simp at e;obtain⟨rfl,_⟩:=e
  refine⟨Rep.ext (Ext.grow fun _ _ l=>.inl l) i,?_⟩
  cases v<;>first | rfl | simp_all
theorem GM {g:Bj} {fz:List Nat} (S:SimH J β h w) (n:Looks g h):∀ {f:LA} {ms:List Bool} {args':LA} {im e:List Nat} {vs:List Value},
  OF g ms f=some (args',im,e)→(∀ b ∈ e,b ∈ fz)→Reps J β h w f vs→Reps (JS J β h fz) β h w args' vs∧∀ b ∈ Ks args',b ∈ im
 | [],ms,args',im,e,vs,d,m,i=>by
  simp[OF] at d;obtain⟨rfl,rfl,rfl⟩:=d
  rw[Reps] at i;subst i
  exact⟨by rw[Reps],by simp[Ks]⟩
 | v::r,ms,args',im,e,vs,d,m,i=>by
  rw[OF] at d
  rw[Reps] at i
  obtain⟨u,us,rfl,j,k⟩:=i
  cases x:ms.headD false with
  | true =>
   rw[x,cond_true] at d
   obtain⟨⟨a2,i2,y⟩,q,l⟩:=ub d
   simp at l;obtain⟨rfl,rfl,rfl⟩:=l
   obtain⟨s,t⟩:=GM S n q m k
   refine⟨by rw[Reps];exact⟨u,us,rfl,Rep.ext (Ext.grow fun _ _ z=>.inl z) j,s⟩,fun b c=>?_⟩
   rw[Ks] at c
   rcases List.mem_append.1 c with c | c
   ·exact List.mem_append.2 (.inl c)
   ·exact List.mem_append.2 (.inr (t b c))
  | false =>
   rw[x,cond_false] at d
   obtain⟨⟨v1,C⟩,h0,d⟩:=ub d
   obtain⟨⟨a2,i2,y⟩,q,l⟩:=ub d
   simp at l;obtain⟨rfl,rfl,rfl⟩:=l
   obtain⟨e1,A⟩:=Ag3 S n h0 (fun b c=>m b (List.mem_append.2 (.inl c))) j
   obtain⟨s,t⟩:=GM S n q (fun b c=>m b (List.mem_append.2 (.inr c))) k
   refine⟨by rw[Reps];exact⟨u,us,rfl,e1,s⟩,fun b c=>?_⟩
   rw[Ks,A] at c
   exact t b (by simpa using c)
end
end Gx

namespace Gx
open Go
theorem Akg {g g':Bj} {ρ:Nat→Nat}:∀ {ids:List Nat},(∀ b ∈ ids,g b=g' b)→sub g ρ ids=sub g' ρ ids
 | [],_=>rfl
 | b::r,h=>by
  rw[sub,sub,h b (by simp),Akg (fun c d=>h c (by simp[d]))]
theorem bU {g:Bj}:∀ {l:List Nat},bD g l=true→∀ b ∈ l,∃ x,g b=some x∧x.dead=false
 | [],_,b,c=>by simp at c
 | i::r,h,b,c=>by
  rw[bD] at h
  simp at h
  rcases List.mem_cons.1 c with rfl | c
  ·cases d:g b with
   | none=>rw[d] at h;simp at h
   | some x=>rw[d] at h;exact⟨x,rfl,by simpa using h.1⟩
  ·exact bU h.2 b c
theorem A2n:∀ {l m:List Nat},Ar1 l m=true→∀ b ∈ l,b ∉ m
 | [],m,_,b,c=>by simp at c
 | i::r,m,h,b,c=>by
  rw[Ar1] at h
  simp at h
  rcases List.mem_cons.1 c with rfl | c
  ·intro d;have:=Nx.2 d;rw[this] at h;simp at h
  ·exact A2n h.2 b c
theorem OP {d:Nat}:∀ {l:List (Nat×Nat)} {b:Nat},b ∈ l.map (·.1)→K8 d l b ∈ l.map (·.2)
 | [],b,c=>by simp at c
 | (i,x)::r,b,c=>by
  rw[K8]
  cases hi:Nat.beq i b with
  | true=>simp
  | false =>
   have e:b ∈ r.map (·.1):=by
    rw[List.map_cons] at c
    rcases List.mem_cons.1 c with h | h
    ·exact absurd h.symm (CO hi)
    ·exact h
   simp only[cond_false,List.map_cons]
   exact List.mem_cons_of_mem _ (OP e)
theorem DZ {d:Nat}:∀ {l m:List (Nat×Nat)} {b:Nat},K8 d (l++m) b=if b ∈ l.map (·.1) then K8 d l b else K8 d m b
 | [],m,b=>by simp
 | (i,x)::r,m,b=>by
  rw[List.cons_append,K8,K8,DZ]
  cases hi:Nat.beq i b with
  | true=>have:=Nat.eq_of_beq_eq_true hi;subst this;simp
  | false =>
   have:=CO hi
   simp only[cond_false,List.map_cons,List.mem_cons]
   by_cases c:b ∈ r.map (·.1)
   ·rw[if_pos c,if_pos (.inr c)]
   ·rw[if_neg c,if_neg (by rintro(h | h);exact this h.symm;exact c h)]
theorem Mq:∀ {base:Nat} {l:List Nat},(A8 base l).map (·.1)=l
 | _,[]=>rfl
 | base,i::r=>by rw[A8,List.map_cons,Mq]
theorem Aaj {d f:Nat}:∀ {l:List Nat} {base b:Nat},b ∈ l→K8 f ((A8 base l).map fun p=>(p.2,p.1)) (K8 d (A8 base l) b)=b
 | [],base,b,c=>by simp at c
 | i::r,base,b,c=>by
  rw[A8,K8,List.map_cons,K8]
  cases hi:Nat.beq i b with
  | true=>have:=Nat.eq_of_beq_eq_true hi;subst this;simp
  | false =>
   have e:b ∈ r:=by
    rcases List.mem_cons.1 c with h | h
    ·exact absurd h.symm (CO hi)
    ·exact h
   simp only[cond_false]
   have j:=GL (d:=d) (base:=base+1) e
   rw[aO (show base≠K8 d (A8 (base+1) r) b by omega)]
   exact Aaj e
theorem Xs:∀ {base:Nat} {l:List Nat} {c:Nat},c ∈ (A8 base l).map (·.2)→base≤c∧c<base+l.length
 | _,[],c,b=>by simp[A8] at b
 | base,i::r,c,b=>by
  rw[A8,List.map_cons] at b
  rcases List.mem_cons.1 b with h | h
  ·simp at h;subst h;simp
  ·have:=Xs h;simp only[List.length_cons];omega
theorem GN:∀ {base:Nat} {l:List Nat},((A8 base l).map (·.2)).Nodup
 | _,[]=>by simp[A8]
 | base,i::r=>by
  rw[A8,List.map_cons,List.nodup_cons]
  exact⟨fun h=>by have:=Xs h;simp at this;omega,GN⟩
theorem bV:∀ {base:Nat} {l:List Nat} {b:Nat},b ∈ l→(b,K8 0 (A8 base l) b) ∈ A8 base l
 | _,[],b,c=>by simp at c
 | base,i::r,b,c=>by
  rw[A8,K8]
  cases hi:Nat.beq i b with
  | true=>have:=Nat.eq_of_beq_eq_true hi;subst this;simp
  | false =>
   have d:b ∈ r:=by
    rcases List.mem_cons.1 c with h | h
    ·exact absurd h.symm (CO hi)
    ·exact h
   simp only[cond_false]
   exact List.mem_cons_of_mem _ (bV d)
def Ayv (x:Blk):Blk:={ x with dead:=true,pure:=true,cells:=[] }
theorem Pj:∀ {ups:Fy} {h:Aj} {b:Nat} {o:Option Blk},(ups.map (·.1)).Nodup→(b,o) ∈ ups→Am (Al ups h) b=match o with | some x=>some x | none=>(Am h b).map Ayv
 | [],h,b,o,_,j=>by simp at j
 | (i,y)::r,h,b,o,hn,j=>by
  rw[List.map_cons,List.nodup_cons] at hn
  rcases List.mem_cons.1 j with k | c
  ·simp at k
   obtain⟨rfl,rfl⟩:=k
   have d:Be r b=false:=by
    have:∀ {r:Fy},b ∉ r.map (·.1)→Be r b=false:=by
     intro r
     induction r with
     | nil=>intro _;rfl
     | cons p r l =>
      intro h
      simp only[List.map_cons,List.mem_cons,not_or] at h
      rw[Be,aO (fun e=>h.1 e.symm)]
      exact l h.2
    exact this hn.1
   cases o with
   | some x=>rw[Al,Db _ _ _ d,Ah,if_pos rfl]
   | none =>
    rw[Al,Db _ _ _ d]
    cases m:Am h b with
    | none=>simp[m]
    | some x=>simp only[Option.map_some];rw[Ah,if_pos rfl];rfl
  ·have f:b≠i:=fun e=>by subst e;exact hn.1 (List.mem_map.2 ⟨_,c,rfl⟩)
   cases y with
   | some x =>
    rw[Al,Pj hn.2 c]
    cases o with
    | some _=>rfl
    | none=>simp only;rw[Ah,if_neg f]
   | none =>
    rw[Al,Pj hn.2 c]
    cases o with
    | some _=>rfl
    | none =>
     simp only
     split
     ·rw[Ah,if_neg f]
     ·rfl
theorem sX:∀ {ups:Fy} {b:Nat},Be ups b=true↔b ∈ ups.map (·.1)
 | [],b=>by simp[Be]
 | (i,y)::r,b=>by
  rw[Be,List.map_cons,List.mem_cons,←sX]
  cases hi:Nat.beq i b with
  | true=>have:=Nat.eq_of_beq_eq_true hi;subst this;simp
  | false=>have:=CO hi;simp;intro e;exact absurd e.symm this
theorem Aak {β:Cp} {h:Aj} {ρ:Nat→Nat} {ids:List Nat} (hn:(ids.map ρ).Nodup) {k:Nat} (f:Ar5 (WF ρ ids β) (sub (Am h) ρ ids) k) :
  ∃ b x o,b ∈ ids∧Am h b=some x∧x.dead=false∧x.sealed=false∧β b=some (k,o):=by
 obtain⟨c,y,o,i,j,hs,d⟩:=f
 obtain⟨b,x,e,rfl,l,rfl⟩:=Q3 hn c y i
 rw[Is hn e] at d
 exact⟨b,x,o,e,l,j,hs,d⟩
theorem SimH.unJ {J:Bool→Nat→Prop} {β:Cp} {h:Aj} {w:World} (S:SimH J β h w) {b:Nat} {x:Blk} {k o:Nat} (e:Am h b=some x) (f:x.dead=false) (hs:x.sealed=false) (d:β b=some (k,o)):∀ g,¬ J g k:=by
 cases i:x.mp with
 | false =>
  rcases S.blk b x e f i with⟨c,_⟩ | ⟨l,o2,cs,ty,fr,c,j,n,q,s,m,t⟩
  ·rw[d] at c;cases c
  ·rw[d] at c;simp at c;obtain⟨rfl,rfl⟩:=c
   exact m hs
 | true =>
  obtain⟨_,_,l,ob,c,_,_,j⟩:=S.mblk b x e f i
  rw[d] at c;simp at c;obtain⟨rfl,_⟩:=c
  exact j
theorem SimH.seJ {J:Bool→Nat→Prop} {β:Cp} {h:Aj} {w:World} (S:SimH J β h w) {b:Nat} {x:Blk} {k o:Nat} (d:Am h b=some x) (e:x.dead=false) (hs:x.sealed=true) (f:β b=some (k,o)):J x.taint k:=by
 cases i:x.mp with
 | false =>
  rcases S.blk b x d e i with⟨c,_⟩ | ⟨l,o2,cs,ty,fr,c,m,n,q,s,t,j⟩
  ·rw[f] at c;cases c
  ·rw[f] at c;simp at c;obtain⟨rfl,rfl⟩:=c
   exact j hs
 | true =>
  have:=(S.mblk b x d e i).2.1
  rw[hs] at this;cases this
theorem Step.merge {J J0 J1:Bool→Nat→Prop} {β β1:Cp} {h O H:Aj} {w w':World} {D ids:List Nat} (S:SimH J β h w) (S1:SimH J0 β1 O w')
  (hH:∀ b,b ∉ D→Am H b=Am h b)
  (hD:∀ b x,b ∈ D→Am H b=some x→x.dead=false→Am O b=some x)
  (hD1:∀ b x,Am O b=some x→b ∈ D∧Am H b=some x)
  (T:∀ b x,b ∈ D→b ∉ ids→Am h b≠some x)
  (U:∀ b x,b ∈ ids→Am h b=some x→∃ x',(Am H b=some x'∧x'.mp=x.mp)∧(x'.dead=true∨(x.dead=false∧β1 b=β b∧x'.sz=x.sz∧(x.mp=false→x'.cells.length=x.cells.length))))
  (t:∀ b ∈ ids,b ∈ D)
  (os:w'.os=w.os) (tape:w'.tape=w.tape) (output:w'.output=w.output) (size:w.heap.size≤w'.heap.size)
  (frame:∀ k,k<w.heap.size→(¬ ∃ b x o,b ∈ ids∧Am h b=some x∧x.dead=false∧x.sealed=false∧β b=some (k,o))→w'.heap[k]?=w.heap[k]?)
  (wr:∀ k,Ar5 β1 O k→k<w.heap.size→∃ b x o,b ∈ ids∧Am h b=some x∧x.dead=false∧x.sealed=false∧β b=some (k,o))
  (jup:∀ o k,J0 o k→J o k∨(∃ b x o,b ∈ ids∧Am h b=some x∧x.dead=false∧x.sealed=false∧β b=some (k,o))∨w.heap.size≤k)
  (sizes:∀ k,Bh w k≤Bh w' k) :
  Step J β h w (fun o k=>J o k∨J0 o k) (fun b=>if b ∈ D then β1 b else β b) H w'∧Ext J0 β1 O w' (fun o k=>J o k∨J0 o k) (fun b=>if b ∈ D then β1 b else β b) H w':=by
 have E0:Ext J0 β1 O w' (fun o k=>J o k∨J0 o k) (fun b=>if b ∈ D then β1 b else β b) H w':=by
  refine⟨fun _ _ c=>.inr c,fun _ _ _=>rfl,fun b x d=>?_,fun _ _ _ _=>Nat.le_refl _⟩
  obtain⟨n,s⟩:=hD1 b x d
  refine⟨x,⟨s,rfl⟩,?_⟩
  cases f:x.dead
  ·exact .inr ⟨rfl,by simp[n],rfl,fun _=>rfl⟩
  ·exact .inl rfl
 have keepJ:∀ o k,J o k→w'.heap[k]?=w.heap[k]?:=by
  intro o k c
  refine frame k (S.jlt o k c) ?_
  rintro⟨b,x,o',_,d,f,hs,l⟩
  exact S.unJ d f hs l o c
 have E:Ext J β h w (fun o k=>J o k∨J0 o k) (fun b=>if b ∈ D then β1 b else β b) H w':=by
  refine⟨fun _ _ c=>.inl c,keepJ,fun b x d=>?_,fun b k o _=>sizes k⟩
  by_cases hi:b ∈ ids
  ·obtain⟨x',n,s⟩:=U b x hi d
   refine⟨x',n,?_⟩
   simp only[t b hi,if_true]
   exact s
  ·have V:b ∉ D:=fun f=>T b x f hi d
   refine⟨x,⟨by rw[hH b V];exact d,rfl⟩,?_⟩
   cases f:x.dead
   ·exact .inr ⟨rfl,by simp[V],rfl,fun _=>rfl⟩
   ·exact .inl rfl
 have out:∀ {b x},b ∉ D→Am H b=some x→Am h b=some x:=fun d q=>by rw[←hH _ d];exact q
 refine⟨⟨E,⟨?_,?_,S.gl.ext E,fun b x q f K=>?_,fun b x q f K=>by
   by_cases d:b ∈ D
   ·have n:=hD b x d q f
    have M:=S1.mblk b x n f K
    refine M.keep (by simp[d]) (fun _ _ _=>rfl) (fun g k o l c=>?_)
    rcases c with c | c
    ·exfalso
     by_cases y:k<w.heap.size
     ·obtain⟨z,x',o',j,m,i,u,e⟩:=wr k ⟨b,x,o,n,f,M.2.1,l⟩ y
      exact S.unJ m i u e g c
     ·exact y (S.jlt g k c)
    ·exact c
   ·have n:=out d q
    have M:=S.mblk b x n f K
    have v:∀ k o,β b=some (k,o)→¬ ∃ b x o,b ∈ ids∧Am h b=some x∧x.dead=false∧x.sealed=false∧β b=some (k,o):=by
     rintro k o s ⟨z,x',o',j,m,i,u,e⟩
     have:=S.sep b z x x' k o o' n m f i M.2.1 s e
     subst this
     exact d (t b j)
    refine M.keep (by simp[d]) (fun k o l=>frame k (CC S n f l) (v k o l)) (fun g k o l c=>?_)
    rcases c with c | c
    ·exact c
    ·rcases jup g k c with c | c | c
     ·exact c
     ·exact absurd c (v k o l)
     ·have:=CC S n f l;omega,?_⟩,os,tape,output,size,?_,?_,?_⟩,E0⟩
 ·rintro o k (c | c)
  ·exact Nat.lt_of_lt_of_le (S.jlt o k c) size
  ·exact S1.jlt o k c
 ·rintro k (c | c)
  ·exact .inl (S.jft k c)
  ·exact .inr (S1.jft k c)
 ·by_cases d:b ∈ D
  ·have n:=hD b x d q f
   rcases S1.blk b x n f K with⟨s,I⟩ | ⟨k,o,cs,ty,fr,s,I,h5,h6,h7,Y,h9⟩
   ·exact .inl ⟨by simp[d,s],I⟩
   ·refine .inr ⟨k,o,cs,ty,fr,by simp[d,s],I,h5,h6,h7.ext E0,fun hs g c=>?_,fun hs=>.inr (h9 hs)⟩
    rcases c with c | c
    ·by_cases y:k<w.heap.size
     ·obtain⟨z,x',o',j,m,i,u,e⟩:=wr k ⟨b,x,o,n,f,hs,s⟩ y
      exact S.unJ m i u e g c
     ·exact y (S.jlt g k c)
    ·exact Y hs g c
  ·have n:=out d q
   rcases S.blk b x n f K with⟨s,I⟩ | ⟨k,o,cs,ty,fr,s,I,h5,h6,h7,Y,h9⟩
   ·exact .inl ⟨by simp[d,s],I⟩
   ·have y:=SM I
    have v:x.sealed=false→¬ ∃ b x o,b ∈ ids∧Am h b=some x∧x.dead=false∧x.sealed=false∧β b=some (k,o):=by
     rintro hs ⟨z,x',o',j,m,i,u,e⟩
     have:=S.sep b z x x' k o o' n m f i hs s e
     subst this
     exact d (t b j)
    have same:w'.heap[k]?=w.heap[k]?:=by
     cases hs:x.sealed with
     | false=>exact frame k y (v hs)
     | true=>exact keepJ _ k (h9 hs)
    refine .inr ⟨k,o,cs,ty,fr,by simp[d,s],by rw[same];exact I,h5,h6,h7.ext E,fun hs g c=>?_,fun hs=>.inl (h9 hs)⟩
    rcases c with c | c
    ·exact Y hs g c
    ·rcases jup g k c with c | c | c
     ·exact Y hs g c
     ·exact v hs c
     ·omega
 ·intro b z x x' k o o' q m f i hs l e
  by_cases d:b ∈ D<;>by_cases j:z ∈ D
  ·simp[d] at l;simp[j] at e
   exact S1.sep b z x x' k o o' (hD b x d q f) (hD z x' j m i) f i hs l e
  ·exfalso
   simp[d] at l;simp[j] at e
   have n:=out j m
   have y:=CC S n i e
   obtain⟨X,x2,o2,L,A,C,G,F⟩:=wr k ⟨b,x,o,hD b x d q f,f,hs,l⟩ y
   have:=S.sep X z x2 x' k o2 o' A n C i G F e
   subst this
   exact j (t _ L)
  ·exfalso
   simp[d] at l;simp[j] at e
   have n:=out d q
   have s:=hD z x' j m i
   have y:=CC S n f l
   have v:¬ ∃ b x o,b ∈ ids∧Am h b=some x∧x.dead=false∧x.sealed=false∧β b=some (k,o):=by
    rintro⟨X,x2,o2,L,A,C,G,F⟩
    have:=S.sep b X x x2 k o o2 n A f C hs l F
    subst this
    exact d (t _ L)
   cases u:x'.sealed with
   | false=>exact v (wr k ⟨z,x',o',s,i,u,e⟩ y)
   | true =>
    rcases jup _ k (S1.seJ s i u e) with c | c | c
    ·exact S.unJ n f hs l _ c
    ·exact v c
    ·omega
  ·simp[d] at l;simp[j] at e
   exact S.sep b z x x' k o o' (out d q) (out j m) f i hs l e
 ·intro k y K
  exact frame k y (fun ⟨b,x,o,_,q,f,hs,l⟩=>K ⟨b,x,o,q,f,hs,l⟩)
 ·rintro k ⟨b,x,o,q,f,hs,l⟩ y
  by_cases d:b ∈ D
  ·simp[d] at l
   obtain⟨X,x2,o2,_,A,C,G,F⟩:=wr k ⟨b,x,o,hD b x d q f,f,hs,l⟩ y
   exact⟨X,x2,o2,A,C,G,F⟩
  ·simp[d] at l
   exact⟨b,x,o,out d q,f,hs,l⟩
 ·rintro o k (c | c)
  ·exact .inl c
  ·rcases jup o k c with c | ⟨b,x,o2,_,q,f,hs,l⟩ | c
   ·exact .inl c
   ·exact .inr (.inl ⟨b,x,o2,q,f,hs,l⟩)
   ·exact .inr (.inr c)
end Gx

namespace Gx
open Go
theorem Ayw {l:List Nat}:Anb l=true↔l=[]:=by cases l<;>simp[Anb]
theorem SX {α β:Type} {f:α→β}:∀ {l:List α},(l.map f).Nodup→l.Nodup
 | [],_=>List.nodup_nil
 | a::r,h=>by
  rw[List.map_cons,List.nodup_cons] at h
  exact List.nodup_cons.2 ⟨fun b=>h.1 (List.mem_map.2 ⟨a,b,rfl⟩),SX h.2⟩
theorem SY {α:Type} {p:α→Bool}:∀ {l:List α},l.Nodup→(l.filter p).Nodup
 | [],_=>List.nodup_nil
 | a::r,h=>by
  rw[List.nodup_cons] at h
  rw[List.filter_cons]
  split
  ·exact List.nodup_cons.2 ⟨fun b=>h.1 (List.mem_filter.1 b).1,SY h.2⟩
  ·exact SY h.2
theorem nV {base:Nat} {l:List Nat} {p:Nat×Nat} (b:p ∈ A8 base l):p.1 ∈ l:=by
 have:p.1 ∈ (A8 base l).map (·.1):=List.mem_map.2 ⟨p,b,rfl⟩
 rw[Mq] at this;exact this
theorem A2o {σ:Nat→Nat}:∀ {l:List Nat} {a b:Nat},(l.map σ).Nodup→a ∈ l→b ∈ l→σ a=σ b→a=b
 | [],a,b,_,e,_,_=>by simp at e
 | i::r,a,b,hn,e,j,f=>by
  rw[List.map_cons,List.nodup_cons] at hn
  rcases List.mem_cons.1 e with c | c<;>rcases List.mem_cons.1 j with d | d
  ·rw[c,d]
  ·subst c;exact absurd (List.mem_map.2 ⟨b,d,f.symm⟩) hn.1
  ·subst d;exact absurd (List.mem_map.2 ⟨a,c,f⟩) hn.1
  ·exact A2o hn.2 c d f
theorem A6j {E:Env} (hT:Aaf E.P E.tbl):mD E:=by
 intro R r k J β h w g d f args vs S hl hh hv
 unfold Aj6 at hh
 obtain⟨⟨args',im,fz⟩,C,h1⟩:=ub hh
 simp only at h1
 obtain⟨n,h2⟩:=uc h1
 simp only[Bool.and_eq_true] at n
 obtain⟨U,Y,V,hdj,s,_⟩:=n
 generalize hids:GE g im=ids at *
 generalize hρ:K8 0 (A8 100000 ids)=ρ at *
 have U:=bU U
 have Y:=R6 Y
 have hdj:=A2n hdj
 have s:=Xq s
 have hg:∀ b ∈ ids,g b=Am h b:=fun b j=>by obtain⟨x,m,_⟩:=U b j;rw[m,hl b x m]
 rw[JC (g:=Am h) hg] at V
 have V:=R6 V
 rw[Akg (g':=Am h) hg] at h2
 obtain⟨hA,hB⟩:=GM (fz:=fz) S hl C (fun _ h=>h) hv
 have aliveH:∀ b ∈ ids,∃ x,Am h b=some x∧x.dead=false:=fun b j=>by obtain⟨x,m,G⟩:=U b j;exact⟨x,hl b x m,G⟩
 have SJ:SimH (JS J β h fz) (WF ρ ids β) (sub (Am h) ρ ids) w:=by
  refine(S.ren s V).grow (fun o k t=>.inl t) ?_ ?_ ?_
  ·rintro o k (t | ⟨_,b,x,o',_,m,G,_,hβ⟩)
   ·exact S.jlt o k t
   ·exact CC S m G hβ
  ·rintro k (t | ⟨h0,_⟩)
   ·exact .inl (S.jft k t)
   ·cases h0
  ·intro c y k o hy G hs hβ q t
   obtain⟨b,x,j,rfl,m,rfl⟩:=Q3 s c y hy
   rw[Is s j] at hβ
   rcases t with t | ⟨_,b',x',o',hb',hx',hd',hs',hβ'⟩
   ·exact S.unJ m G hs hβ _ t
   ·have:=S.sep b b' x x' k o o' m hx' G hd' hs hβ hβ'
    subst this
    exact hdj b hb' j
 have RJ:Reps (JS J β h fz) (WF ρ ids β) (sub (Am h) ρ ids) w (CN ρ args') vs:=Reps.ren s (fun b j=>Y b (hB b j)) hA
 obtain⟨rv,rh,hF,h3⟩:=As2 hT h2
 have hcall:=hF _ _ w vs SJ RJ
 obtain⟨z,h4⟩:=Aya h3
 obtain⟨hc2,h5⟩:=uc h4
 simp only[Bool.and_eq_true] at hc2
 obtain⟨I,X,hrv,v,K,u⟩:=hc2
 generalize hall:GE (Am rh) (Iq rv++(A8 100000 ids).map (·.2))=all at *
 generalize L:all.filter (fun b=>!Kt ((A8 100000 ids).map (·.2)) b)=new at *
 generalize hσ:K8 0 ((A8 100000 ids).map (fun p=>(p.2,p.1))++A8 (nid d) new)=σ at *
 have I:=bU I
 have hrv:=R6 hrv
 have v:=R6 v
 have K:=R6 K
 have u:=Xq u
 have X:new.length≤16:=by simpa using X
 refine⟨_,_,h5,fun hfree=>Calls.mono hcall ?_⟩
 rintro e w' ⟨vc,J',β',rfl,F,hR⟩
 refine⟨vc,rfl,?_⟩
 have back:∀ b ∈ ids,σ (ρ b)=b:=by
  intro b j
  rw[←hσ,DZ,if_pos,←hρ]
  ·exact Aaj j
  ·rw[List.map_map]
   have:=OP (d:=0) (l:=A8 100000 ids) (b:=b) (by rw[Mq];exact j)
   rw[hρ] at this
   exact this
 have ρall:∀ b ∈ ids,ρ b ∈ all:=by
  intro b j
  refine v _ ?_
  have:=OP (d:=0) (l:=A8 100000 ids) (b:=b) (by rw[Mq];exact j)
  rw[hρ] at this
  exact this
 have σout:∀ c ∈ all,c ∈ (A8 100000 ids).map (·.2)→σ c ∈ ids:=by
  intro c _ n
  rw[←hσ,DZ,if_pos (by rw[List.map_map];exact n)]
  have:=OP (d:=0) (l:=(A8 100000 ids).map (fun p=>(p.2,p.1))) (b:=c) (by rw[List.map_map];exact n)
  rw[List.map_map] at this
  have e:(A8 100000 ids).map ((fun x=>x.2)∘fun p=>(p.2,p.1))=ids:=Mq
  rw[e] at this
  exact this
 have newmem:∀ c ∈ new,c ∈ all∧c ∉ (A8 100000 ids).map (·.2):=by
  intro c n
  rw[←L] at n
  obtain⟨O,h7⟩:=List.mem_filter.1 n
  refine⟨O,fun A=>?_⟩
  rw[Nx.2 A] at h7;simp at h7
 have σnew:∀ c ∈ new,σ c=K8 0 (A8 (nid d) new) c:=by
  intro c n
  rw[←hσ,DZ,if_neg]
  rw[List.map_map];exact(newmem c n).2
 have allcases:∀ c ∈ all,c ∈ (A8 100000 ids).map (·.2)∨c ∈ new:=by
  intro c n
  by_cases A:c ∈ (A8 100000 ids).map (·.2)
  ·exact .inl A
  ·refine .inr ?_
   rw[←L]
   refine List.mem_filter.2 ⟨n,?_⟩
   cases hq:Kt ((A8 100000 ids).map (·.2)) c with
   | false=>rfl
   | true=>exact absurd (Nx.1 hq) A
 generalize T:((A8 100000 ids).map fun p=>(p.1,(Am rh p.2).map (IQ σ)))++(A8 (nid d) new).map (fun p=>(p.2,(Am rh p.1).map (IQ σ)))=ups at *
 have keys:ups.map (·.1)=ids++(A8 (nid d) new).map (·.2):=by
  rw[←T,List.map_append,List.map_map,List.map_map]
  congr 1
  exact Mq
 have newFree:∀ c ∈ (A8 (nid d) new).map (·.2),Am h c=none:=by
  intro c n
  refine hfree c (sX.2 (by rw[keys];exact List.mem_append.2 (.inr n))) ?_
  have:=Xs n
  unfold OG
  simp;omega
 have keysN:(ups.map (·.1)).Nodup:=by
  rw[keys,List.nodup_append]
  refine⟨SX s,GN,fun a ha b j e=>?_⟩
  subst e
  obtain⟨x,m,_⟩:=aliveH a ha
  rw[newFree a j] at m;cases m
 have upsOld:∀ b ∈ ids,(b,(Am rh (ρ b)).map (IQ σ)) ∈ ups:=by
  intro b j
  rw[←T]
  refine List.mem_append.2 (.inl (List.mem_map.2 ⟨(b,ρ b),?_,rfl⟩))
  rw[←hρ];exact bV j
 have upsNew:∀ c ∈ new,(σ c,(Am rh c).map (IQ σ)) ∈ ups:=by
  intro c n
  rw[←T]
  refine List.mem_append.2 (.inr (List.mem_map.2 ⟨(c,σ c),?_,rfl⟩))
  rw[σnew c n];exact bV n
 have J0:∃ J0:Bool→Nat→Prop,SimH J0 β' rh w'∧Rep J0 β' rh w' rv vc∧∀ o k,J0 o k→J o k∨Ar5 (WF ρ ids β) (sub (Am h) ρ ids) k∨w.heap.size≤k:=by
  cases he:Anb fz with
  | true =>
   have:=Ayw.1 he
   subst this
   refine⟨J',F.sim,hR,fun o k t=>?_⟩
   rcases F.jup o k t with(t | ⟨_,b,x,o',j,_⟩) | t
   ·exact .inl t
   ·simp at j
   ·exact .inr t
  | false =>
   rw[he] at z
   simp at z
   refine⟨fun _=>J' false,F.sim.noOrg z.2,Rep.noOrg z.1 hR,fun o k t=>?_⟩
   rcases F.jup false k t with(O | ⟨h0,_⟩) | O
   ·left
    cases o
    ·exact O
    ·exact S.jft k O
   ·cases h0
   ·exact .inr O
 obtain⟨J0,S0,R0,jup0⟩:=J0
 have S1:=S0.ren u K
 have R1:=Rep.ren u hrv R0
 have M:=Step.merge (J:=J) (J0:=J0) (J1:=J0) (H:=Al ups h) (D:=ids++(A8 (nid d) new).map (·.2)) (ids:=ids) S S1
  (fun b j=>Db _ _ _ (by
   cases hi:Be ups b with
   | false=>rfl
   | true=>exact absurd (by rw[←keys];exact sX.1 hi) j))
  (fun b x j m G=>by
   rcases List.mem_append.1 j with j | j
   ·rw[Pj keysN (upsOld b j)] at m
    cases hq:Am rh (ρ b) with
    | none =>
     rw[hq] at m;simp at m
     obtain⟨y,_,rfl⟩:=m
     simp[Ayv] at G
    | some y =>
     rw[hq] at m;simp at m;subst m
     have:=JD (g:=Am rh) u (ρ b) y (ρall b j) hq
     rw[back b j] at this
     exact this
   ·obtain⟨c,n,rfl⟩:∃ c ∈ new,σ c=b:=by
     obtain⟨p,C,rfl⟩:=List.mem_map.1 j
     have hp1:p.1 ∈ new:=nV C
     refine⟨p.1,hp1,?_⟩
     rw[σnew _ hp1]
     have:∀ {base:Nat} {l:List Nat} {p:Nat×Nat},l.Nodup→p ∈ A8 base l→K8 0 (A8 base l) p.1=p.2:=by
      intro base l
      induction l generalizing base with
      | nil=>intro p _ C;simp[A8] at C
      | cons i r ih =>
       intro p hn C
       rw[List.nodup_cons] at hn
       rw[A8] at C ⊢
       rw[K8]
       rcases List.mem_cons.1 C with rfl | C
       ·simp
       ·have:p.1 ∈ r:=nV C
        rw[aO (fun e=>hn.1 (by rw[e];exact this))]
        exact ih hn.2 C
     refine this ?_ C
     rw[←L]
     exact SY (SX u)
    rw[Pj keysN (upsNew c n)] at m
    obtain⟨y,hy,_⟩:=I c n
    rw[hy] at m;simp at m;subst m
    exact JD (g:=Am rh) u c y (newmem c n).1 hy)
  (fun b x j=>by
   obtain⟨c,y,n,rfl,hy,rfl⟩:=Q3 u b x j
   rcases allcases c n with A | A
   ·have O:=σout c n A
    have h7:ρ (σ c)=c:=by
     have:(all.map σ).Nodup:=u
     have e1:=back (σ c) O
     have e2:=ρall (σ c) O
     exact A2o this e2 n e1
    refine⟨List.mem_append.2 (.inl O),?_⟩
    rw[Pj keysN (upsOld (σ c) O),h7,hy];rfl
   ·refine⟨List.mem_append.2 (.inr ?_),?_⟩
    ·rw[σnew c A]
     exact OP (by rw[Mq];exact A)
    ·rw[Pj keysN (upsNew c A),hy];rfl)
  (fun b x j hni m=>by
   rcases List.mem_append.1 j with j | j
   ·exact hni j
   ·rw[newFree b j] at m;cases m)
  (fun b x j m=>by
   rw[Pj keysN (upsOld b j)]
   cases hq:Am rh (ρ b) with
   | none=>exact⟨Ayv x,⟨by simp[m],rfl⟩,.inl rfl⟩
   | some y =>
    cases G:y.dead with
    | true=>have:=F.live _ _ hq;rw[G] at this;cases this
    | false =>
     have e0:=JD (g:=Am h) s b x j m
     obtain⟨⟨e1,em⟩,e2,e3,e4⟩:=F.outs (ρ b) _ y e0 hq G
     refine⟨IQ σ y,⟨by simp,em⟩,.inr ?_⟩
     refine⟨e4,?_,e2,fun hmx=>?_⟩
     ·have:=Is (β:=β') u (ρall b j)
      rw[back b j] at this
      rw[this,e1]
      exact Is s j
     ·rw[Pi,e3 hmx,Pi])
  (fun b j=>List.mem_append.2 (.inl j))
  F.os F.tape F.output F.size
  (fun k hk A=>F.frame k hk (fun hm'=>A (Aak s hm')))
  (fun k A hk=>Aak s (F.wr k (Anz u A) hk))
  (fun o k t=>by
   rcases jup0 o k t with t | t | t
   ·exact .inl t
   ·exact .inr (.inl (Aak s t))
   ·exact .inr (.inr t))
  F.sizes
 exact⟨_,_,M.1,Rep.ext M.2 R1⟩
theorem As6 {P:Program} {muts:Nat→List Bool} {T:List (Nat×Tw)} {hs:Hints} {N f:Nat} {d:LA} {h:Aj} {m:AV} {h':Aj} (hT:Aaf P T) (F:P.follows .mixedOrders=true)
  (q:V_ P muts T hs N f d h (fun v h'=>some (v,h'))=some (m,h')):Baz P f d h m h':=by
 unfold V_ at q
 split at q
 ·simp at q
 ·rename_i fn G
  split at q
  ·simp at q
  ·rename_i c O
   simp only at q
   obtain⟨t,U⟩:=uc q
   simp only[Bool.and_eq_true] at t
   obtain⟨n,k⟩:=t
   have n:d.length≤fn.ntmps:=by simpa using n
   intro J β w vs S M
   have V:vs.length=d.length:=((C0).1 M).1
   refine calls_of_wp G O ?_
   have roots:∀ {h:Aj} {b:Nat} {x:Blk},yz h=true→Am h b=some x→z_ b=true:=by
    intro h
    induction h with
    | nil=>intro b x _ e;simp[Am] at e
    | cons p r K =>
     intro b x hr e
     obtain⟨i,y⟩:=p
     rw[yz] at hr
     simp at hr
     rw[Am] at e
     cases hi:Nat.beq i b with
     | true=>have:=Nat.eq_of_beq_eq_true hi;subst this;exact hr.1
     | false=>rw[hi] at e;exact K hr.2 (by simpa using e)
   have sgetI:∀ {d:LA} {j i:Nat},Hb (Aj8 j d) i=if j≤i then (d[i - j]?).getD .undef else .undef:=by
    intro d
    induction d with
    | nil=>intro j i;simp[Aj8,Hb]
    | cons v r K =>
     intro j i
     rw[Aj8,Hb]
     cases hi:Nat.beq j i with
     | true=>have:=Nat.eq_of_beq_eq_true hi;subst this;simp
     | false =>
      have:=CO hi
      simp only[cond_false]
      rw[K]
      by_cases u:j+1≤i
      ·rw[if_pos u,if_pos (by omega),show i - j=(i - (j+1))+1 by omega];simp
      ·rw[if_neg u]
       by_cases l:j≤i
       ·omega
       ·rw[if_neg l]
   have I:Inv ⟨J,β,h,w⟩ fn.ntmps J β { s:=Aj8 0 d,h:=h } { tmps:=vs.toArray++Array.replicate (fn.ntmps - vs.toArray.size) undef,defers:=[] } w:=by
    refine⟨S,⟨fun i v hi=>?_,fun i hi=>?_⟩,?_,rfl,rfl,rfl,rfl,Nat.le_refl _,fun _ _ _=>rfl,fun _ F _=>F,fun _ _ L=>L,fun _ _ L=>.inl L,fun _=>Nat.le_refl _,?_,?_,?_⟩
    ·rw[sgetI,if_pos (Nat.zero_le _)]
     by_cases z:i<d.length
     ·have l:d[i - 0]?=some d[i]:=by simp[z]
      rw[l]
      have A:vs[i]?=some v:=by
       rw[Array.getElem?_append_left (by simp;omega)] at hi
       simpa using hi
      exact((C0).1 M).2 i _ _ (by simp[z]) A
     ·have l:d[i - 0]?=none:=by simp;omega
      rw[l];simp[Rep]
    ·simp at hi
     rw[sgetI,if_pos (Nat.zero_le _)]
     have l:d[i - 0]?=none:=by simp;omega
     rw[l];rfl
    ·simp;omega
    ·intro b x0 e;exact(Aae.1 (roots k e)).2
    ·intro b x0 e;exact(Aae.1 (roots k e)).1
    ·intro b x0 x e C X
     change Am h b=some x0 at e
     change Am h b=some x at C
     rw[e] at C;simp at C;subst C
     exact⟨⟨rfl,rfl⟩,rfl,fun _=>rfl,X⟩
   have fin:∀ st' D w' J' β',Inv ⟨J,β,h,w⟩ fn.ntmps J' β' st' D w'→DV { P:=P,nt:=fn.ntmps,muts:=muts,nils:=hs.nils,free:=hs.free,cob:=hs.cob,tbl:=T } fn hs.modes (h.map (·.1)) (fun v h'=>some (v,h')) st'=some (m,h') →
     D.defers=[]∧∃ v,(results fn D.tmps).run P w'=.ok v w'∧∃ vc J' β',Ending.returned v=.returned vc∧FDone ⟨J,β,h,w⟩ J' β' h' w'∧Rep J' β' h' w' m vc:=by
    intro st' D w' J' β' I' l
    obtain⟨res2,Y,vc,J2,β2,A,h4,h5,h6⟩:=Ag1 I' l
    simp at A
    obtain⟨rfl,rfl⟩:=A
    exact⟨I'.defers,vc,h4,vc,J2,β2,rfl,h5,h6⟩
   exact As0 (E:={ P:=P,nt:=fn.ntmps,muts:=muts,nils:=hs.nils,free:=hs.free,cob:=hs.cob,tbl:=T }) (A6j hT) F c I U fin (fun _ _ _ _ _ _ _ l=>by simp at l) fin
end Gx

namespace Gx
open Go
section
variable {R R':Type}
theorem Ayx (E:Env) (ops:Array Oper) (o:Oper) (st:St) (k:St→Foot→O R) (g:R→Option R'):(Ar2 E ops o st k).bind g=Ar2 E ops o st fun st f=>(k st f).bind g:=by
 rw[gP,gP,Option.bind_assoc]
theorem An1 (ops:Array Oper) (o:Oper) (st:St) (k:St→O R) (g:R→Option R'):(sK ops o st k).bind g=sK ops o st fun st=>(k st).bind g:=by
 unfold sK
 split
 ·rfl
 ·split
  ·rfl
  ·split
   ·rw[Ao]
   ·rfl
theorem Aal (E:Env) (ops:Array Oper) (g:R→Option R'):∀ (l:List Oper) (st:St) (tr:List Foot) (k:St→List Foot→O R),(z6 E ops l st tr k).bind g=z6 E ops l st tr fun st tr=>(k st tr).bind g
 | [],st,tr,k=>rfl
 | o::r,st,tr,k=>by
  rw[z6,z6,An1]
  congr 1;funext st
  rw[Ayx]
  congr 1;funext st f
  exact Aal E ops g r st (f::tr) k
theorem Ag4 (E:Env) (roots:List Nat) (ops:Array Oper) (draw:Bool) (st:St) (k:St→O R) (g:R→Option R'):(gJ E roots ops draw st k).bind g=gJ E roots ops draw st fun st=>(k st).bind g:=by
 unfold gJ
 rw[Aal]
 congr 1;funext st tr
 rw[Ao,Option.bind_assoc];rfl
theorem Ayy (E:Env) (roots:List Nat) (H:Hint) (f:St→O R) (g:R→Option R') (st:St):(A3i E roots H f st).bind g=A3i E roots H (fun st=>(f st).bind g) st:=by
 unfold A3i
 rw[Ao,Option.bind_assoc,I_,I_]
theorem uT (cn:St→Option St) (b:(St→O R)→St→O R) (c:(St→Option R')→St→Option R') (g:R→Option R') (d:∀ k st,(b k st).bind g=c (fun st=>(k st).bind g) st):∀ n st,(bF cn b n st).bind g=bF cn c n st
 | 0,st=>rfl
 | n+1,st=>by
  rw[bF,bF,d]
  congr 1;funext st
  rw[Option.bind_assoc]
  congr 1;funext st
  exact uT cn b c g d n st
theorem As7 (E:Env) (roots:List Nat) (N:Nat) (g:R→Option R'):∀ (c:Code) (H:Hint) (k:St→O R) (x:Nat→St→O R) (r:St→O R) (st:St),
  (He E roots N c H k x r st).bind g=He E roots N c H (fun st=>(k st).bind g) (fun j st=>(x j st).bind g) (fun st=>(r st).bind g) st:=by
 intro c
 induction c with
 | skip=>intro H k x r st;rfl
 | region id ops draw=>intro H k x r st;exact Ag4 ..
 | seq a b d e =>
  intro H k x r st
  rw[He,He,d]
  congr 1;funext st
  rw[Ayy]
  congr 1;funext st
  exact e ..
 | cond c a b d e =>
  intro H k x r st
  rw[He,He]
  split
  ·rw[Ao,d,e]
  ·rfl
 | block id c f =>
  intro H k x r st
  rw[He,He,f]
  simp only[Ao]
 | loop c f =>
  intro H k x r st
  rw[He,He,Option.bind_assoc,I_,I_]
  congr 1;funext st
  exact uT _ _ _ g (fun k st=>f ..) N st
 | exit id=>intro H k x r st;rfl
 | ret=>intro H k x r st;rfl
 | rangeFunc=>intro H k x r st;rfl
 | scope=>intro H k x r st;rfl
 | label=>intro H k x r st;rfl
 | goto=>intro H k x r st;rfl
 | refuse=>intro H k x r st;rfl
theorem MU (E:Env) (st:St) (g:R→Option R'):∀ (l:List ResultVar) (acc:LA) (k:LA→O R),(Qw E st l acc k).bind g=Qw E st l acc fun l=>(k l).bind g
 | [],acc,k=>rfl
 | .tmp t::r,acc,k=>by rw[Qw,Qw];exact MU E st g r _ k
 | .cell a t::r,acc,k=>by
  rw[Qw,Qw,SV,SV (R:=R'),Option.bind_assoc]
  congr 1;funext v
  exact MU E st g r _ k
theorem Ag5 (E:Env) (fn:Func) (modes:List (Nat×Nat)) (outs:List Nat) (k:AV→Aj→O R) (g:R→Option R') (st:St):(DV E fn modes outs k st).bind g=DV E fn modes outs (fun v h=>(k v h).bind g) st:=by
 unfold DV
 rw[MU]
 congr 1;funext l
 rw[Option.bind_assoc]
 congr 1;funext q
 rw[Ao];rfl
theorem Ayz (P:Program) (muts:Nat→List Bool) (T:List (Nat×Tw)) (hs:Hints) (N f:Nat) (b:LA) (h:Aj) (k:AV→Aj→O R) :
  V_ P muts T hs N f b h k=(V_ P muts T hs N f b h fun v h=>some (v,h)).bind fun p=>k p.1 p.2:=by
 unfold V_
 split
 ·rfl
 ·split
  ·rfl
  ·simp only
   rw[Ao,As7]
   simp only[Ag5]
   rfl
structure Cut (R:Type) where
 c:Code
 H:Hint
 k:St→O R
 x:Nat→St→O R
 r:St→O R
noncomputable def A94 (E:Env) (roots:List Nat) (N:Nat):List Nat→Code→Hint→(St→O R)→(Nat→St→O R)→(St→O R)→List (St→O R)→Cut R
 | [],c,H,k,x,r,_=>⟨c,H,k,x,r⟩
 | d::p,.seq a b,H,k,x,r,ks=>cond (Nat.beq d 0) (A94 E roots N p a H.a (A3i E roots H fun st=>He E roots N b H.b k x r st) x r ks) (A94 E roots N p b H.b k x r ks)
 | d::p,.cond _ a b,H,k,x,r,ks=>cond (Nat.beq d 0) (A94 E roots N p a H.a k x r ks) (A94 E roots N p b H.b k x r ks)
 | _::p,.block id c,H,k,x,r,ks=>A94 E roots N p c H.a k (fun j st=>cond (Nat.beq j id) (k st) (x j st)) r ks
 | _::p,.loop c,H,_,x,r,q::ks=>A94 E roots N p c H.a (fun st=>(nI E H.live roots st).bind q) x r ks
 | _::_,c,H,k,x,r,_=>⟨c,H,k,x,r⟩
def As8:Code→Code
 | .loop c=>c
 | c=>c
structure CutB (R:Type) where
 E:Env
 roots:List Nat
 N:Nat
 c:Cut R
noncomputable def B5 (q:CutB R) (st:St):O R:=He q.E q.roots q.N q.c.c q.c.H q.c.k q.c.x q.c.r st
noncomputable def A6k (q:CutB R) (st:St):O R:=A58 true (fun st=>He q.E q.roots q.N q.c.c q.c.H q.c.k q.c.x q.c.r st) st
theorem A1 (q:CutB R) (st:St):A6k q st=B5 q st:=by unfold A6k;rw[I_];rfl
noncomputable def Ak (q:CutB R) (n:Nat) (st:St):O R:=bF (nI q.E q.c.H.live q.roots) (fun k st=>He q.E q.roots q.N (As8 q.c.c) q.c.H.a k q.c.x q.c.r st) n st
noncomputable def A9l (q:CutB R) (st:St):O R:=A58 true (bF (nI q.E q.c.H.live q.roots) (fun k st=>He q.E q.roots q.N (As8 q.c.c) q.c.H.a k q.c.x q.c.r st) q.N) st
theorem Ad (q:CutB R) (st:St):A9l q st=Ak q q.N st:=by unfold A9l;rw[I_];rfl
def A95 (fn:Func):Code:=match fn.body with | some c=>c | none=>.skip
def A9m:List (Nat×List Bool)→Nat→List Bool
 | [],_=>[]
 | (i,l)::r,f=>cond (Nat.beq i f) l (A9m r f)
end
end Gx

namespace Gx
open Go
abbrev KF (R:Type):=AV→Aj→Option R
abbrev F2:=List (Nat×Tw)
abbrev hL:Hint:=.leaf
abbrev hS (a b:Hint):Hint:=.node [] a b
abbrev hP (l:List Nat) (a:Hint):Hint:=.node l a .leaf
abbrev hJ (l:List Nat) (a b:Hint):Hint:=.join l a b
def A8p (P:Program) (muts:Nat→List Bool) (nt:Nat) (hs:Hints) (T:List (Nat×Tw)):Env:={ P,nt,muts,nils:=hs.nils,free:=hs.free,cob:=hs.cob,tbl:=T }
noncomputable def Bcp {R:Type} (P:Program) (muts:Nat→List Bool) (fn:Func) (hs:Hints) (T:List (Nat×Tw)) (roots:List Nat) (N:Nat) (F:KF R) (p:List Nat) (ks:List (St→O R)):CutB R :=
 ⟨A8p P muts fn.ntmps hs T,roots,N,A94 (A8p P muts fn.ntmps hs T) roots N p (A95 fn) hs.H (DV (A8p P muts fn.ntmps hs T) fn hs.modes roots F) (fun _ _=>none) (DV (A8p P muts fn.ntmps hs T) fn hs.modes roots F) ks⟩
def iv (n:Int):AV:=.int .i64 n
def op (k:Nat):AV:=.optr (300000+k) 0
def Bck:Nat→List Blk→Aj
 | _,[]=>[]
 | i,b::r=>(i,b)::Bck (i+1) r
def hq (l:List Blk):Aj:=Bck 300000 l
def bQ (sz:Nat) (c:LA):Blk:=⟨false,false,true,false,sz,c,false,none⟩
def bN (sz:Nat) (c:LA):Blk:=⟨false,false,false,false,sz,c,false,none⟩
def bP (t:Bool) (sz:Nat) (c:LA):Blk:=⟨false,false,true,t,sz,c,false,none⟩
def Ap {R:Type} (kd:IntKind) (c:LA) (k:Int→O R):O R:=(c.head?).bind fun x=>(tp kd x).bind k
def bW {R:Type} (c:LA) (k:Bool→O R):O R:=(c.head?).bind fun x=>(asBool x).bind k
def Ts {R:Type} (c:LA) (k:List UInt8→O R):O R:=(c.head?).bind fun x=>(tq x).bind k
def Br {R:Type} (sz:Nat) (c:LA) (k:LA→Nat→O R):O R:=(c.head?).bind fun x=>(A5x sz x).bind fun p=>k p.1 p.2
def Ay0 (k:IntKind) (a b:Int):Int:=k.wrap ((BitVec.ofInt k.bits a &&& BitVec.ofInt k.bits b).toNat:Int)
def uU (k:IntKind) (a b:Int):Int:=k.wrap ((BitVec.ofInt k.bits a ||| BitVec.ofInt k.bits b).toNat:Int)
def Cb (s:List UInt8):LA:=s.map fun b=>.int .u8 (b.toNat:Int)
def A96 (P:Program) (muts:Nat→List Bool) (N f:Nat) (run:(R:Type)→Nat→LA→Aj→KF R→O R):Prop:=∀ {R Q:Type} (args:LA) (h:Aj) (k:KF R) (j:KF Q),
 (∃ T hs,Aaf P T∧run R N args h k=V_ P muts T hs N f args h k∧run Q N args h j=V_ P muts T hs N f args h j)∨(run R N args h k=none∧run Q N args h j=none)
theorem A2 {P:Program} {muts:Nat→List Bool} {T:List (Nat×Tw)} {hs:Hints} {N f:Nat} {c:LA} {h:Aj} {R Q:Type} {k:KF R} {j:KF Q} {a:O R} {b:Option Q} {p:Prop}
  (d:V_ P muts T hs N f c h k=a) (e:V_ P muts T hs N f c h j=b) (hT:Aaf P T):(∃ T hs,Aaf P T∧a=V_ P muts T hs N f c h k∧b=V_ P muts T hs N f c h j)∨p:=.inl ⟨T,hs,hT,d.symm,e.symm⟩
theorem A4 {R Q:Type} {p:Prop}:p∨((none:O R)=none∧(none:Option Q)=none):=.inr ⟨rfl,rfl⟩
def A3 {P:Program} {muts:Nat→List Bool} {N f:Nat} {run:(R:Type)→Nat→LA→Aj→KF R→O R} (H:A96 P muts N f run):Tw:=⟨fun {R} args h k=>run R N args h k,fun args h k=>by
 rcases H args h k (fun v h=>some (v,h)) with⟨T,hs,_,e1,e2⟩ | ⟨e1,e2⟩
 ·rw[e1,e2];exact Ayz ..
 ·rw[e1,e2];rfl⟩
theorem Bb1 {P:Program} {muts:Nat→List Bool} {N f:Nat} {run:(R:Type)→Nat→LA→Aj→KF R→O R} (H:A96 P muts N f run) (d:P.follows .mixedOrders=true):As1 P f (A3 H):=by
 intro b h e h' c
 change run _ N b h _=_ at c
 rcases H b h (fun v h=>some (v,h)) (fun v h=>some (v,h)) with⟨T,hs,hT,e1,_⟩ | ⟨e1,_⟩
 ·rw[e1] at c;exact As6 hT d c
 ·rw[e1] at c;cases c
theorem Bt {α δ:Type} (f:α→δ) {a b:α} (c:a=b):f a=f b:=by rw[c]
theorem OQ {α β δ:Type} (f:α→β→δ) {a c:α} {b d:β} (e:a=c) (i:b=d):f a b=f c d:=by rw[e,i]
theorem Bbw {α β γ δ:Type} (f:α→β→γ→δ) {a d:α} {b e:β} {c i:γ} (j:a=d) (k:b=e) (l:c=i):f a b c=f d e i:=by rw[j,k,l]
theorem Bcq {α β γ ε ζ η δ:Type} (f:α→β→γ→ε→ζ→η→δ) {a i:α} {b j:β} {c k:γ} {d l:ε} {e m:ζ} {g g':η} (n:a=i) (q:b=j) (s:c=k) (t:d=l) (u:e=m) (v:g=g'):f a b c d e g=f i j k l m g':=by rw[n,q,s,t,u,v]
end Gx

namespace Gx
open Go Go.RowKit
theorem Akh {P:Program} {f:Nat} {t:Tw} (i:As1 P f t) {W:World} {avs:LA} {vs:List Value} (hr:Reps (fun _ k=>k<W.heap.size) (fun _=>none) [] W avs vs)
  (d:(t.runK avs [] fun v h=>some (v,h))=some (.bool true,[])) (j:GlobOk (fun _ k=>k<W.heap.size) W):Calls P f vs.toArray W fun e w'=>e=.returned (.bool true)∧Below W.heap.size W w':=by
 have S:SimH (fun _ k=>k<W.heap.size) (fun _=>none) [] W:=⟨fun _ _ h=>h,fun _ h=>h,j,fun b x c=>by simp[Am] at c,fun b x c=>by simp[Am] at c,fun b n x x' k o o' c=>by simp[Am] at c⟩
 refine Calls.mono (i avs [] _ _ d _ _ W vs S hr) ?_
 rintro e w' ⟨vc,J',β',rfl,F,l⟩
 rw[Rep] at l;subst l
 refine⟨rfl,F.os,F.tape,F.output,F.size,fun k m=>F.frame k m ?_⟩
 rintro⟨b,x,o,c,_⟩
 change Am [] b=some x at c
 simp[Am] at c
structure Opens (P:Program) (t:TypeId) {α:Type} (e:α→List AV) (n:Nat):Prop where
 size:P.cellsOf t=n
 pos:0<n
 len:∀ a,(e a).length=n
 read:∀ {H:Type} (enc:TypeId×Value→H) (W:World) (fuel:Nat) (cs:List Value) (d:DataW H) (ps:List MemPlace),DataW.trod enc P W 0 (fun _=>true) true fuel t cs=some (d,ps) →
  cs.length=n∧∃ a,RepCs (fun k=>k<W.heap.size) W (e a) (fun j=>cs[j]?) 0
theorem N9 {P:Program} {t:TypeId} {k:IntKind} (b:P.underlying t=some (.int k)) (c:P.cellsOf t=1):Opens P t (α:={ n:Int // (Lit.int k n).wf=true }) (fun n=>[.int k n.1]) 1:=by
 refine⟨c,by omega,fun _=>rfl,fun enc W fuel cs d ps h=>?_⟩
 obtain⟨n,rfl,_,e⟩:=DataW.trod_int b h
 exact⟨rfl,⟨n,e⟩,by simp[RepCs,RepC]⟩
theorem Ay1 {P:Program} {t:TypeId} (c:P.underlying t=some .bool) (e:P.cellsOf t=1):Opens P t (α:=Bool) (fun b=>[.bool b]) 1:=by
 refine⟨e,by omega,fun _=>rfl,fun enc W fuel cs d ps h=>?_⟩
 obtain⟨b,rfl,_⟩:=DataW.trod_bool c h
 exact⟨rfl,b,by simp[RepCs,RepC]⟩
theorem bX {α β:Type} {e:α→List β} {n:Nat} (hn:0<n) (b:∀ a,(e a).length=n):∀ (l:List α) (j:Nat),(l.flatMap e)[j]?=(l[j/n]?).bind fun a=>(e a)[j%n]?
 | [],j=>by simp
 | a::r,j=>by
  rw[List.flatMap_cons]
  by_cases c:j<n
  ·rw[List.getElem?_append_left (by rw[b];exact c),Nat.div_eq_of_lt c,Nat.mod_eq_of_lt c];simp
  ·rw[List.getElem?_append_right (by rw[b];omega),b,bX hn b r (j - n)]
   have d:j/n=(j - n)/n+1:=by
    have:=Nat.add_div_right (j - n) hn
    rw[show j - n+n=j by omega] at this;exact this
   have f:j%n=(j - n)%n:=by
    have:=Nat.add_mod_right (j - n) n
    rw[show j - n+n=j by omega] at this;exact this
   rw[d,f];simp
theorem bY {α β:Type} {e:α→List β} {n:Nat} (b:∀ a,(e a).length=n):∀ (l:List α),(l.flatMap e).length=l.length*n
 | []=>by simp
 | a::r=>by rw[List.flatMap_cons,List.length_append,b,bY b r,List.length_cons,Nat.succ_mul];omega
theorem As9 {α β:Type} {f:α→Option β}:∀ {l:List α} {r:List β},l.mapM f=some r→r.length=l.length∧∀ (i:Nat) (a:α),l[i]?=some a→f a=r[i]?
 | [],r,h=>by simp at h;subst h;simp
 | x::l,r,h=>by
  rw[List.mapM_cons] at h
  cases b:f x with
  | none=>simp[b] at h
  | some y =>
   cases c:l.mapM f with
   | none=>simp[b,c] at h
   | some ys =>
    simp[b,c] at h
    subst h
    obtain⟨d,e⟩:=As9 c
    refine⟨by simp[d],fun i a hi=>?_⟩
    cases i with
    | zero=>simp at hi;subst hi;simpa using b
    | succ i=>simpa using e i a (by simpa using hi)
theorem Ata {P:Program} {t D:TypeId} {α:Type} {e:α→LA} {n:Nat} (V:P.underlying t=some (.slice D)) (X:P.cellsOf t=1) (q:Opens P D e n) :
  Opens P t (α:={ l:List α // l.length≤maxLen }) (fun l=>[.imm (l.1.flatMap e) l.1.length n false false]) 1:=by
 refine⟨X,by omega,fun _=>rfl,fun enc W fuel cs d ps h=>?_⟩
 cases fuel with
 | zero=>simp[DataW.trod] at h
 | succ fuel =>
  unfold DataW.trod at h
  simp only[V] at h
  split at h
  all_goals first | (rename_i b;simp at b;done) | (rename_i b _;simp at b;done) | (rename_i b _ _;simp at b;done) | skip
  ·refine⟨rfl,⟨[],by simp⟩,?_⟩
   simp[RepCs,RepC]
  ·rename_i e' a len cap b
   simp at b;subst b
   split at h
   ·rename_i s
    obtain⟨hb,Y,hcm⟩:=s
    refine⟨rfl,?_⟩
    cases K:(List.range len).mapM (fun i=>(W.cells? 0 (a.add (i*P.cellsOf D)) (P.cellsOf D)).bind (DataW.trod enc P W 0 (fun _=>true) true fuel D)) with
    | none=>rw[K] at h;simp at h
    | some VY =>
     obtain⟨h1,T⟩:=As9 K
     rw[q.size] at T
     have each:∀ i:Nat,i<len→∃ x:α,∃ cs,W.cells? 0 (a.add (i*n)) n=some cs∧RepCs (fun k=>k<W.heap.size) W (e x) (fun j=>cs[j]?) 0:=by
      intro i hi
      have F:=T i i (by simp[hi])
      rw[List.getElem?_eq_getElem (by rw[h1];simpa using hi)] at F
      cases c:W.cells? 0 (a.add (i*n)) n with
      | none=>rw[c] at F;simp at F
      | some cs =>
       rw[c] at F
       obtain⟨_,x,b⟩:=q.read enc W fuel cs _ _ F
       exact⟨x,cs,rfl,b⟩
     have build:∀ m,m≤len→∃ l:List α,l.length=m∧∀ i x,l[i]?=some x→∃ cs,W.cells? 0 (a.add (i*n)) n=some cs∧RepCs (fun k=>k<W.heap.size) W (e x) (fun j=>cs[j]?) 0:=by
      intro m
      induction m with
      | zero=>intro _;exact⟨[],rfl,by simp⟩
      | succ m ih =>
       intro K
       obtain⟨l,I,v⟩:=ih (by omega)
       obtain⟨x,cs,L,M⟩:=each m (by omega)
       refine⟨l++[x],by simp[I],fun i y A=>?_⟩
       rw[List.getElem?_append] at A
       split at A
       ·exact v i y A
       ·have:i=m:=by
         have:=(List.getElem?_eq_some_iff.1 A).1
         simp at this;omega
        subst this
        simp[I] at A;subst A
        exact⟨cs,L,M⟩
     obtain⟨l,I,v⟩:=build len (Nat.le_refl _)
     refine⟨⟨l,by omega⟩,?_⟩
     simp only[RepCs,RepC,and_true]
     refine⟨_,rfl,?_,some a,cap,by rw[I],by omega,by simp,?_⟩
     ·exact bY q.len l
     ·by_cases h0:l.length=0
      ·exact .inl h0
      ·right
       refine⟨a,rfl,?_,?_⟩
       ·obtain⟨x,cs,b,_⟩:=each 0 (by omega)
        have:=World.cells?_block b q.pos
        rwa [Uh] at this
       ·rw[B4]
        intro j x C
        rw[bX q.pos q.len] at C
        cases hq:l[j/n]? with
        | none=>rw[hq] at C;simp at C
        | some y =>
         rw[hq] at C
         simp at C
         obtain⟨cs,c,f⟩:=v (j/n) y hq
         rw[B4] at f
         obtain⟨u,G,O⟩:=f (j%n) x C
         refine⟨u,?_,O⟩
         obtain⟨_,U,z⟩:=World.cells?_some c
         have S:j%n<n:=Nat.mod_lt _ q.pos
         have:=z (j%n) S
         rw[Addr.add_add,show j/n*n+j%n=j by rw[Nat.mul_comm];exact Nat.div_add_mod j n] at this
         simp only[Nat.zero_add] at G ⊢
         rw[this];exact G
   ·simp at h
  ·simp at h
end Gx

namespace Gx
open Go Go.RowKit
theorem Ay2 {J:Bool→Nat→Prop} {β:Cp} {w w':World} (S:SimH J β [] w) (B:Below w.heap.size w w'):SimH J β [] w' :=
 ⟨fun o k h=>Nat.lt_of_lt_of_le (S.jlt o k h) B.size,S.jft,S.gl.to (fun _ h=>h) (fun k d=>B.block k (S.jlt _ k d)),fun b x c=>by simp[Am] at c,fun b x c=>by simp[Am] at c,fun b e x x' k o o' c=>by simp[Am] at c⟩
theorem sY {P:Program} {f:Nat} {c:LA} {d:AV}
  (l:∀ (J:Bool→Nat→Prop) (β:Cp) (w:World) (vs:List Value),GlobOk J w→Reps J β [] w c vs→Calls P f vs.toArray w fun e w'=>∃ vc,e=.returned vc∧Below w.heap.size w w'∧∀ J β w,Rep J β [] w d vc):Baz P f c [] d []:=by
 intro J β w vs S hr
 refine(l J β w vs S.gl hr).mono ?_
 rintro e w' ⟨vc,rfl,B,m⟩
 refine⟨vc,J,β,rfl,⟨Ay2 S B,B.os,B.tape,B.output,B.size,fun k j _=>B.block k j,?_,fun _ _ h=>h,fun _ _ h=>.inl h,fun k=>?_,fun b x0 x i=>by simp[Am] at i,fun b x i=>by simp[Am] at i⟩,m _ _ _⟩
 ·rintro k ⟨b,x,o,i,_⟩;simp[Am] at i
 ·by_cases j:k<w.heap.size
  ·simp[Bh,B.block k j]
  ·simp[Bh,Array.getElem?_eq_none (Nat.le_of_not_lt j)]
theorem A8q {P:Program} {f:Nat} {i:LA} {c:LA} {n sz:Nat} (t:c.length=n*sz)
  (u:∀ (J:Bool→Nat→Prop) (β:Cp) (w:World) (vs:List Value),GlobOk J w→Reps J β [] w i vs→Calls P f vs.toArray w fun e w'=>∃ (cs:Array Value) (ty:TypeId),e=.returned (.slice (some ⟨w.heap.size,0,none⟩) n n)∧w'=w.alloc (.cells cs ty)∧cs.size=n*sz∧RepCs (J false) w c (fun j=>cs[j]?) 0):Baz P f i [] (.own 300000 0 n) [(300000,{ dead:=false,sealed:=false,pure:=true,taint:=false,sz,cells:=c })]:=by
 intro J β w vs S hr
 refine(u J β w vs S.gl hr).mono ?_
 rintro e w' ⟨cs,ty,rfl,rfl,hs,q⟩
 have A:=Step.new (d:=300000) (x:={ dead:=false,sealed:=false,pure:=true,taint:=false,sz,cells:=c }) (ty:=ty) (fr:=(0,0)) (cs:=cs) S rfl rfl rfl FrTy.un0 (by show c.length≤_;omega) ⟨fun _=>q,fun v=>by cases v⟩
 have m:(w.alloc (.cells cs ty)).heap[w.heap.size]?=some (.cells cs ty (0,0)):=by show(w.heap.push _)[_]?=_;simp
 refine⟨_,_,_,rfl,⟨A.sim,A.os,A.tape,A.output,A.size,A.frame,A.wr,A.ext.jsub,A.jup,fun k=>?_,fun b x0 x l=>by simp[Am] at l,fun b x l=>?_⟩,?_⟩
 ·by_cases s:k<w.heap.size
  ·simp[Bh,D0 w _ s]
  ·simp[Bh,Array.getElem?_eq_none (Nat.le_of_not_lt s)]
 ·rw[Am] at l
  cases hq:Nat.beq 300000 b<;>rw[hq] at l<;>simp[Am] at l
  subst l;rfl
 ·rw[Rep]
  refine⟨_,_,n,⟨rfl,rfl⟩,rfl,Nat.le_refl _,.inr ⟨w.heap.size,0,rfl,.inr ⟨by simp,?_,by simp[t]⟩⟩⟩
  rw[E8 m,hs];simp
theorem Aam {J:Bool→Nat→Prop} {β:Cp} {h:Aj} {w:World} {x:AV} {vs:List Value} (H:Reps J β h w [x] vs):∃ u,vs=[u]∧Rep J β h w x u:=by
 rw[Reps] at H
 obtain⟨u,us,rfl,c,b⟩:=H
 rw[Reps] at b;subst b
 exact⟨u,rfl,c⟩
theorem Atb {J:Bool→Nat→Prop} {β:Cp} {h:Aj} {w:World} {x y:AV} {vs:List Value} (H:Reps J β h w [x,y] vs):∃ u v,vs=[u,v]∧Rep J β h w x u∧Rep J β h w y v:=by
 rw[Reps] at H
 obtain⟨u,us,rfl,b,c⟩:=H
 obtain⟨v,rfl,d⟩:=Aam c
 exact⟨u,v,rfl,b,d⟩
theorem GlobOk.tab {J:Bool→Nat→Prop} {w:World} (h:GlobOk J w) {P:Program} {g:Nat} {name:String} {k:IntKind} {zs:List Int} (b:(g,zs.map fun z=>Value.int k z) ∈ A2e) (c:P.globalNamed name=some g):Lib.TabIs P w name k zs:=by
 obtain⟨ty,fr,d⟩:=(h.1 _ b).2
 unfold Lib.TabIs World.var?
 rw[c]
 simp only[Option.bind_some]
 rw[d]
theorem A6l {W:World} {P:Program} {g:Nat} {name:String} {k:IntKind} {zs:List Int} (h:Lib.TabIs P W name k zs) (b:P.globalNamed name=some g):∃ ty fr,W.heap[g]?=some (.cells (zs.map fun z=>Value.int k z).toArray ty fr):=by
 unfold Lib.TabIs World.var? at h
 rw[b] at h
 simp only[Option.bind_some] at h
 split at h
 ·rename_i cs ty fr c
  simp at h;subst h
  exact⟨ty,fr,c⟩
 ·cases h
theorem GlobOk.int {J:Bool→Nat→Prop} {w:World} (h:GlobOk J w) {g:Nat} (b:g ∈ Ax8):∃ m,w.cell? ⟨g,0,none⟩=some (.int .i64 m):=(h.2 g b).2
theorem A6m {W:World} {g i:Nat} {v:Value} (h:W.cell? ⟨g,i,none⟩=some v):g<W.heap.size:=by
 rcases Nat.lt_or_ge g W.heap.size with b | b
 ·exact b
 ·simp[World.cell?,Array.getElem?_eq_none b] at h
end Gx

namespace Gx
open Go
theorem am {a b:Bool} (c:a=true) (d:b=true):(a&&b)=true:=by rw[c,d];rfl
theorem A6n {P:Program} (O:laidOutB P=true) (S:mapsRowed P=true) (T:(P.stops==[])=true) (U:(P.stopKnobs==[])=true) (b:P.stopsHeard=true) (d:P.mayEnter=true) {f:FuncId} {fn:Func} {s:ChangeSpec} {c:OpenClaim} (e:(c.inPlace==P.inPlace f)=true) (i:(c.unfollowed==P.unfollowed f)=true) (j:(c.recurses==P.recurses f)=true) (l:(c.named==P.varsNamed f)=true)
  (m:(c.lifted==P.liftsFinal)=true) (n:(P.make==some c.make)=true) (q:(c.plainKeys==P.plainKeys)=true)
  (V:c.wf (OpenSpec.ofChange s)=true) (X:fn.params.all (P.readableRec ·)=true) (Y:namedTie P c.named s.vars=true) (h6:(c.stops==[])=true) (h8:(c.knobs==[])=true)
  (u:(c.maps==(fn.params.toList++s.plain.varTypes P).any (P.mapsRec ·))=true) (v:(c.ifaces==(fn.params.toList++s.plain.varTypes P).any (P.ifacesRec ·))=true) (x:(c.mapsOut==P.mapsAmong fn.resultTypes.toList)=true)
  (y:(c.loops==(fn.params.toList++s.plain.varTypes P).any (P.loopsFrom ·))=true) (z:(c.wideKeys==(fn.params.toList++s.plain.varTypes P++fn.resultTypes.toList).any (P.wideKeysFrom ·))=true)
  (A:s.vars.all (P.varReadable ·)=true) (C:fn.resultTypes.all (fun t=>P.readableRec t&&decide (t<P.types.size))=true) (D:(c.ifacesOut==fn.resultTypes.toList.any (P.ifacesRec ·))=true) (F:(c.loopsOut==fn.resultTypes.toList.any (P.loopsFrom ·))=true)
  (G:c.shortTexts.isNone=true) (I:(c.kinds==(if c.domain.isEmpty then [] else fn.params.toList.map fun t=>match P.underlying t with | some (.int k)=>some k | _=>none))=true) (K:(c.pinned==c.pinnedBy)=true)
  (L:(c.veiled==(fn.params.toList++s.plain.varTypes P++fn.resultTypes.toList).any (P.veiledRec ·))=true) (M:c.veiledFits P fn.params.toList (fn.params.toList++s.plain.varTypes P++fn.resultTypes.toList)=true):joinedFacts P f fn s c=true:=by
 unfold joinedFacts
 exact am (am (am (am (am (am (am (am (am (am (am (am (am (am (am (am (am (am (am (am (am (am (am (am (am (am (am (am (am (am (am V O) S) X) Y) h6) T) h8) U) e) i) j) l) u) v) x) y) z) A) C) D) F) q) G) b) d) m) n) I) K) L) M
end Gx

namespace Go.Proofs.YtjmfofdghmlldaaGreatDoor
open Go.ChangeShapes Go.WideShapes Go.ChangeAt Go.RowKit
theorem Ba1:ownKnob Tryz.prog.godebug=none:=by kernel_rfl
theorem Vg:laidOutB Tryz.prog=true:=by kernel_rfl
theorem Bb2 : Tryz.prog.globalNamed "internal/strconv.uint64pow10" = some 3 := by kernel_rfl
theorem Bcr:(Tryz.prog.globals[3]?).map (·.type)=some 333:=by kernel_rfl
theorem Bb3:Tryz.prog.underlying 333=some (.array 20 114):=by kernel_rfl
theorem Bb4:Tryz.prog.underlying 114=some (.int .u64):=by kernel_rfl
theorem Bb5:Tryz.prog.cellsOf 333=20:=by kernel_rfl
theorem Bb6:Tryz.prog.cellsOf 114=1:=by kernel_rfl
def Ba2:List Int:=(List.range 20).map fun i=>((10 ^ i:Nat):Int)
theorem A3u {H:Type}:(Rows.laid_internal_strconv_uint64pow10:DataW H)=Lib.tabData .u64 Ba2:=rfl
theorem A9n:mapsRowed Tryz.prog=true:=by kernel_rfl
theorem A6o:(Tryz.prog.stops==[])=true:=by kernel_rfl
theorem A6p:(Tryz.prog.stopKnobs==[])=true:=by kernel_rfl
theorem A6q:Tryz.prog.stopsHeard=true:=by kernel_rfl
theorem A6r:Tryz.prog.mayEnter=true:=by kernel_rfl
theorem A6s:(Rows.numtextNativeRow.lifted==Tryz.prog.liftsFinal)=true:=by kernel_rfl
theorem A9o:(Tryz.prog.make==some Rows.numtextNativeRow.make)=true:=by kernel_rfl
theorem A9p:(Rows.numtextNativeRow.plainKeys==Tryz.prog.plainKeys)=true:=by kernel_rfl
end Go.Proofs.YtjmfofdghmlldaaGreatDoor

namespace Gx
open Go
theorem wrap_u32 (a:Nat) (h:a<4294967296):IntKind.wrap .u32 (a:Int)=(a:Int):=IntWalk.u32_in _ (by omega)
theorem A3v (a:Nat):IntKind.wrap .u32 (a:Int)=((a%4294967296:Nat):Int):=by rw[IntKind.wrap_u32];omega
theorem wrap_i64 (a:Int) (h:-9223372036854775808≤a∧a≤9223372036854775807):IntKind.wrap .i64 a=a:=IntWalk.i64_in _ h
theorem wrap_u64 (a:Nat) (h:a<18446744073709551616):IntKind.wrap .u64 (a:Int)=(a:Int):=IntWalk.u64_in _ (by omega)
theorem gR (w a:Nat):BitVec.ofInt w (a:Int)=BitVec.ofNat w a:=by simp
theorem Ay3 {k:IntKind} (hs:k.signed=false) {a b:Nat} (d:a<2 ^ k.bits) (c:b<2 ^ k.bits):Ay0 k a b=((a &&& b:Nat):Int):=by
 unfold Ay0
 rw[gR,gR]
 have e:(BitVec.ofNat k.bits a &&& BitVec.ofNat k.bits b).toNat=a &&& b:=by
  rw[BitVec.toNat_and,BitVec.toNat_ofNat,BitVec.toNat_ofNat,Nat.mod_eq_of_lt d,Nat.mod_eq_of_lt c]
 rw[e]
 have f:a &&& b<2 ^ k.bits:=Nat.and_lt_two_pow _ c
 unfold IntKind.wrap
 simp only[hs,Bool.false_and,Bool.false_eq_true,if_false]
 have:(2 ^ k.bits:Int)=((2 ^ k.bits:Nat):Int):=by simp
 rw[this,←Int.natCast_emod,Nat.mod_eq_of_lt f]
theorem Aki {k:IntKind} (hs:k.signed=false) {a b:Nat} (c:a<2 ^ k.bits) (d:b<2 ^ k.bits):uU k a b=((a ||| b:Nat):Int):=by
 unfold uU
 rw[gR,gR]
 have e:(BitVec.ofNat k.bits a ||| BitVec.ofNat k.bits b).toNat=a ||| b:=by
  rw[BitVec.toNat_or,BitVec.toNat_ofNat,BitVec.toNat_ofNat,Nat.mod_eq_of_lt c,Nat.mod_eq_of_lt d]
 rw[e]
 have f:a ||| b<2 ^ k.bits:=Nat.or_lt_two_pow c d
 unfold IntKind.wrap
 simp only[hs,Bool.false_and,Bool.false_eq_true,if_false]
 have:(2 ^ k.bits:Int)=((2 ^ k.bits:Nat):Int):=by simp
 rw[this,←Int.natCast_emod,Nat.mod_eq_of_lt f]
theorem nW (a k:Nat):Int.fdiv (a:Int) (2 ^ k)=((a/2 ^ k:Nat):Int):=by
 have:(2 ^ k:Int)=((2 ^ k:Nat):Int):=by simp
 rw[this,Int.fdiv_eq_ediv_of_nonneg (a:Int) (Int.natCast_nonneg (2 ^ k))]
 rfl
theorem A6 {R:Type} {k:IntKind} {n:Int} {r:LA} {f:Int→O R}:Ap k (.int k n::r) f=f n:=by simp[Ap,tp,Va]
theorem Ab {i n:Nat} (h:i<n):Ae (i:Int) n=true:=by simp[Ae];omega
end Gx

namespace Gx
open Go Go.RowKit
section
variable {P:Program} {W:World} {H:Type} {enc:TypeId×Value→H} {β:Cp} {h:Aj}
theorem A2p {t c:TypeId} {α:Type} {e:α→LA} {n:Nat} {a:Option Addr} {len cap:Nat} {d:DataW H} {p:List MemPlace} (b:P.underlying t=some (.slice c)) (f:P.cellsOf t=1) (i:Opens P c e n)
  (j:DataW.Trod enc P W 0 (fun _=>true) true t (.slice a len cap) d p):∃ l:List α,l.length≤maxLen∧Rep (fun _ k=>k<W.heap.size) β h W (.imm (l.flatMap e) l.length n false false) (.slice a len cap):=by
 obtain⟨fuel,m⟩:=j
 obtain⟨_,⟨l,q⟩,hr⟩:=(Ata b f i).read enc W fuel _ _ _ m
 refine⟨l,q,?_⟩
 simp only[RepCs,Value.cells,and_true] at hr
 obtain⟨u,b,hr⟩:=hr
 simp at b;subst b
 rw[Rep];exact hr
theorem Atc {b:Bool}:Rep (fun _ k=>k<W.heap.size) β h W (.bool b) (.bool b):=by rw[Rep]
theorem Atd:Reps (fun _ k=>k<W.heap.size) β h W [] []:=by rw[Reps]
theorem Q5 {x:AV} {xs:LA} {v:Value} {vs:List Value} (b:Rep (fun _ k=>k<W.heap.size) β h W x v) (c:Reps (fun _ k=>k<W.heap.size) β h W xs vs):Reps (fun _ k=>k<W.heap.size) β h W (x::xs) (v::vs):=by
 rw[Reps];exact⟨v,vs,rfl,b,c⟩
end
end Gx

namespace Gx
open Go Go.RowKit
section
variable {P:Program} {W:World} {H:Type} {enc:TypeId×Value→H} {β:Cp} {h:Aj}
theorem A6t {t:TypeId} {α:Type} {e:α→LA} {n:Nat} {cs:Array Value} {d:DataW H} {p:List MemPlace} (b:Opens P t e n)
  (c:DataW.Trod enc P W 0 (fun _=>true) true t (.agg cs) d p):∃ a:α,Rep (fun _ k=>k<W.heap.size) β h W (.pagg (e a) false) (.agg cs):=by
 obtain⟨fuel,f⟩:=c
 obtain⟨i,a,hr⟩:=b.read enc W fuel _ _ _ f
 refine⟨a,?_⟩
 rw[Rep]
 exact⟨cs.toList,rfl,by rw[b.len];exact i,hr⟩
end
end Gx

namespace Gx
open Go Go.RowKit
theorem An2 {P:Program} {t:TypeId} (b:P.underlying t=some .string) (c:P.cellsOf t=1):Opens P t (α:={ s:List UInt8 // s.length≤maxLen }) (fun s=>[.str s.1]) 1:=by
 refine⟨c,by omega,fun _=>rfl,fun enc W fuel cs d ps h=>?_⟩
 obtain⟨s,rfl,_,e⟩:=DataW.trod_string b h
 refine⟨rfl,⟨s.data.toList,e⟩,?_⟩
 simp[RepCs,RepC]
theorem Opens.map {P:Program} {t:TypeId} {α β:Type} {e:α→LA} {n:Nat} (h:Opens P t e n) (c:β→LA) (g:α→β) (f:∀ a,e a=c (g a)) (i:∀ b,(c b).length=n):Opens P t c n:=by
 refine⟨h.size,h.pos,i,fun enc W fuel cs d ps j=>?_⟩
 obtain⟨k,a,l⟩:=h.read enc W fuel cs d ps j
 exact⟨k,g a,by rw[←f];exact l⟩
structure OpensF (P:Program) (fs:List Field) (off:Nat) {α:Type} (e:α→List AV) (n:Nat):Prop where
 len:∀ a,(e a).length=n
 read:∀ {H:Type} (enc:TypeId×Value→H) (W:World) (fuel:Nat) (cs:List Value),(∀ (i:Nat) (f:Field),fs[i]?=some f→∃ d ps,DataW.trod enc P W 0 (fun _=>true) true fuel f.type ((cs.drop f.offset).take (P.cellsOf f.type))=some (d,ps)) →
  ∃ a,RepCs (fun k=>k<W.heap.size) W (e a) (fun j=>cs[j]?) off
theorem Aan {P:Program} {off:Nat}:OpensF P [] off (α:=Unit) (fun _=>[]) 0:=⟨fun _=>rfl,fun _ _ _ _ _=>⟨(),by simp[RepCs]⟩⟩
theorem Md {P:Program} {f:Field} {fs:List Field} {off:Nat} {α β:Type} {e:α→LA} {n:Nat} {s:β→LA} {m:Nat} (z:f.offset=off) (c:Opens P f.type e n) (t:OpensF P fs (off+n) s m) :
  OpensF P (f::fs) off (α:=α×β) (fun p=>e p.1++s p.2) (n+m):=by
 refine⟨fun p=>by rw[List.length_append,c.len,t.len],fun enc W fuel cs h=>?_⟩
 obtain⟨d,ps,A⟩:=h 0 f rfl
 obtain⟨D,a,v⟩:=c.read enc W fuel _ _ _ A
 obtain⟨b,y⟩:=t.read enc W fuel cs fun i g C=>h (i+1) g (by simpa using C)
 refine⟨(a,b),?_⟩
 rw[B4] at v y ⊢
 intro j x q
 by_cases l:j<n
 ·rw[List.getElem?_append_left (by rw[c.len];exact l)] at q
  obtain⟨u,k,hr⟩:=v j x q
  refine⟨u,?_,hr⟩
  simp only[Nat.zero_add] at k
  rw[c.size,List.getElem?_take_of_lt l,List.getElem?_drop,z] at k
  exact k
 ·rw[List.getElem?_append_right (by rw[c.len];omega),c.len] at q
  obtain⟨u,k,hr⟩:=y (j - n) x q
  refine⟨u,?_,hr⟩
  rw[show off+n+(j - n)=off+j by omega] at k
  exact k
theorem nX {P:Program} {t:TypeId} {fs:Array Field} {α:Type} {e:α→LA} {n:Nat} (l:P.underlying t=some (.struct fs)) (j:P.cellsOf t=n) (hn:0<n) (h:OpensF P fs.toList 0 e n):Opens P t e n:=by
 refine⟨j,hn,h.len,fun enc W fuel cs d ps m=>?_⟩
 obtain⟨xs,g,_,_,q,b,s⟩:=DataW.trod_struct l m
 refine⟨by rw[q,j],?_⟩
 exact h.read enc W g cs fun i f hi=>by
  have k:fs[i]?=some f:=by simpa using hi
  have:=s i f k
  have c:i<xs.length:=by
   rw[b];exact(Array.getElem?_eq_some_iff.1 k).1
  rw[List.getElem?_eq_getElem c] at this
  exact⟨_,_,this⟩
end Gx

namespace Gx
open Go Go.RowKit
section
variable {P:Program} {W:World} {H:Type} {enc:TypeId×Value→H} {β:Cp} {h:Aj}
theorem MV {t:TypeId} {fs:Array Field} {b:Nat} {r:Reach} {v:Value} (c:P.underlying t=some (.struct fs)) (h:Value.okWide P W r b t v):∃ cs,v=.agg cs:=by
 unfold Value.okWide at h
 rw[c] at h
 obtain⟨cs,h,_⟩:=h
 exact⟨cs,h⟩
theorem A6u {J:Nat→Prop}:∀ {x:AV} {u:Value},RepC J W x u→Rep (fun _=>J) β h W x u
 | .int ..,_,h=>by rw[Rep];rw[RepC] at h;exact h
 | .bool _,_,h=>by rw[Rep];rw[RepC] at h;exact h
 | .str _,_,h=>by rw[Rep];rw[RepC] at h;exact h
 | .nsl,_,h=>by rw[Rep];rw[RepC] at h;exact h
 | .imm ..,_,h=>by rw[Rep];exact h
 | .iptr ..,_,h=>by rw[Rep];exact h
 | .nilptr,_,h=>by rw[Rep];rw[RepC] at h;exact h
 | .nilfn,_,h=>by rw[Rep];rw[RepC] at h;exact h
 | .fn f [],_,h=>by
  rw[Rep];rw[RepC] at h
  exact⟨[],by simpa using h,by rw[Reps]⟩
 | .fn _ (_::_),_,h=>by simp[RepC] at h
 | .pagg ..,_,h=>by simp[RepC] at h
 | .agg _,_,h=>by simp[RepC] at h
 | .tup _,_,h=>by simp[RepC] at h
 | .own ..,_,h=>by simp[RepC] at h
 | .omap _,_,h=>by simp[RepC] at h
 | .optr ..,_,h=>by simp[RepC] at h
 | .undef,_,h=>by simp[RepC] at h
theorem A2q {J:Nat→Prop}:∀ {c:LA} {cs:List Value} {rd:Nat→Option Value} {i:Nat},cs.length=c.length→(∀ j,cs[j]?=rd (i+j))→RepCs J W c rd i→Reps (fun _=>J) β h W c cs
 | [],cs,_,_,b,_,_=>by rw[Reps];simpa using b
 | x::r,[],_,_,b,_,_=>by simp at b
 | x::r,u::us,rd,i,b,hr,e=>by
  rw[RepCs] at e
  obtain⟨⟨k,d,f⟩,e⟩:=e
  have h0:=hr 0
  simp only[List.getElem?_cons_zero,Nat.add_zero] at h0
  rw[←h0] at d
  cases d
  rw[Reps]
  refine⟨u,us,rfl,A6u f,A2q (by simpa using b) (fun j=>?_) e⟩
  have:=hr (j+1)
  rw[List.getElem?_cons_succ] at this
  rw[this];congr 1;omega
theorem A2r {c:LA} {v:Value} (hr:Rep (fun _ k=>k<W.heap.size) β h W (.pagg c false) v):Rep (fun _ k=>k<W.heap.size) β h W (.agg c) v:=by
 rw[Rep] at hr
 obtain⟨cs,b,d,e⟩:=hr
 rw[Rep]
 exact⟨cs,b,A2q d (fun j=>by rw[Nat.zero_add]) e⟩
end
end Gx

namespace Gx
open Go Go.Proofs
open IntKind (wrap)
set_option maxRecDepth 100000
noncomputable section
variable {R:Type} (N:Nat)
def muts:Nat→List Bool:=A9m [(66,[false,true]),(97,[true,false]),(98,[true,false,false]),(100,[true,false,false,false,false]),(101,[true,false,false,false]),(102,[true,false,false,false]),(111,[true]),(113,[true,false]),(116,[true]),(132,[false,true]),(157,[true,false]),(158,[true,false]),(159,[true,false,false,false]),(160,[true,false,false,false,false,false,false,false]),(161,[true,false,false,false,false,false]),(163,[true,false,false]),(164,[true,false,false]),(165,[true,false,false]),(166,[true,false,false]),(167,[true,false,false]),(171,[true]),(172,[true]),(173,[true]),(174,[true]),(175,[true]),(176,[true]),(177,[true]),(178,[true]),(181,[true,true]),(182,[false,true,true,true,true,true,true,true,true]),(184,[true,true]),(185,[false,true,true,true,true,true,true,true,true]),(191,[true]),(204,[true,false]),(205,[true]),(214,[true]),(225,[true,false,false,false,false,false]),(227,[true,false,false,false,false,false]),(228,[true,false,false]),(233,[true,false,false]),(234,[true,false,false,false,false]),(235,[true,false,false,false,false]),(236,[true,false,false,false]),(237,[true,false,true]),(238,[false,true,true,true,true,true,true,true,true]),(239,[false,true,true,true,true,true,true,true,true]),(240,[true,false,false]),(242,[true,false,false]),(243,[false,true,true,true,true,true,true,true,true]),(244,[true,false]),(245,[false,true,true,true,true,true,true,true,true]),(246,[false,true,true,true,true,true,true,true,true]),(247,[false,true,true,true,true,true,true,true,true]),(249,[true,false]),(254,[false,true]),(271,[true,false]),(277,[true,false]),(314,[false,true,true,true,true,true,true,true,true])]
def Ju {R:Type}:=@Bcp R Tryz.prog muts
abbrev Cw {R:Type}:=@V_ R Tryz.prog muts
abbrev An:=@A96 Tryz.prog muts
theorem follows:Tryz.prog.follows .mixedOrders=true:=by kernel_rfl
theorem Cz {N f:Nat} {run:(R:Type)→Nat→LA→Aj→KF R→O R} (H:An N f run):As1 Tryz.prog f (A3 H):=Bb1 H follows
def Cr:Hints:={ H:=hL }
def iy:Hints:={ H:=hL,modes:=[(3,0)] }
def Ba3:Hints:={ H:=hL,modes:=[(3,0),(0,0)] }
def WG:Hints:={ H:=(hS hL (hS hL (hS (hP [0,1,2,15,16] hL) hL))) }
def iz:Hints:={ H:=(hS hL (hS (hS hL (hS (hP [0,1,7,8] hL) hL)) hL)) }
def Akj:Hints:={ H:=(hS hL (hS hL (hS (hS (hP [0,3] hL) hL) hL))),nils:=[(2,1)],modes:=[(2,1)] }
def A2s:Hints:={ H:=hL,nils:=[(2,1)],modes:=[(2,1)] }
def A2t:Hints:={ H:=(hS hL (hS hL (hS hL (hS (hS hL (hS (hP [0,1,5] hL) hL)) hL)))) }
def Ba4:Hints:={ H:=hL,modes:=[(3,0),(3,0),(0,0)] }
def A2u:Hints:={ H:=(hS hL (hS (hS hL (hS (hP [0,3] hL) hL)) hL)) }
end
end Gx

namespace Gx
def val:List Nat→Nat
 | []=>0
 | x::r=>x+4294967296*val r
def Aw (l:List Nat):Prop:=∀ x ∈ l,x<4294967296
def Ate:Nat→Nat→List Nat
 | 0,_=>[]
 | f+1,n=>if n=0 then [] else n%4294967296::Ate f (n/4294967296)
def Ba (n:Nat):List Nat:=Ate n n
theorem A2v:∀ (f n:Nat),n≤f→∀ g,n≤g→Ate f n=Ate g n
 | 0,n,h,g,_=>by
  have:n=0:=by omega
  subst this;cases g<;>simp[Ate]
 | f+1,n,h,g,b=>by
  by_cases h0:n=0
  ·subst h0;cases g<;>simp[Ate]
  ·cases g with
   | zero=>omega
   | succ g=>simp only[Ate,h0,if_false];rw[A2v f _ (by omega) g (by omega)]
theorem Hg:Ba 0=[]:=rfl
theorem JE {n:Nat} (h:n≠0):Ba n=n%4294967296::Ba (n/4294967296):=by
 unfold Ba
 cases n with
 | zero=>omega
 | succ n=>simp only[Ate,h,if_false];rw[A2v n _ (by omega) ((n+1)/4294967296) (by omega)]
theorem Ax:∀ n,val (Ba n)=n:=by
 intro n
 induction n using Nat.strongRecOn with
 | _ n b =>
  by_cases h:n=0
  ·subst h;rfl
  ·rw[JE h,val,b _ (by omega)];omega
theorem Av:∀ n,Aw (Ba n):=by
 intro n
 induction n using Nat.strongRecOn with
 | _ n c =>
  by_cases h:n=0
  ·subst h;intro x b;simp[Hg] at b
  ·rw[JE h];intro x b
   simp at b
   rcases b with rfl | b
   ·omega
   ·exact c _ (by omega) x b
theorem gS:Aw []:=by intro x b;simp at b
theorem E9 {x:Nat} {r:List Nat}:Aw (x::r)↔x<4294967296∧Aw r:=by simp[Aw]
theorem Mr {a:List Nat} (h:Aw a) (n:Nat):Aw (a.take n):=fun x b=>h x (List.mem_of_mem_take b)
theorem Jv {a:List Nat} (h:Aw a) {i:Nat} (hi:i<a.length):a[i]<4294967296:=h _ (List.getElem_mem hi)
theorem Oa {a:List Nat} (h:Aw a) {v:Nat} (d:v<4294967296) (i:Nat):Aw (a.set i v):=fun x c=>by
 rcases List.mem_or_eq_of_mem_set c with b | b
 ·exact h x b
 ·omega
theorem Jw (n:Nat):Aw (List.replicate n 0):=fun x b=>by simp at b;omega
theorem mJ:∀ (a b:List Nat),val (a++b)=val a+4294967296 ^ a.length*val b
 | [],b=>by simp[val]
 | x::r,b=>by
  simp only[List.cons_append,val,List.length_cons,mJ r b,Nat.pow_succ]
  rw[Nat.mul_add,←Nat.add_assoc,←Nat.mul_assoc];congr 2;rw[Nat.mul_comm]
theorem Ku:∀ n,val (List.replicate n 0)=0
 | 0=>rfl
 | n+1=>by rw[List.replicate_succ,val,Ku n]
theorem Lj:∀ {a:List Nat},Aw a→val a<4294967296 ^ a.length
 | [],_=>by simp[val]
 | x::r,h=>by
  have b:=E9.1 h
  have c:=Lj b.2
  rw[val,List.length_cons,Nat.pow_succ]
  omega
theorem Ay4 (a:List Nat) (x:Nat):val (a++[x])=val a+4294967296 ^ a.length*x:=by rw[mJ];simp[val]
theorem mK {n:Nat} (h:n≠0):Ba n≠[]:=by rw[JE h];simp
theorem Ay5 {n:Nat}:Ba n=[]↔n=0:=by
 constructor
 ·intro h;by_cases h0:n=0;exact h0;exact absurd h (mK h0)
 ·intro h;rw[h];rfl
theorem Ej {n:Nat}:(Ba n).length=0↔n=0:=by rw[List.length_eq_zero_iff,Ay5]
theorem D2:∀ {l:List Nat},Aw l→l=Ba (val l)++List.replicate (l.length - (Ba (val l)).length) 0∧(Ba (val l)).length≤l.length
 | [],_=>by simp[val,Hg]
 | x::r,h=>by
  have c:=E9.1 h
  obtain⟨b,d⟩:=D2 c.2
  rw[val]
  by_cases h0:x+4294967296*val r=0
  ·have e:x=0:=by omega
   have hr:val r=0:=by omega
   rw[h0,Hg]
   rw[hr,Hg] at b
   simp at b
   subst e
   refine⟨?_,by simp⟩
   rw[List.nil_append,List.length_nil,Nat.sub_zero,List.length_cons,List.replicate_succ,←b]
  ·rw[JE h0,show(x+4294967296*val r)%4294967296=x by omega,show(x+4294967296*val r)/4294967296=val r by omega]
   refine⟨?_,by simp;exact d⟩
   rw[List.cons_append,List.length_cons,List.length_cons,Nat.add_sub_add_right,←b]
theorem A6v:∀ (n:Nat) (h:Ba n≠[]),(Ba n).getLast h≠0:=by
 intro n
 induction n using Nat.strongRecOn with
 | _ n d =>
  intro h
  have h0:n≠0:=fun e=>h (by rw[e];rfl)
  have e:=JE h0
  by_cases c:n/4294967296=0
  ·rw[c,Hg] at e
   have:n<4294967296:=by omega
   simp[e];omega
  ·have b:=mK c
   have:=d _ (by omega) b
   have f:(Ba n).getLast h=(Ba (n/4294967296)).getLast b:=by
    simp only[e];rw[List.getLast_cons b]
   rw[f];exact this
theorem A97:∀ {l:List Nat},Aw l→(∀ h:l≠[],l.getLast h≠0)→Ba (val l)=l:=by
 intro l h i
 obtain⟨b,j⟩:=D2 h
 by_cases d:l.length - (Ba (val l)).length=0
 ·rw[d] at b;simpa using b.symm
 ·exfalso
  obtain⟨k,d⟩:=Nat.exists_eq_succ_of_ne_zero d
  rw[d,List.replicate_succ',←List.append_assoc] at b
  have c:l≠[]:=by intro e;rw[e] at b;simp at b
  apply i c
  have f:l.getLast?=some 0:=by rw[b,List.getLast?_append];rfl
  rw[List.getLast?_eq_some_getLast c] at f
  simpa using f
theorem MW {n k:Nat} (h:n<4294967296 ^ k):(Ba n).length≤k:=by
  induction k generalizing n with
  | zero => have : n = 0 := by simpa using h
            subst this;simp[Hg]
  | succ k b =>
    by_cases h0:n=0
    · subst h0;simp[Hg]
    · rw[JE h0,List.length_cons]
      have:n/4294967296<4294967296 ^ k:=by
        rw[Nat.pow_succ] at h
        exact Nat.div_lt_of_lt_mul (by rw[Nat.mul_comm];exact h)
      have:=b this
      omega
theorem Gh {a b:Nat} (h:a≤b):(Ba a).length≤(Ba b).length:=by
 apply MW
 have:=Lj (Av b)
 rw[Ax] at this
 omega
end Gx

namespace Gx
open Go
section
variable {R:Type}
def Au (l:List Nat):LA:=l.map fun n:Nat=>.int .u32 (n:Int)
theorem gT (x:Nat) (l:List Nat):Au (x::l)=.int .u32 (x:Int)::Au l:=rfl
theorem C1 (l:List Nat):(Au l).length=l.length:=by simp[Au]
theorem A3w (l:List Nat) (n:Nat):(Au l).drop n=Au (l.drop n):=by simp[Au,List.map_drop]
theorem gU (l:List Nat) (n:Nat):(Au l).take n=Au (l.take n):=by simp[Au,List.map_take]
theorem Atf (l:List Nat) (j:Nat) (v:Nat):List.set (Au l) j (.int .u32 (v:Int))=Au (l.set j v):=by simp[Au,List.map_set]
theorem Lk (n:Nat):List.replicate n (AV.int .u32 0)=Au (List.replicate n 0):=by simp[Au]
theorem A6w {l:List Nat} {i:Nat} (h:i<l.length) {f:Int→O R}:Ap .u32 (List.drop i (Au l)) f=f (l[i]:Nat):=by
 rw[A3w,List.drop_eq_getElem_cons h,gT,A6]
theorem JF:∀ l:List Nat,Az (Au l)=true
 | []=>rfl
 | x::r=>by rw[gT,Az];exact JF r
theorem An3 (a b:Nat):(a:Int)+(b:Int)=((a+b:Nat):Int):=by omega
theorem A98 (a b:Nat):(a:Int)*(b:Int)=((a*b:Nat):Int):=by simp
theorem a7 {a:Nat} (h:a<18446744073709551616):IntKind.wrap .u64 (a:Int)=(a:Int):=wrap_u64 a h
theorem A9q {a:Nat} (h:a<4294967296):IntKind.wrap .u32 (a:Int)=(a:Int):=wrap_u32 a h
theorem Atg (a:Nat):IntKind.wrap .u32 (a:Int)=((a%4294967296:Nat):Int):=A3v a
theorem yJ (a:Int):IntKind.wrap .u64 a=a%18446744073709551616:=IntKind.wrap_u64 a
theorem An4 {a b:Nat} (c:a<18446744073709551616) (d:b≤a):IntKind.wrap .u64 ((a:Int) - (b:Int))=((a - b:Nat):Int):=by rw[yJ];omega
theorem A6x {a b:Nat} (h:a<b) (c:b≤18446744073709551616):IntKind.wrap .u64 ((a:Int) - (b:Int))=((18446744073709551616+a - b:Nat):Int):=by rw[yJ];omega
theorem Ay6 (a:Nat):Int.fdiv (a:Int) (2 ^ 32)=((a/4294967296:Nat):Int):=nW a 32
theorem Ba5 (a:Nat):Int.fdiv (a:Int) (2 ^ 63)=((a/9223372036854775808:Nat):Int):=nW a 63
theorem i64 {a:Int} (h:-9223372036854775808≤a∧a≤9223372036854775807):IntKind.wrap .i64 a=a:=wrap_i64 a h
theorem A8r {a b:Nat} (c:a<18446744073709551616) (d:b<18446744073709551616):uU .u64 (a:Int) (b:Int)=((a ||| b:Nat):Int):=Aki rfl c d
theorem Ay7 {a b k:Nat} (h:b<2 ^ k):a*2 ^ k ||| b=a*2 ^ k+b:=by
 rw[←Nat.shiftLeft_eq,Nat.shiftLeft_add_eq_or_of_lt h]
end
end Gx

namespace Gx
open Go Go.Proofs Go.RowKit Go.ChangeShapes
open Go.Proofs.YtjmfofdghmlldaaGreatDoor (Rows.uptoBulk Rows.uptoBulkAll)
theorem A6y {H:Type} (d:DataW H):1≤Rows.uptoBulk d:=by
 cases d with
 | lit l=>cases l<;>simp[Rows.uptoBulk]
 | _=>simp[Rows.uptoBulk]
theorem A6z {H:Type} (l:List (DataW H)):l.length≤Rows.uptoBulkAll l:=by
 induction l with
 | nil=>simp[Rows.uptoBulkAll]
 | cons x r b=>have:=A6y x;simp only[Rows.uptoBulkAll,List.length_cons];omega
end Gx

namespace Go.Proofs.YtjmfofdghmlldaaGreatDoor
open Go.ChangeShapes Go.WideShapes Go.ChangeAt Go.RowKit
theorem A2w {W:World} (hL:laidMetH Tryz.prog Rows.eventsManyRow.laid W) (c:W.ShapedOpen Tryz.prog):Gx.GlobOk (fun _ k=>k<W.heap.size) W:=by
 have s : Lib.TabIs Tryz.prog W "internal/strconv.uint64pow10" .u64 Ba2 := by
  have d:laidMet Tryz.prog Rows.eventsManyRow.laid W:=hL
  obtain⟨ps,⟨F,t0,cs0,G,I,K,u,v,x,y,⟨L,t1,cs1,M,O,S,z,A,C,D,⟨T,t2,cs2,U,V,X,e,f,i,b,_,_⟩,_⟩,_⟩,_⟩:=d
  obtain rfl:=Option.some.inj (Bb2.symm.trans e)
  obtain rfl:=Option.some.inj (Bcr.symm.trans f)
  unfold Lib.TabIs
  rw[A3u] at b
  rw[i,←Lib.cells_of_tab Bb3 Bb4 Bb6 Bb5 b]
 obtain⟨ty,fr,j⟩:=Gx.A6l s Bb2
 obtain⟨m,l⟩:=cell_of_shapedOpen_int (P:=Tryz.prog) (g:=0) (t:=3) (zero:=#[.int .i64 0]) c (of_decide_eq_true (by kernel_rfl)) (by kernel_rfl) rfl (by kernel_rfl) (by kernel_rfl) Tryz.underlying3
 refine⟨fun p n=>?_,fun g q=>?_⟩
 ·simp only[Gx.A2e,List.mem_singleton] at n
  subst n
  refine⟨?_,ty,fr,?_⟩
  ·show 3<W.heap.size
   rcases Nat.lt_or_ge 3 W.heap.size with h | h
   ·exact h
   ·rw[Array.getElem?_eq_none h] at j;cases j
  ·rw[j];rfl
 ·simp only[Gx.Ax8,List.mem_singleton] at q
  subst q
  exact⟨Gx.A6m l,m,l⟩
noncomputable def Akk (os:Os):World:=World.laidAll Tryz.prog os Rows.eventsManyRow.laid
theorem Ath (os:Os):(Akk os).os=os:=World.laidAll_os _ _ _
theorem Akl (os:Os) (b:Array Value):laidMetH Tryz.prog Rows.eventsManyRow.laid ((Akk os).forCall (fun _ _=>0) ⟨#[],b,[]⟩).memory :=
 laidMet_laidAll b (by kernel_rfl) (by kernel_rfl)
end Go.Proofs.YtjmfofdghmlldaaGreatDoor

namespace Gx.Cf
open Go Go.Proofs
inductive Sl (α:Type) where
 | nil
 | of (l:List α) (t o:Bool)
def Sl.l {α:Type}:Sl α→List α
 | .nil=>[]
 | .of l _ _=>l
def Sl.av {α:Type} (sz:Nat) (e:α→LA):Sl α→AV
 | .nil=>.nsl
 | .of l t o=>.imm (l.flatMap e) l.length sz t o
def IS (n:Int):LA:=[.int .i64 n]
def Aq (l:List Int):LA:=l.map fun n=>.int .i64 n
theorem Fl:∀ l:List Int,l.flatMap IS=Aq l
 | []=>rfl
 | a::r=>by rw[List.flatMap_cons,Fl r];rfl
theorem Et (l:List Int):(Aq l).length=l.length:=by simp[Aq]
theorem bZ (l m:List Int):Aq l++Aq m=Aq (l++m):=by simp[Aq]
structure FracD where
 num:Int
 den:Int
structure BusD where
 name:List UInt8
 demand:Sl Int
 shed:Int
structure LineD where
 name:List UInt8
 fr:Int
 tl:Int
 re:FracD
 smin:FracD
 smax:FracD
 limit:Int
 emer:Int
 away:Sl Int
structure SegD where
 width:Int
 price:Int
structure UnitD where
 name:List UInt8
 bus:Int
 min:Int
 max:Int
 segs:Sl SegD
 noLoad:Int
 rampUp:Int
 rampDown:Int
 startRamp:Int
 stopRamp:Int
 upTime:Int
 downTime:Int
 startTime:Int
 hotCost:Int
 coldCost:Int
 hotHours:Int
 reserve:Int
 reservePrice:Int
 away:Sl Int
 state:Int
 hours:Int
 output:Int
structure StoreD where
 name:List UInt8
 bus:Int
 capacity:Int
 initial:Int
 final:Int
 charge:Int
 discharge:Int
 eff:FracD
structure TieD where
 name:List UInt8
 bus:Int
 imp:Sl Int
 exp:Sl Int
 price:Sl Int
structure MoveD where
 unit:Int
 up:Int
 down:Int
structure OutD where
 name:List UInt8
 lines:Sl Int
 corr:Bool
 moves:Sl MoveD
structure CaseD where
 hours:Int
 reserve:Sl Int
 buses:Sl BusD
 lines:Sl LineD
 units:Sl UnitD
 stores:Sl StoreD
 ties:Sl TieD
 outs:Sl OutD
def BusD.av (b:BusD):LA:=[.str b.name,b.demand.av 1 IS,.int .i64 b.shed]
def LineD.av (b:LineD):LA:=[.str b.name,.int .i64 b.fr,.int .i64 b.tl,.int .i64 b.re.num,.int .i64 b.re.den,.int .i64 b.smin.num,.int .i64 b.smin.den,.int .i64 b.smax.num,.int .i64 b.smax.den,.int .i64 b.limit,.int .i64 b.emer,b.away.av 1 IS]
def SegD.av (s:SegD):LA:=[.int .i64 s.width,.int .i64 s.price]
def UnitD.av (u:UnitD):LA:=[.str u.name,.int .i64 u.bus,.int .i64 u.min,.int .i64 u.max,u.segs.av 2 SegD.av,.int .i64 u.noLoad,.int .i64 u.rampUp,.int .i64 u.rampDown,.int .i64 u.startRamp,.int .i64 u.stopRamp,.int .i64 u.upTime,.int .i64 u.downTime,.int .i64 u.startTime,.int .i64 u.hotCost,.int .i64 u.coldCost,.int .i64 u.hotHours,.int .i64 u.reserve,.int .i64 u.reservePrice,u.away.av 1 IS,.int .i64 u.state,.int .i64 u.hours,.int .i64 u.output]
def StoreD.av (s:StoreD):LA:=[.str s.name,.int .i64 s.bus,.int .i64 s.capacity,.int .i64 s.initial,.int .i64 s.final,.int .i64 s.charge,.int .i64 s.discharge,.int .i64 s.eff.num,.int .i64 s.eff.den]
def TieD.av (t:TieD):LA:=[.str t.name,.int .i64 t.bus,t.imp.av 1 IS,t.exp.av 1 IS,t.price.av 1 IS]
def MoveD.av (m:MoveD):LA:=[.int .i64 m.unit,.int .i64 m.up,.int .i64 m.down]
def OutD.av (o:OutD):LA:=[.str o.name,o.lines.av 1 IS,.bool o.corr,o.moves.av 3 MoveD.av]
def CaseD.av (c:CaseD):LA:=[.int .i64 c.hours,c.reserve.av 1 IS,c.buses.av 3 BusD.av,c.lines.av 12 LineD.av,c.units.av 22 UnitD.av,c.stores.av 9 StoreD.av,c.ties.av 5 TieD.av,c.outs.av 4 OutD.av]
section
variable {R:Type}
theorem Ed {α:Type} {sz:Nat} {e:α→LA} {s:Sl α} {r:LA} {f:LA→Nat→O R}:Br sz (s.av sz e::r) f=f (s.l.flatMap e) s.l.length:=by
 cases s<;>simp[Br,Sl.av,Sl.l,A5x]
theorem Eu {s:List UInt8} {r:LA} {f:List UInt8→O R}:Ts (.str s::r) f=f s:=by simp[Ts,tq]
theorem A60 {b:Bool} {r:LA} {f:Bool→O R}:bW (.bool b::r) f=f b:=by simp[bW,asBool]
theorem Bs (a b:Nat):Nat.ble a b=decide (a≤b):=by
  cases h:Nat.ble a b with
  | true=>simp at h;simp[h]
  | false => have : ¬ a ≤ b := fun c => by rw [Nat.ble_eq_true_of_le c] at h; cases h
             simp[this]
theorem IT (a b:Nat):Nat.beq a b=decide (a=b):=by
  cases h:Nat.beq a b with
  | true=>have:=Nat.eq_of_beq_eq_true h;simp[this]
  | false => have : a ≠ b := fun e => by subst e; rw [Nat.beq_refl] at h; cases h
             simp[this]
theorem ct (x y:O R):cond true x y=x:=rfl
theorem cf (x y:O R):cond false x y=y:=rfl
theorem At {α:Type} {e:α→LA} {sz:Nat} (b:∀ a,(e a).length=sz):∀ (l:List α) (j:Nat) (h:j<l.length),List.drop (j*sz) (l.flatMap e)=e l[j]++(l.drop (j+1)).flatMap e
 | a::r,0,_=>by simp
 | a::r,j+1,h=>by
  have:=At b r j (by simpa using h)
  rw[List.flatMap_cons,List.drop_append,b,show(j+1)*sz - sz=j*sz by rw[Nat.add_mul];omega,List.drop_eq_nil_of_le (by rw[b,Nat.add_mul];omega)]
  simpa using this
theorem nY {l:List Int} {i:Nat} (h:i<l.length) {f:Int→O R}:Ap .i64 (List.drop i (Aq l)) f=f l[i]:=by
 rw[Aq,List.drop_eq_getElem_cons (by simpa using h)];simp[A6]
abbrev Df:=Option ((Int×Int×Int)×{ e:Int // e≠0 })
def nd (p:Df) (ok:Bool) (w:Int×Int×Int) (e:{ e:Int // e≠0 }):Df:=match p with
 | some x=>some x
 | none=>cond ok none (some (w,e))
theorem Gi (p:Df) (w:Int×Int×Int) (e:{ e:Int // e≠0 }):nd p true w e=p:=by cases p<;>rfl
theorem SZ (x:(Int×Int×Int)×{ e:Int // e≠0 }) (ok:Bool) (w:Int×Int×Int) (e:{ e:Int // e≠0 }):nd (some x) ok w e=some x:=rfl
theorem Rp (p:Df) (a b:Bool) (w:Int×Int×Int) (e:{ e:Int // e≠0 }):nd (nd p a w e) b w e=nd p (a&&b) w e:=by cases p<;>cases a<;>cases b<;>rfl
def OR (p:Df) (k i:Int):LA:=match p with
 | none=>[.int .i64 k,.int .i64 i,.int .i64 0,.int .i64 0]
 | some ((a,b,f),e)=>[.int .i64 a,.int .i64 b,.int .i64 f,.int .i64 e.1]
def Fm (lo hi n:Int):Bool:=decide (lo≤n)&&decide (n≤hi)
end
end Gx.Cf

namespace Gx
open Go Go.Proofs Go.RowKit
section
variable {W:World} {H:Type} {enc:TypeId×Value→H} {β:Cp} {h:Aj}
theorem uV {q:Int→Prop}:∀ m:List { n:Int // q n },m.flatMap (fun n=>[AV.int .i64 n.1])=Cf.Aq (m.map (·.1))
 | []=>rfl
 | a::r=>by rw[List.flatMap_cons,uV r];rfl
theorem sZ {a:Option Addr} {len cap:Nat} {d:DataW H} {p:List MemPlace} (b:DataW.Trod enc Tryz.prog W 0 (fun _=>true) true 33 (.slice a len cap) d p) :
  ∃ l:List Int,l.length≤maxLen∧Rep (fun _ k=>k<W.heap.size) β h W (.imm (Cf.Aq l) l.length 1 false false) (.slice a len cap):=by
 obtain⟨l,c,e⟩:=A2p (β:=β) (h:=h) Tryz.underlying33 (by kernel_rfl) (N9 Tryz.underlying3 (by kernel_rfl)) b
 rw[uV] at e
 exact⟨l.map (·.1),by rw[List.length_map];exact c,by rw[List.length_map];exact e⟩
end
end Gx

namespace Gx
open Go Go.Proofs
open IntKind (wrap)
set_option maxRecDepth 100000
noncomputable section
variable {R:Type} (N:Nat)
def S_ (N:Nat) (r0:Nat→O R) (b:Nat) (c:LA) (k0:Int→O R) (d:Int):O R :=
 (cond ((decide (d>0))==true) (cond (Ae (wrap .i64 (d - 1)) b) (Ap .u32 (c.drop (0+(((wrap .i64 (d - 1)).toNat)*1))) fun e=>(cond (cond true (e==0) false) (k0 (wrap .i64 (d - 1))) (cond ((decide ((0:Int)≤(0:Int)))&&((decide (0≤d))&&((decide (d≤((b:Nat):Int)))&&(decide (((b:Nat):Int)≤((b:Nat):Int)))))) (r0 (d.toNat)) none))) none) (cond ((decide ((0:Int)≤(0:Int)))&&((decide (0≤d))&&((decide (d≤((b:Nat):Int)))&&(decide (((b:Nat):Int)≤((b:Nat):Int)))))) (r0 (d.toNat)) none))
def Xt (r0:Nat→O R) (b:Nat) (c:LA):Nat→Int→O R
 | 0,_=>none
 | n+1,d=>(S_ N r0 b c (Xt r0 b c n) d)
def nZ (N:Nat) (r0:Nat→O R) (q0:Int→O R) (b:Nat) (c:LA):O R :=
 (q0 ((b:Nat):Int))
def MX:=(Ag (fun (N b:Nat) (c:LA) (r0:Nat→O R)=>(nZ N r0 (fun d=>(Xt N r0 b c N d)) b c))).1
theorem mL (b c r0):(@MX R N b c r0)=(nZ N r0 (fun d=>(Xt N r0 b c N d)) b c):=by rw[MX,(Ag _).2]
def A3x (F:KF R):=Ju Tryz.f214 Akj [] [100000] N F
def FQ (c:LA) (F:KF R):Nat→O R:=(fun f=>F (.own 100000 0 f) [(100000,(bQ 1 c))])
def A3y (b:Nat) (c:LA) (d:Int):St:=⟨[(0,(.own 100000 0 b)),(3,(iv d))],[(100000,(bQ 1 c))]⟩
def A3z (F:KF R):=A3x N F [1,1,0,0] []
theorem n6 (F:KF R) (b:Nat) (c:LA):∀ (n:Nat) (d:Int),Ak (A3z N F) n (A3y b c d)=(Xt N (FQ c F) b c n d)
 | 0,_=>by kernel_rfl
 | n+1,d=>Eq.trans (by kernel_rfl) (Bt (S_ N (FQ c F) b c · d) (funext fun d=>(n6 F b c n d)):_)
theorem gV (b:Nat) (c:LA) (F:KF R):Cw [] Akj N 214 [(.own 100000 0 b)] [(100000,(bQ 1 c))] F=(MX N b c (FQ c F)):=by
 rw[mL]
 exact Eq.trans (by kernel_rfl) (Bt (nZ N (FQ c F) · b c) (funext fun d=>(Ad ..).trans (n6 N F b c N d)):_)
def Aao (a:LA) (h:Aj) (k:KF R):O R :=
 match a,h with
 | [(.own 100000 0 b)],[(100000,⟨false,false,true,false,1,c,false,none⟩)]=>(MX N b c (FQ c k))
 | _,_=>none
theorem Akm:An N 214 @Aao:=by
 intro R Q a h k j;unfold Aao;split;exact A2 (gV ..) (gV ..) trivial;exact A4
def A30:=A3 (Akm N)
def A31:=Cz (Akm N)
def GO (b:Int) (r0:Nat→LA→O R):O R :=
 (MX N 2 [(.int .u32 (wrap .u32 b)),(.int .u32 (wrap .u32 (Int.fdiv b (2 ^ 32))))] (fun c=>(r0 c [(.int .u32 (wrap .u32 b)),(.int .u32 (wrap .u32 (Int.fdiv b (2 ^ 32))))])))
def Ob:=(Ag (@GO R)).1
theorem JG:@Ob R=@GO R:=(Ag _).2
def yK:F2:=[(214,A30 N)]
def OS (F:KF R):Nat→LA→O R:=(fun d e=>F (.own 300000 0 d) (hq [(bQ 1 e)]))
theorem OT (b:Int) (F:KF R):Cw (yK N) A2s N 133 [(.int .u64 b)] [] F=(Ob N b (OS F)):=by
 rw[JG]
 kernel_rfl
def JH (a:LA) (h:Aj) (k:KF R):O R :=
 match a,h with
 | [(.int .u64 b)],[]=>(Ob N b (OS k))
 | _,_=>none
theorem OU:An N 133 @JH:=by
 intro R Q a h k j;unfold JH;split;exact A2 (OT ..) (OT ..) ⟨A31 N,trivial⟩;exact A4
def s4:=A3 (OU N)
def s5:=Cz (OU N)
def mM (N:Nat) (d:Bool) (b:Nat) (c:LA) (r0:Bool→O R):O R :=
 (cond (d==true) (r0 (cond true (decide (((b:Nat):Int)>0)) false)) (r0 false))
def Ll:=(Ag (@mM R)).1
theorem jA:@Ll R=@mM R:=(Ag _).2
def n7 (b:Nat) (c:LA) (F:KF R):Bool→O R:=(fun e=>F (.agg [(.bool e),(.own 100000 0 b)]) [(100000,(bQ 1 c))])
theorem n8 (d:Bool) (b:Nat) (c:LA) (F:KF R):Cw [] Cr N 132 [(.bool d),(.own 100000 0 b)] [(100000,(bQ 1 c))] F=(Ll N d b c (n7 b c F)):=by
 rw[jA]
 kernel_rfl
def jB (a:LA) (h:Aj) (k:KF R):O R :=
 match a,h with
 | [(.bool d),(.own 100000 0 b)],[(100000,⟨false,false,true,false,1,c,false,none⟩)]=>(Ll N d b c (n7 b c k))
 | _,_=>none
theorem n9:An N 132 @jB:=by
 intro R Q a h k j;unfold jB;split;exact A2 (n8 ..) (n8 ..) trivial;exact A4
def D_:=A3 (n9 N)
def EA:=Cz (n9 N)
def b_ (b:Int) (r0:Bool→Nat→LA→O R):O R :=
 (cond (decide (b<0)) (Ob N (wrap .u64 ((0:Int) - (wrap .u64 b))) (fun c d=>(Ll N true c d (fun g=>(r0 g c d))))) (Ob N (wrap .u64 b) (fun e f=>(Ll N false e f (fun i=>(r0 i e f))))))
def Ms:=(Ag (@b_ R)).1
theorem cA:@Ms R=@b_ R:=(Ag _).2
def An5:F2:=[(133,s4 N),(132,D_ N)]
def jC (F:KF R):Bool→Nat→LA→O R:=(fun l m n=>F (.agg [(.bool l),(.own 300000 0 m)]) (hq [(bQ 1 n)]))
theorem jD (b:Int) (F:KF R):Cw (An5 N) Cr N 64 [(iv b)] [] F=(Ms N b (jC F)):=by
 rw[cA]
 kernel_rfl
def cB (a:LA) (h:Aj) (k:KF R):O R :=
 match a,h with
 | [(.int .i64 b)],[]=>(Ms N b (jC k))
 | _,_=>none
theorem jE:An N 64 @cB:=by
 intro R Q a h k j;unfold cB;split;exact A2 (jD ..) (jD ..) ⟨s5 N,EA N,trivial⟩;exact A4
def jF:=A3 (jE N)
def jG:=Cz (jE N)
def Y3 (N:Nat) (r0:LA→Nat→O R) (e:LA) (b:Nat) (f c:Bool) (k0:Int→O R) (d:Int):O R :=
 (cond ((decide (d>0))==true) (cond (Ae (wrap .i64 (d - 1)) b) (Ap .u32 (e.drop (((wrap .i64 (d - 1)).toNat)*1)) fun g=>(cond (cond true (g==0) false) (k0 (wrap .i64 (d - 1))) (cond ((decide ((0:Int)≤(0:Int)))&&((decide (0≤d))&&((decide (d≤((b:Nat):Int)))&&(decide (((b:Nat):Int)≤((b:Nat):Int)))))) (r0 (e.take ((d.toNat)*1)) (d.toNat)) none))) none) (cond ((decide ((0:Int)≤(0:Int)))&&((decide (0≤d))&&((decide (d≤((b:Nat):Int)))&&(decide (((b:Nat):Int)≤((b:Nat):Int)))))) (r0 (e.take ((d.toNat)*1)) (d.toNat)) none))
def Mt (r0:LA→Nat→O R) (e:LA) (b:Nat) (f c:Bool):Nat→Int→O R
 | 0,_=>none
 | n+1,d=>(Y3 N r0 e b f c (Mt r0 e b f c n) d)
def TA (N:Nat) (r0:LA→Nat→O R) (q0:Int→O R) (e:LA) (b:Nat) (f c:Bool):O R :=
 (q0 ((b:Nat):Int))
def Fn:=(Ag (fun (N:Nat) (e:LA) (b:Nat) (f c:Bool) (r0:LA→Nat→O R)=>(TA N r0 (fun d=>(Mt N r0 e b f c N d)) e b f c))).1
theorem jH (e b f c r0):(@Fn R N e b f c r0)=(TA N r0 (fun d=>(Mt N r0 e b f c N d)) e b f c):=by rw[Fn,(Ag _).2]
def An6 (F:KF R):=Ju Tryz.f214 Akj [] [] N F
def Q6 (c:Bool) (F:KF R):LA→Nat→O R:=(fun i l=>F (.imm i l 1 false c) [])
def An7 (e:LA) (b:Nat) (f c:Bool) (d:Int):St:=⟨[(0,(.imm e b 1 f c)),(3,(iv d))],[]⟩
def An8 (F:KF R):=An6 N F [1,1,0,0] []
theorem WH (F:KF R) (e:LA) (b:Nat) (f c:Bool):∀ (n:Nat) (d:Int),Ak (An8 N F) n (An7 e b f c d)=(Mt N (Q6 c F) e b f c n d)
 | 0,_=>by kernel_rfl
 | n+1,d=>Eq.trans (by kernel_rfl) (Bt (Y3 N (Q6 c F) e b f c · d) (funext fun d=>(WH F e b f c n d)):_)
theorem EB (e:LA) (b:Nat) (f c:Bool) (F:KF R):Cw [] Akj N 214 [(.imm e b 1 f c)] [] F=(Fn N e b f c (Q6 c F)):=by
 rw[jH]
 exact Eq.trans (by kernel_rfl) (Bt (TA N (Q6 c F) · e b f c) (funext fun d=>(Ad ..).trans (WH N F e b f c N d)):_)
def jI (a:LA) (h:Aj) (k:KF R):O R :=
 match a,h with
 | [(.imm e b 1 f c)],[]=>(Fn N e b f c (Q6 c k))
 | _,_=>none
theorem n_:An N 214 @jI:=by
 intro R Q a h k j;unfold jI;split;exact A2 (EB ..) (EB ..) trivial;exact A4
def TB:=A3 (n_ N)
def TC:=Cz (n_ N)
def TD (N:Nat) (k1:Nat→Int→Int→LA→O R) (r0:Nat→LA→O R) (f:LA) (b:Nat) (e:Bool) (l:Nat) (g r:Int) (i:LA) (d:Nat) (c:Bool) (m:Int) (k2:Int→Int→Int→LA→O R) (s t o:Int) (q:LA):O R :=
 (cond (decide (o<t)) (cond (Ae o b) (Ap .u32 (f.drop ((o.toNat)*1)) fun aa=>(cond (Ae (wrap .i64 (g+o)) l) (Ap .u32 (q.drop (0+(((wrap .i64 (g+o)).toNat)*1))) fun ab=>(cond (Ae (wrap .i64 (g+o)) l) (cond ((Nat.beq 1 1)&&((Nat.ble ((0+(((wrap .i64 (g+o)).toNat)*1))+1) (q.length))&&(!false))) (k2 (Int.fdiv (wrap .u64 (s+(wrap .u64 ((wrap .u64 ((wrap .u64 r)*(wrap .u64 aa)))+(wrap .u64 ab))))) (2 ^ 32)) t (wrap .i64 (o+1)) (q.set (0+(((wrap .i64 (g+o)).toNat)*1)) (.int .u32 (wrap .u32 (wrap .u64 (s+(wrap .u64 ((wrap .u64 ((wrap .u64 r)*(wrap .u64 aa)))+(wrap .u64 ab))))))))) none) none)) none)) none) (cond (Ae (wrap .i64 (g+((b:Nat):Int))) l) (cond ((Nat.beq 1 1)&&((Nat.ble ((0+(((wrap .i64 (g+((b:Nat):Int))).toNat)*1))+1) (q.length))&&(!false))) (k1 l m (wrap .i64 (g+1)) (q.set (0+(((wrap .i64 (g+((b:Nat):Int))).toNat)*1)) (.int .u32 (wrap .u32 s)))) none) none))
def Xu (k1:Nat→Int→Int→LA→O R) (r0:Nat→LA→O R) (f:LA) (b:Nat) (e:Bool) (l:Nat) (g r:Int) (i:LA) (d:Nat) (c:Bool) (m:Int):Nat→Int→Int→Int→LA→O R
 | 0,_,_,_,_=>none
 | n+1,s,t,o,q=>(TD N k1 r0 f b e l g r i d c m (Xu k1 r0 f b e l g r i d c m n) s t o q)
def GP (r0:Nat→LA→O R) (f:LA) (b:Nat) (e:Bool) (i:LA) (d:Nat) (c:Bool) (k1:Nat→Int→Int→LA→O R) (q2:Int→Int→Int→Int→LA→O R) (l:Nat) (m g:Int) (p:LA):O R :=
 (cond (decide (g<m)) (cond (Ae g d) (Ap .u32 (i.drop ((g.toNat)*1)) fun r=>(cond (r==0) (k1 l m (wrap .i64 (g+1)) p) (q2 r 0 ((b:Nat):Int) 0 p))) none) (MX N l p (fun ad=>(r0 ad p))))
def Q8 (r0:Nat→LA→O R) (f:LA) (b:Nat) (e:Bool) (i:LA) (d:Nat) (c:Bool):Nat→Nat→Int→Int→LA→O R
 | 0,_,_,_,_=>none
 | n+1,l,m,g,p=>(GP N r0 f b e i d c (Q8 r0 f b e i d c n) (fun r s t o q=>(Xu N (Q8 r0 f b e i d c n) r0 f b e l g r i d c m N s t o q)) l m g p)
def mN (N:Nat) (r0:Nat→LA→O R) (i:LA) (d:Nat) (c:Bool) (f:LA) (b:Nat) (e:Bool) (q1:Nat→Int→Int→LA→O R):O R :=
 (cond ((decide (0≤(wrap .i64 (((d:Nat):Int)+((b:Nat):Int)))))&&((decide ((wrap .i64 (((d:Nat):Int)+((b:Nat):Int)))≤(wrap .i64 (((d:Nat):Int)+((b:Nat):Int)))))&&((decide ((wrap .i64 (((d:Nat):Int)+((b:Nat):Int)))≤140737488355328))&&(decide (((wrap .i64 (((d:Nat):Int)+((b:Nat):Int)))*((4:Nat):Int))≤140737488355328))))) (q1 ((wrap .i64 (((d:Nat):Int)+((b:Nat):Int))).toNat) ((d:Nat):Int) 0 (List.replicate ((wrap .i64 (((d:Nat):Int)+((b:Nat):Int))).toNat) (.int .u32 0))) none)
def gW (r0:Nat→LA→O R) (i:LA) (d:Nat) (c:Bool) (f:LA) (b:Nat) (e:Bool):O R:=(mN N r0 i d c f b e (fun l m g p=>(Q8 N r0 f b e i d c N l m g p)))
def gX (r0:Nat→LA→O R) (q0:LA→Nat→LA→Nat→O R) (v:LA) (u:Nat) (w c:Bool) (x:LA) (y:Nat) (z e:Bool):O R :=
 (Fn N v u w c (fun i d=>(Fn N x y z e (fun f b=>(cond ((((d:Nat):Int)==0)==false) (cond (cond false true (((b:Nat):Int)==0)) (r0 0 []) (q0 i d f b)) (r0 0 []))))))
def s6:=(Ag (fun (N:Nat) (v:LA) (u:Nat) (w c:Bool) (x:LA) (y:Nat) (z e:Bool) (r0:Nat→LA→O R)=>(gX N r0 (fun i d f b=>(gW N r0 i d c f b e)) v u w c x y z e))).1
theorem TE (v u w c x y z e r0):(@s6 R N v u w c x y z e r0)=(gX N r0 (fun i d f b=>(gW N r0 i d c f b e)) v u w c x y z e):=by rw[s6,(Ag _).2]
def Akn:Hints:={ H:=(hS hL (hS hL (hJ [0,1] hL (hS hL (hS (hS hL (hS (hP [1,5,29,30,31] (hS hL (hS hL (hS (hS (hS hL (hS hL (hS hL (hS (hS hL (hS (hP [1,5,6,7,8,29,30,31,38,39,40] hL) hL)) hL)))) hL) hL)))) hL)) hL))))),nils:=[(4,1)],modes:=[(2,1)] }
def R7 (a:LA) (h:Aj) (k:KF R):O R :=
 match a,h with
 | [(.imm v u 1 w c)],[]=>(Fn N v u w c (Q6 c k))
 | [(.own 100000 0 u)],[(100000,⟨false,false,true,false,1,ac,false,none⟩)]=>(MX N u ac (FQ ac k))
 | _,_=>none
theorem Ui:An N 214 @R7:=by
 intro R Q a h k j;unfold R7;split;exact A2 (EB ..) (EB ..) trivial;exact A2 (gV ..) (gV ..) trivial;exact A4
def Lm:=A3 (Ui N)
def Ln:=Cz (Ui N)
def Ati:F2:=[(214,Lm N)]
def s7 (F:KF R):=Ju Tryz.f137 Akn (Ati N) [] N F
def Oc (F:KF R):Nat→LA→O R:=(fun ae af=>F (.own 300000 0 ae) (hq [(bQ 1 af)]))
def A32 (f:LA) (b:Nat) (e:Bool) (l:Nat) (g r:Int) (i:LA) (d:Nat) (c:Bool) (m s t o:Int) (q:LA):St:=⟨[(1,(.imm f b 1 false e)),(5,(.own 300000 0 l)),(6,(iv g)),(7,(.int .u32 r)),(8,(.int .u64 s)),(29,(.imm i d 1 false c)),(30,(iv m)),(31,(iv g)),(38,(.imm f b 1 false e)),(39,(iv t)),(40,(iv o))],(hq [(bQ 1 q)])⟩
def A33 (F:KF R) (Q1:St→O R):=s7 N F [1,1,1,1,0,1,0,0,1,1,0,0,1,1,1,0,1,0] [Q1]
def s8 (f:LA) (b:Nat) (e:Bool) (i:LA) (d:Nat) (c:Bool) (l:Nat) (m g:Int) (p:LA):St:=⟨[(1,(.imm f b 1 false e)),(5,(.own 300000 0 l)),(29,(.imm i d 1 false c)),(30,(iv m)),(31,(iv g))],(hq [(bQ 1 p)])⟩
def Ako (F:KF R):=s7 N F [1,1,1,1,0,1,0] []
def A34 (i:LA) (d:Nat) (c:Bool) (f:LA) (b:Nat) (e:Bool):St:=⟨[(0,(.imm i d 1 false c)),(1,(.imm f b 1 false e))],[]⟩
def A35 (F:KF R):=s7 N F [1,1,1] []
theorem na (Q1:St→O R) (F:KF R) (f:LA) (b:Nat) (e:Bool) (l:Nat) (g r:Int) (i:LA) (d:Nat) (c:Bool) (m:Int):∀ (n:Nat) (s t o:Int) (q:LA),Ak (A33 N F Q1) n (A32 f b e l g r i d c m s t o q)=(Xu N (fun l m g p=>Q1 (s8 f b e i d c l m g p)) (Oc F) f b e l g r i d c m n s t o q)
 | 0,_,_,_,_=>by kernel_rfl
 | n+1,s,t,o,q=>Eq.trans (by kernel_rfl) (Bt (TD N (fun l m g p=>Q1 (s8 f b e i d c l m g p)) (Oc F) f b e l g r i d c m · s t o q) (funext fun s=>funext fun t=>funext fun o=>funext fun q=>(na Q1 F f b e l g r i d c m n s t o q)):_)
theorem nc (F:KF R) (f:LA) (b:Nat) (e:Bool) (i:LA) (d:Nat) (c:Bool):∀ (n l:Nat) (m g:Int) (p:LA),Ak (Ako N F) n (s8 f b e i d c l m g p)=(Q8 N (Oc F) f b e i d c n l m g p)
 | 0,_,_,_,_=>by kernel_rfl
 | n+1,l,m,g,p=>have e0:=(funext fun l=>funext fun m=>funext fun g=>funext fun p=>(nc F f b e i d c n l m g p))
  Eq.trans (by kernel_rfl) (OQ (GP N (Oc F) f b e i d c · · l m g p) e0 (funext fun r=>funext fun s=>funext fun t=>funext fun o=>funext fun q=>(Ad ..).trans ((na N (Ak (Ako N F) n) F f b e l g r i d c m N s t o q).trans (Bt (Xu N · (Oc F) f b e l g r i d c m N s t o q) e0))):_)
theorem An9 (F:KF R) (i:LA) (d:Nat) (c:Bool) (f:LA) (b:Nat) (e:Bool):B5 (A35 N F) (A34 i d c f b e)=(gW N (Oc F) i d c f b e):=by
 exact Eq.trans (by kernel_rfl) (Bt (mN N (Oc F) i d c f b e ·) (funext fun l=>funext fun m=>funext fun g=>funext fun p=>(Ad ..).trans (nc N F f b e i d c N l m g p)):_)
theorem Akp (v:LA) (u:Nat) (w c:Bool) (x:LA) (y:Nat) (z e:Bool) (F:KF R):Cw (Ati N) Akn N 137 [(.imm v u 1 w c),(.imm x y 1 z e)] [] F=(s6 N v u w c x y z e (Oc F)):=by
 rw[TE]
 exact Eq.trans (by kernel_rfl) (Bt (gX N (Oc F) · v u w c x y z e) (funext fun i=>funext fun d=>funext fun f=>funext fun b=>(A1 ..).trans (An9 N F i d c f b e)):_)
def Aap (a:LA) (h:Aj) (k:KF R):O R :=
 match a,h with
 | [(.imm v u 1 w c),(.imm x y 1 z e)],[]=>(s6 N v u w c x y z e (Oc k))
 | _,_=>none
theorem Akq:An N 137 @Aap:=by
 intro R Q a h k j;unfold Aap;split;exact A2 (Akp ..) (Akp ..) ⟨Ln N,trivial⟩;exact A4
def A36:=A3 (Akq N)
def A37:=Cz (Akq N)
def Aoa (b:LA) (d:Bool) (c:LA) (e:Bool) (r0:Bool→Nat→LA→O R):O R :=
 (bW b fun i=>(bW c fun l=>(Br 1 (b.drop 1) fun m n=>(Br 1 (c.drop 1) fun o p=>(s6 N m n false d o p false e (fun f g=>(Ll N (!(i==l)) f g (fun q=>(r0 q f g)))))))))
def TF:=(Ag (@Aoa R)).1
theorem Aaq:@TF R=@Aoa R:=(Ag _).2
def A61:F2:=[(137,A36 N),(132,D_ N)]
def Akr (F:KF R):Bool→Nat→LA→O R:=(fun r s t=>F (.agg [(.bool r),(.own 300000 0 s)]) (hq [(bQ 1 t)]))
theorem Aks (b:LA) (d:Bool) (c:LA) (e:Bool) (F:KF R):Cw (A61 N) Cr N 68 [(.pagg b d),(.pagg c e)] [] F=(TF N b d c e (Akr F)):=by
 rw[Aaq]
 kernel_rfl
def Aar (a:LA) (h:Aj) (k:KF R):O R :=
 match a,h with
 | [(.pagg b d),(.pagg c e)],[]=>(TF N b d c e (Akr k))
 | _,_=>none
theorem Akt:An N 68 @Aar:=by
 intro R Q a h k j;unfold Aar;split;exact A2 (Aks ..) (Aks ..) ⟨A37 N,EA N,trivial⟩;exact A4
def Aku:=A3 (Akt N)
def Akv:=Cz (Akt N)
def Aas (d:LA) (e:Nat) (f c:Bool) (r0:Nat→LA→O R):O R :=
 (Fn N d e f c (fun g b=>(cond ((decide (0≤((b:Nat):Int)))&&((decide (((b:Nat):Int)≤((b:Nat):Int)))&&((decide (((b:Nat):Int)≤140737488355328))&&(decide ((((b:Nat):Int)*((4:Nat):Int))≤140737488355328))))) (cond ((!c)||(Az g)) (r0 b (C4 (List.replicate b (.int .u32 0)) 0 (g.take ((min b b)*1)))) none) none)))
def ng:=(Ag (@Aas R)).1
theorem uW:@ng R=@Aas R:=(Ag _).2
def A38:F2:=[(214,TB N)]
def Aat (F:KF R):Nat→LA→O R:=(fun i l=>F (.own 300000 0 i) (hq [(bQ 1 l)]))
theorem Aau (d:LA) (e:Nat) (f c:Bool) (F:KF R):Cw (A38 N) A2s N 212 [(.imm d e 1 f c)] [] F=(ng N d e f c (Aat F)):=by
 rw[uW]
 kernel_rfl
def uX (a:LA) (h:Aj) (k:KF R):O R :=
 match a,h with
 | [(.imm d e 1 f c)],[]=>(ng N d e f c (Aat k))
 | _,_=>none
theorem Aav:An N 212 @uX:=by
 intro R Q a h k j;unfold uX;split;exact A2 (Aau ..) (Aau ..) ⟨TC N,trivial⟩;exact A4
def Ay8:=A3 (Aav N)
def Ay9:=Cz (Aav N)
def Aob (b:LA) (c:Bool) (r0:Bool→Nat→LA→O R):O R :=
 (bW b fun f=>(Br 1 (b.drop 1) fun g i=>(ng N g i false c (fun d e=>(Ll N (!f) d e (fun l=>(r0 l d e)))))))
def Aaw:=(Ag (@Aob R)).1
theorem Aax:@Aaw R=@Aob R:=(Ag _).2
def A62:F2:=[(212,Ay8 N),(132,D_ N)]
def Akw (F:KF R):Bool→Nat→LA→O R:=(fun m n o=>F (.agg [(.bool m),(.own 300000 0 n)]) (hq [(bQ 1 o)]))
theorem Akx (b:LA) (c:Bool) (F:KF R):Cw (A62 N) Cr N 148 [(.pagg b c)] [] F=(Aaw N b c (Akw F)):=by
 rw[Aax]
 kernel_rfl
def Aay (a:LA) (h:Aj) (k:KF R):O R :=
 match a,h with
 | [(.pagg b c)],[]=>(Aaw N b c (Akw k))
 | _,_=>none
theorem Aky:An N 148 @Aay:=by
 intro R Q a h k j;unfold Aay;split;exact A2 (Akx ..) (Akx ..) ⟨Ay9 N,EA N,trivial⟩;exact A4
def A39:=A3 (Aky N)
def A4a:=Cz (Aky N)
def GQ (r0:Nat→LA→O R) (c:LA) (b:Nat) (e:Bool) (f:LA) (d:Nat) (i:Bool) (k1:Nat→Int→Int→Int→LA→O R) (m:Nat) (o p g:Int) (l:LA):O R :=
 (cond (decide (g<p)) (cond (Ae g b) (Ap .u32 (c.drop ((g.toNat)*1)) fun y=>(cond (decide (g<((d:Nat):Int))) (cond (Ae g d) (Ap .u32 (f.drop ((g.toNat)*1)) fun ab=>(cond (Ae g m) (cond ((Nat.beq 1 1)&&((Nat.ble ((0+((g.toNat)*1))+1) (l.length))&&(!false))) (k1 m (Int.fdiv (wrap .u64 ((wrap .u64 (o+(wrap .u64 y)))+(wrap .u64 ab))) (2 ^ 32)) p (wrap .i64 (g+1)) (l.set (0+((g.toNat)*1)) (.int .u32 (wrap .u32 (wrap .u64 ((wrap .u64 (o+(wrap .u64 y)))+(wrap .u64 ab))))))) none) none)) none) (cond (Ae g m) (cond ((Nat.beq 1 1)&&((Nat.ble ((0+((g.toNat)*1))+1) (l.length))&&(!false))) (k1 m (Int.fdiv (wrap .u64 (o+(wrap .u64 y))) (2 ^ 32)) p (wrap .i64 (g+1)) (l.set (0+((g.toNat)*1)) (.int .u32 (wrap .u32 (wrap .u64 (o+(wrap .u64 y))))))) none) none))) none) (cond (Ae ((b:Nat):Int) m) (cond ((Nat.beq 1 1)&&((Nat.ble ((0+(b*1))+1) (l.length))&&(!false))) (MX N m (l.set (0+(b*1)) (.int .u32 (wrap .u32 o))) (fun ae=>(r0 ae (l.set (0+(b*1)) (.int .u32 (wrap .u32 o)))))) none) none))
def Xv (r0:Nat→LA→O R) (c:LA) (b:Nat) (e:Bool) (f:LA) (d:Nat) (i:Bool):Nat→Nat→Int→Int→Int→LA→O R
 | 0,_,_,_,_,_=>none
 | n+1,m,o,p,g,l=>(GQ N r0 c b e f d i (Xv r0 c b e f d i n) m o p g l)
def mO (N:Nat) (r0:Nat→LA→O R) (q1:Nat→Int→Int→Int→LA→O R) (c:LA) (b:Nat) (e:Bool) (f:LA) (d:Nat) (i:Bool):O R :=
 (cond ((decide (0≤(wrap .i64 (((b:Nat):Int)+1))))&&((decide ((wrap .i64 (((b:Nat):Int)+1))≤(wrap .i64 (((b:Nat):Int)+1))))&&((decide ((wrap .i64 (((b:Nat):Int)+1))≤140737488355328))&&(decide (((wrap .i64 (((b:Nat):Int)+1))*((4:Nat):Int))≤140737488355328))))) (q1 ((wrap .i64 (((b:Nat):Int)+1)).toNat) 0 ((b:Nat):Int) 0 (List.replicate ((wrap .i64 (((b:Nat):Int)+1)).toNat) (.int .u32 0))) none)
def OV (r0:Nat→LA→O R) (c:LA) (b:Nat) (e:Bool) (f:LA) (d:Nat) (i:Bool):O R:=(mO N r0 (fun m o p g l=>(Xv N r0 c b e f d i N m o p g l)) c b e f d i)
def nh (r0:Nat→LA→O R) (q0:LA→Nat→Bool→LA→Nat→Bool→O R) (s:LA) (t:Nat) (u q:Bool) (v:LA) (w:Nat) (x r:Bool):O R :=
 (Fn N s t u q (fun ac z=>(Fn N v w x r (fun ad aa=>(cond (decide (((z:Nat):Int)<((aa:Nat):Int))) (q0 ad aa r ac z q) (q0 ac z q ad aa r))))))
def s9:=(Ag (fun (N:Nat) (s:LA) (t:Nat) (u q:Bool) (v:LA) (w:Nat) (x r:Bool) (r0:Nat→LA→O R)=>(nh N r0 (fun c b e f d i=>(OV N r0 c b e f d i)) s t u q v w x r))).1
theorem mP (s t u q v w x r r0):(@s9 R N s t u q v w x r r0)=(nh N r0 (fun c b e f d i=>(OV N r0 c b e f d i)) s t u q v w x r):=by rw[s9,(Ag _).2]
def Akz:Hints:={ H:=(hS hL (hS hL (hJ [0,1] hL (hS hL (hS hL (hS (hS hL (hS (hP [0,1,5,6,24,25,26] hL) hL)) hL)))))),nils:=[(4,1)],modes:=[(2,1)] }
def Atj:F2:=[(214,Lm N)]
def Ak0 (F:KF R):=Ju Tryz.f135 Akz (Atj N) [] N F
def Xw (F:KF R):Nat→LA→O R:=(fun af ag=>F (.own 300000 0 af) (hq [(bQ 1 ag)]))
def A4b (c:LA) (b:Nat) (e:Bool) (f:LA) (d:Nat) (i:Bool) (m:Nat) (o p g:Int) (l:LA):St:=⟨[(0,(.imm c b 1 false e)),(1,(.imm f d 1 false i)),(5,(.own 300000 0 m)),(6,(.int .u64 o)),(24,(.imm c b 1 false e)),(25,(iv p)),(26,(iv g))],(hq [(bQ 1 l)])⟩
def A4c (F:KF R):=Ak0 N F [1,1,1,1,1,0,1,0] []
def A4d (c:LA) (b:Nat) (e:Bool) (f:LA) (d:Nat) (i:Bool):St:=⟨[(0,(.imm c b 1 false e)),(1,(.imm f d 1 false i))],[]⟩
def A4e (F:KF R):=Ak0 N F [1,1,1] []
theorem ni (F:KF R) (c:LA) (b:Nat) (e:Bool) (f:LA) (d:Nat) (i:Bool):∀ (n m:Nat) (o p g:Int) (l:LA),Ak (A4c N F) n (A4b c b e f d i m o p g l)=(Xv N (Xw F) c b e f d i n m o p g l)
 | 0,_,_,_,_,_=>by kernel_rfl
 | n+1,m,o,p,g,l=>Eq.trans (by kernel_rfl) (Bt (GQ N (Xw F) c b e f d i · m o p g l) (funext fun m=>funext fun o=>funext fun p=>funext fun g=>funext fun l=>(ni F c b e f d i n m o p g l)):_)
theorem Aoc (F:KF R):∀ (c:LA) (b:Nat) (e:Bool) (f:LA) (d:Nat) (i:Bool),B5 (A4e N F) (A4d c b e f d i)=(OV N (Xw F) c b e f d i):=by
 intro c b e f d i
 exact Eq.trans (by kernel_rfl) (Bt (mO N (Xw F) · c b e f d i) (funext fun m=>funext fun o=>funext fun p=>funext fun g=>funext fun l=>(Ad ..).trans (ni N F c b e f d i N m o p g l)):_)
theorem Ak1 (s:LA) (t:Nat) (u q:Bool) (v:LA) (w:Nat) (x r:Bool) (F:KF R):Cw (Atj N) Akz N 135 [(.imm s t 1 u q),(.imm v w 1 x r)] [] F=(s9 N s t u q v w x r (Xw F)):=by
 rw[mP]
 exact Eq.trans (by kernel_rfl) (Bt (nh N (Xw F) · s t u q v w x r) (funext fun c=>funext fun b=>funext fun e=>funext fun f=>funext fun d=>funext fun i=>(A1 ..).trans (Aoc N F c b e f d i)):_)
def Aaz (a:LA) (h:Aj) (k:KF R):O R :=
 match a,h with
 | [(.imm s t 1 u q),(.imm v w 1 x r)],[]=>(s9 N s t u q v w x r (Xw k))
 | _,_=>none
theorem Ak2:An N 135 @Aaz:=by
 intro R Q a h k j;unfold Aaz;split;exact A2 (Ak1 ..) (Ak1 ..) ⟨Ln N,trivial⟩;exact A4
def A4f:=A3 (Ak2 N)
def A4g:=Cz (Ak2 N)
def Ow (N:Nat) (r0:Int→O R) (g:LA) (e:Nat) (c:Bool) (i:LA) (f:Nat) (d:Bool) (k0:Int→O R) (b:Int):O R :=
 (cond (decide (b≥0)) (cond (Ae b e) (Ap .u32 (g.drop ((b.toNat)*1)) fun s=>(cond (Ae b f) (Ap .u32 (i.drop ((b.toNat)*1)) fun t=>(cond (decide (s<t)) (r0 (-1)) (cond (Ae b e) (Ap .u32 (g.drop ((b.toNat)*1)) fun u=>(cond (Ae b f) (Ap .u32 (i.drop ((b.toNat)*1)) fun v=>(cond (decide (u>v)) (r0 1) (k0 (wrap .i64 (b - 1))))) none)) none))) none)) none) (r0 0))
def F5 (r0:Int→O R) (g:LA) (e:Nat) (c:Bool) (i:LA) (f:Nat) (d:Bool):Nat→Int→O R
 | 0,_=>none
 | n+1,b=>(Ow N r0 g e c i f d (F5 r0 g e c i f d n) b)
def Vh (r0:Int→O R) (q0:LA→Nat→LA→Nat→Int→O R) (l:LA) (m:Nat) (o c:Bool) (p:LA) (q:Nat) (r d:Bool):O R :=
 (Fn N l m o c (fun g e=>(Fn N p q r d (fun i f=>(cond (((e:Nat):Int) != ((f:Nat):Int)) (cond (decide (((e:Nat):Int)<((f:Nat):Int))) (r0 (-1)) (r0 1)) (q0 g e i f (wrap .i64 (((e:Nat):Int) - 1))))))))
def Od:=(Ag (fun (N:Nat) (l:LA) (m:Nat) (o c:Bool) (p:LA) (q:Nat) (r d:Bool) (r0:Int→O R)=>(Vh N r0 (fun g e i f b=>(F5 N r0 g e c i f d N b)) l m o c p q r d))).1
theorem JI (l m o c p q r d r0):(@Od R N l m o c p q r d r0)=(Vh N r0 (fun g e i f b=>(F5 N r0 g e c i f d N b)) l m o c p q r d):=by rw[Od,(Ag _).2]
def WI:F2:=[(214,TB N)]
def s_ (F:KF R):=Ju Tryz.f131 A2t (WI N) [] N F
def Lo (F:KF R):Int→O R:=(fun w=>F (iv w) [])
def sa (g:LA) (e:Nat) (c:Bool) (i:LA) (f:Nat) (d:Bool) (b:Int):St:=⟨[(0,(.imm g e 1 false c)),(1,(.imm i f 1 false d)),(5,(iv b))],[]⟩
def sb (F:KF R):=s_ N F [1,1,1,0,1,0] []
theorem CP (F:KF R) (g:LA) (e:Nat) (c:Bool) (i:LA) (f:Nat) (d:Bool):∀ (n:Nat) (b:Int),Ak (sb N F) n (sa g e c i f d b)=(F5 N (Lo F) g e c i f d n b)
 | 0,_=>by kernel_rfl
 | n+1,b=>Eq.trans (by kernel_rfl) (Bt (Ow N (Lo F) g e c i f d · b) (funext fun b=>(CP F g e c i f d n b)):_)
theorem OW (l:LA) (m:Nat) (o c:Bool) (p:LA) (q:Nat) (r d:Bool) (F:KF R):Cw (WI N) A2t N 131 [(.imm l m 1 o c),(.imm p q 1 r d)] [] F=(Od N l m o c p q r d (Lo F)):=by
 rw[JI]
 exact Eq.trans (by kernel_rfl) (Bt (Vh N (Lo F) · l m o c p q r d) (funext fun g=>funext fun e=>funext fun i=>funext fun f=>funext fun b=>(Ad ..).trans (CP N F g e c i f d N b)):_)
def JJ (a:LA) (h:Aj) (k:KF R):O R :=
 match a,h with
 | [(.imm l m 1 o c),(.imm p q 1 r d)],[]=>(Od N l m o c p q r d (Lo k))
 | _,_=>none
theorem OX:An N 131 @JJ:=by
 intro R Q a h k j;unfold JJ;split;exact A2 (OW ..) (OW ..) ⟨TC N,trivial⟩;exact A4
def sc:=A3 (OX N)
def sd:=Cz (OX N)
def GR (r0:Nat→Bool→LA→O R) (l:LA) (g:Nat) (d:Bool) (b:Nat) (m:LA) (e:Bool) (k0:Int→Int→Int→LA→O R) (i o c:Int) (f:LA):O R :=
 (cond (decide (c<o)) (cond (Ae c b) (Ap .u32 (m.drop ((c.toNat)*1)) fun v=>(cond (decide (c<((g:Nat):Int))) (cond (Ae c g) (Ap .u32 (l.drop ((c.toNat)*1)) fun w=>(cond (Ae c b) (cond ((Nat.beq 1 1)&&((Nat.ble ((0+((c.toNat)*1))+1) (f.length))&&(!false))) (k0 (Int.fdiv (wrap .u64 ((wrap .u64 ((wrap .u64 v) - i)) - (wrap .u64 w))) (2 ^ 63)) o (wrap .i64 (c+1)) (f.set (0+((c.toNat)*1)) (.int .u32 (wrap .u32 (wrap .u64 ((wrap .u64 ((wrap .u64 v) - i)) - (wrap .u64 w))))))) none) none)) none) (cond (Ae c b) (cond ((Nat.beq 1 1)&&((Nat.ble ((0+((c.toNat)*1))+1) (f.length))&&(!false))) (k0 (Int.fdiv (wrap .u64 ((wrap .u64 v) - i)) (2 ^ 63)) o (wrap .i64 (c+1)) (f.set (0+((c.toNat)*1)) (.int .u32 (wrap .u32 (wrap .u64 ((wrap .u64 v) - i)))))) none) none))) none) (MX N b f (fun x=>(r0 x true f))))
def Uj (r0:Nat→Bool→LA→O R) (l:LA) (g:Nat) (d:Bool) (b:Nat) (m:LA) (e:Bool):Nat→Int→Int→Int→LA→O R
 | 0,_,_,_,_=>none
 | n+1,i,o,c,f=>(GR N r0 l g d b m e (Uj r0 l g d b m e n) i o c f)
def nk (r0:Nat→Bool→LA→O R) (q0:LA→Nat→Nat→LA→Int→Int→Int→LA→O R) (p:LA) (q:Nat) (r e:Bool) (s:LA) (t:Nat) (u d:Bool):O R :=
 (Fn N p q r e (fun m b=>(Fn N s t u d (fun l g=>(Od N m b false e l g false d (fun y=>(cond (decide (y<0)) (r0 0 false []) (cond ((decide (0≤((b:Nat):Int)))&&((decide (((b:Nat):Int)≤((b:Nat):Int)))&&((decide (((b:Nat):Int)≤140737488355328))&&(decide ((((b:Nat):Int)*((4:Nat):Int))≤140737488355328))))) (q0 l g b m 0 ((b:Nat):Int) 0 (List.replicate b (.int .u32 0))) none))))))))
def cC:=(Ag (fun (N:Nat) (p:LA) (q:Nat) (r e:Bool) (s:LA) (t:Nat) (u d:Bool) (r0:Nat→Bool→LA→O R)=>(nk N r0 (fun l g b m i o c f=>(Uj N r0 l g d b m e N i o c f)) p q r e s t u d))).1
theorem mQ (p q r e s t u d r0):(@cC R N p q r e s t u d r0)=(nk N r0 (fun l g b m i o c f=>(Uj N r0 l g d b m e N i o c f)) p q r e s t u d):=by rw[cC,(Ag _).2]
def Ak3:Hints:={ H:=(hS hL (hS hL (hS hL (hS hL (hS hL (hS (hS hL (hS (hP [1,6,7,22,23,24] hL) hL)) hL)))))),nils:=[(4,1)],modes:=[(2,1),(0,0)] }
def Atk:F2:=[(214,Lm N),(131,sc N)]
def A4h (F:KF R):=Ju Tryz.f136 Ak3 (Atk N) [] N F
def OY (F:KF R):Nat→Bool→LA→O R:=(fun z aa ab=>F (.tup [(.own 300000 0 z),(.bool aa)]) (hq [(bQ 1 ab)]))
def A4i (l:LA) (g:Nat) (d:Bool) (b:Nat) (m:LA) (e:Bool) (i o c:Int) (f:LA):St:=⟨[(1,(.imm l g 1 false d)),(6,(.own 300000 0 b)),(7,(.int .u64 i)),(22,(.imm m b 1 false e)),(23,(iv o)),(24,(iv c))],(hq [(bQ 1 f)])⟩
def A4j (F:KF R):=A4h N F [1,1,1,1,1,0,1,0] []
theorem nm (F:KF R) (l:LA) (g:Nat) (d:Bool) (b:Nat) (m:LA) (e:Bool):∀ (n:Nat) (i o c:Int) (f:LA),Ak (A4j N F) n (A4i l g d b m e i o c f)=(Uj N (OY F) l g d b m e n i o c f)
 | 0,_,_,_,_=>by kernel_rfl
 | n+1,i,o,c,f=>Eq.trans (by kernel_rfl) (Bt (GR N (OY F) l g d b m e · i o c f) (funext fun i=>funext fun o=>funext fun c=>funext fun f=>(nm F l g d b m e n i o c f)):_)
theorem Ak4 (p:LA) (q:Nat) (r e:Bool) (s:LA) (t:Nat) (u d:Bool) (F:KF R):Cw (Atk N) Ak3 N 136 [(.imm p q 1 r e),(.imm s t 1 u d)] [] F=(cC N p q r e s t u d (OY F)):=by
 rw[mQ]
 exact Eq.trans (by kernel_rfl) (Bt (nk N (OY F) · p q r e s t u d) (funext fun l=>funext fun g=>funext fun b=>funext fun m=>funext fun i=>funext fun o=>funext fun c=>funext fun f=>(Ad ..).trans (nm N F l g d b m e N i o c f)):_)
def Aa0 (a:LA) (h:Aj) (k:KF R):O R :=
 match a,h with
 | [(.imm p q 1 r e),(.imm s t 1 u d)],[]=>(cC N p q r e s t u d (OY k))
 | _,_=>none
theorem Ak5:An N 136 @Aa0:=by
 intro R Q a h k j;unfold Aa0;split;exact A2 (Ak4 ..) (Ak4 ..) ⟨Ln N,sd N,trivial⟩;exact A4
def A4k:=A3 (Ak5 N)
def A4l:=Cz (Ak5 N)
def np (b:LA) (d:Bool) (c:LA) (e:Bool) (r0:Bool→Nat→LA→O R):O R :=
 (bW b fun o=>(bW c fun p=>(cond (o==p) (bW b fun q=>(Br 1 (b.drop 1) fun r s=>(Br 1 (c.drop 1) fun t u=>(s9 N r s false d t u false e (fun f g=>(Ll N q f g (fun v=>(r0 v f g)))))))) (Br 1 (b.drop 1) fun w x=>(Br 1 (c.drop 1) fun y z=>(cC N w x false d y z false e (fun i aa l=>(cond aa (bW b fun ab=>(Ll N ab i l (fun ac=>(r0 ac i l)))) (Br 1 (c.drop 1) fun ad ae=>(Br 1 (b.drop 1) fun af ag=>(cC N ad ae false e af ag false d (fun m am n=>(bW c fun ah=>(Ll N ah m n (fun ai=>(r0 ai m n))))))))))))))))
def Aa1:=(Ag (@np R)).1
theorem TG:@Aa1 R=@np R:=(Ag _).2
def A63:F2:=[(135,A4f N),(132,D_ N),(136,A4k N)]
def Ak6 (F:KF R):Bool→Nat→LA→O R:=(fun aj ak al=>F (.agg [(.bool aj),(.own 300000 0 ak)]) (hq [(bQ 1 al)]))
theorem Ak7 (b:LA) (d:Bool) (c:LA) (e:Bool) (F:KF R):Cw (A63 N) Cr N 144 [(.pagg b d),(.pagg c e)] [] F=(Aa1 N b d c e (Ak6 F)):=by
 rw[TG]
 kernel_rfl
def Aa2 (a:LA) (h:Aj) (k:KF R):O R :=
 match a,h with
 | [(.pagg b d),(.pagg c e)],[]=>(Aa1 N b d c e (Ak6 k))
 | _,_=>none
theorem Ak8:An N 144 @Aa2:=by
 intro R Q a h k j;unfold Aa2;split;exact A2 (Ak7 ..) (Ak7 ..) ⟨A4g N,EA N,A4l N,trivial⟩;exact A4
def A4m:=A3 (Ak8 N)
def A4n:=Cz (Ak8 N)
def Me (N:Nat) (r0:Int→O R) (c:LA) (b:Nat) (d e:Bool) (k0:Int→Int→Int→O R) (g i f:Int):O R :=
 (cond (decide (f<i)) (cond (Ae f b) (Ap .u32 (c.drop ((f.toNat)*1)) fun l=>(cond (decide ((wrap .i64 (32*f))<0)) none (k0 (uU .u64 g (wrap .u64 ((wrap .u64 l)*2 ^ (min ((wrap .i64 (32*f)).toNat) 64)))) i (wrap .i64 (f+1))))) none) (r0 g))
def Kv (r0:Int→O R) (c:LA) (b:Nat) (d e:Bool):Nat→Int→Int→Int→O R
 | 0,_,_,_=>none
 | n+1,g,i,f=>(Me N r0 c b d e (Kv r0 c b d e n) g i f)
def nq (N:Nat) (r0:Int→O R) (q0:Int→Int→Int→O R) (c:LA) (b:Nat) (d e:Bool):O R :=
 (q0 0 ((b:Nat):Int) 0)
def gY:=(Ag (fun (N:Nat) (c:LA) (b:Nat) (d e:Bool) (r0:Int→O R)=>(nq N r0 (fun g i f=>(Kv N r0 c b d e N g i f)) c b d e))).1
theorem uY (c b d e r0):(@gY R N c b d e r0)=(nq N r0 (fun g i f=>(Kv N r0 c b d e N g i f)) c b d e):=by rw[gY,(Ag _).2]
def Aa3:Hints:={ H:=(hS hL (hS hL (hS (hS hL (hS (hP [3,6,7,8] hL) hL)) hL))) }
def Aza (F:KF R):=Ju Tryz.f215 Aa3 [] [] N F
def GS (F:KF R):Int→O R:=(fun m=>F (.int .u64 m) [])
def Azb (c:LA) (b:Nat) (d e:Bool) (g i f:Int):St:=⟨[(3,(.int .u64 g)),(6,(.imm c b 1 d e)),(7,(iv i)),(8,(iv f))],[]⟩
def Azc (F:KF R):=Aza N F [1,1,0,1,0] []
theorem jJ (F:KF R) (c:LA) (b:Nat) (d e:Bool):∀ (n:Nat) (g i f:Int),Ak (Azc N F) n (Azb c b d e g i f)=(Kv N (GS F) c b d e n g i f)
 | 0,_,_,_=>by kernel_rfl
 | n+1,g,i,f=>Eq.trans (by kernel_rfl) (Bt (Me N (GS F) c b d e · g i f) (funext fun g=>funext fun i=>funext fun f=>(jJ F c b d e n g i f)):_)
theorem Aa4 (c:LA) (b:Nat) (d e:Bool) (F:KF R):Cw [] Aa3 N 215 [(.imm c b 1 d e)] [] F=(gY N c b d e (GS F)):=by
 rw[uY]
 exact Eq.trans (by kernel_rfl) (Bt (nq N (GS F) · c b d e) (funext fun g=>funext fun i=>funext fun f=>(Ad ..).trans (jJ N F c b d e N g i f)):_)
def uZ (a:LA) (h:Aj) (k:KF R):O R :=
 match a,h with
 | [(.imm c b 1 d e)],[]=>(gY N c b d e (GS k))
 | _,_=>none
theorem Aa5:An N 215 @uZ:=by
 intro R Q a h k j;unfold uZ;split;exact A2 (Aa4 ..) (Aa4 ..) trivial;exact A4
def Azd:=A3 (Aa5 N)
def Aze:=Cz (Aa5 N)
def mR (c:LA) (d:Nat) (e b:Bool) (r0:Int→Bool→O R):O R :=
 (Fn N c d e b (fun g f=>(cond (decide (((f:Nat):Int)>2)) (r0 0 false) (gY N g f false b (fun i=>(r0 i true))))))
def FR:=(Ag (@mR R)).1
theorem jK:@FR R=@mR R:=(Ag _).2
def Atl:F2:=[(214,TB N),(215,Azd N)]
def nv (F:KF R):Int→Bool→O R:=(fun l m=>F (.tup [(.int .u64 l),(.bool m)]) [])
theorem nw (c:LA) (d:Nat) (e b:Bool) (F:KF R):Cw (Atl N) Cr N 210 [(.imm c d 1 e b)] [] F=(FR N c d e b (nv F)):=by
 rw[jK]
 kernel_rfl
def jL (a:LA) (h:Aj) (k:KF R):O R :=
 match a,h with
 | [(.imm c d 1 e b)],[]=>(FR N c d e b (nv k))
 | _,_=>none
theorem ny:An N 210 @jL:=by
 intro R Q a h k j;unfold jL;split;exact A2 (nw ..) (nw ..) ⟨TC N,Aze N,trivial⟩;exact A4
def Aod:=A3 (ny N)
def Aoe:=Cz (ny N)
end
end Gx

namespace Gx
open Go Go.Proofs
open IntKind (wrap)
set_option maxRecDepth 100000
noncomputable section
variable {R:Type} (N:Nat)
def EC (N:Nat) (r0:Nat→LA→O R) (d:LA) (c:Nat) (f e:Bool) (k0:Int→O R) (b:Int):O R :=
 (cond ((decide (b>0))==true) (cond (Ae (wrap .i64 (b - 1)) c) (Ap .u32 (d.drop (((wrap .i64 (b - 1)).toNat)*1)) fun g=>(cond (cond true (g==0) false) (k0 (wrap .i64 (b - 1))) (cond ((decide ((0:Int)≤(0:Int)))&&((decide (0≤b))&&((decide (b≤((c:Nat):Int)))&&(decide (((c:Nat):Int)≤((c:Nat):Int)))))) (cond ((!e)||(Az (d.take ((b.toNat)*1)))) (cond ((Nat.ble (0+(b.toNat)) 140737488355328)&&(Nat.ble ((0+(b.toNat))*4) 140737488355328)) (r0 (0+(b.toNat)) (d.take ((b.toNat)*1))) none) none) none))) none) (cond ((decide ((0:Int)≤(0:Int)))&&((decide (0≤b))&&((decide (b≤((c:Nat):Int)))&&(decide (((c:Nat):Int)≤((c:Nat):Int)))))) (cond ((!e)||(Az (d.take ((b.toNat)*1)))) (cond ((Nat.ble (0+(b.toNat)) 140737488355328)&&(Nat.ble ((0+(b.toNat))*4) 140737488355328)) (r0 (0+(b.toNat)) (d.take ((b.toNat)*1))) none) none) none))
def Pk (r0:Nat→LA→O R) (d:LA) (c:Nat) (f e:Bool):Nat→Int→O R
 | 0,_=>none
 | n+1,b=>(EC N r0 d c f e (Pk r0 d c f e n) b)
def OZ (N:Nat) (r0:Nat→LA→O R) (q0:Int→O R) (d:LA) (c:Nat) (f e:Bool):O R :=
 (q0 ((c:Nat):Int))
def Ev:=(Ag (fun (N:Nat) (d:LA) (c:Nat) (f e:Bool) (r0:Nat→LA→O R)=>(OZ N r0 (fun b=>(Pk N r0 d c f e N b)) d c f e))).1
theorem TH (d c f e r0):(@Ev R N d c f e r0)=(OZ N r0 (fun b=>(Pk N r0 d c f e N b)) d c f e):=by rw[Ev,(Ag _).2]
def Atm (F:KF R):=Ju Tryz.f150 Akj [] [] N F
def Z4 (F:KF R):Nat→LA→O R:=(fun i l=>F (.own 300000 0 i) (hq [(bQ 1 l)]))
def Atn (d:LA) (c:Nat) (f e:Bool) (b:Int):St:=⟨[(0,(.imm d c 1 f e)),(3,(iv b))],[]⟩
def Ato (F:KF R):=Atm N F [1,1,0,0] []
theorem cD (F:KF R) (d:LA) (c:Nat) (f e:Bool):∀ (n:Nat) (b:Int),Ak (Ato N F) n (Atn d c f e b)=(Pk N (Z4 F) d c f e n b)
 | 0,_=>by kernel_rfl
 | n+1,b=>Eq.trans (by kernel_rfl) (Bt (EC N (Z4 F) d c f e · b) (funext fun b=>(cD F d c f e n b)):_)
theorem u4 (d:LA) (c:Nat) (f e:Bool) (F:KF R):Cw [] Akj N 150 [(.imm d c 1 f e)] [] F=(Ev N d c f e (Z4 F)):=by
 rw[TH]
 exact Eq.trans (by kernel_rfl) (Bt (OZ N (Z4 F) · d c f e) (funext fun b=>(Ad ..).trans (cD N F d c f e N b)):_)
def nz (a:LA) (h:Aj) (k:KF R):O R :=
 match a,h with
 | [(.imm d c 1 f e)],[]=>(Ev N d c f e (Z4 k))
 | _,_=>none
theorem u5:An N 150 @nz:=by
 intro R Q a h k j;unfold nz;split;exact A2 (u4 ..) (u4 ..) trivial;exact A4
def J3:=A3 (u5 N)
def J4:=Cz (u5 N)
def CD (b:Int) (r0:Nat→LA→O R):O R :=
 (Ev N [(.int .u32 (wrap .u32 b)),(.int .u32 (wrap .u32 (Int.fdiv b (2 ^ 32))))] 2 false true (fun c d=>(r0 c d)))
def Gn:=(Ag (@CD R)).1
theorem GT:@Gn R=@CD R:=(Ag _).2
def se:F2:=[(150,J3 N)]
def JK (F:KF R):Nat→LA→O R:=(fun e f=>F (.own 300000 0 e) (hq [(bQ 1 f)]))
theorem JL (b:Int) (F:KF R):Cw (se N) A2s N 88 [(.int .u64 b)] [] F=(Gn N b (JK F)):=by
 rw[GT]
 kernel_rfl
def GU (a:LA) (h:Aj) (k:KF R):O R :=
 match a,h with
 | [(.int .u64 b)],[]=>(Gn N b (JK k))
 | _,_=>none
theorem JM:An N 88 @GU:=by
 intro R Q a h k j;unfold GU;split;exact A2 (JL ..) (JL ..) ⟨J4 N,trivial⟩;exact A4
def JN:=A3 (JM N)
def JO:=Cz (JM N)
def sf (b:Bool) (c:LA) (d:Nat) (f e:Bool) (r0:LA→O R):O R :=
 (Ev N c d false e (fun g i=>(cond (b==true) (r0 [(.bool (cond true (decide (((g:Nat):Int)>0)) false)),(.imm (i.take (g*1)) g 1 false false)]) (r0 [(.bool false),(.imm (i.take (g*1)) g 1 false false)]))))
def It:=(Ag (@sf R)).1
theorem oA:@It R=@sf R:=(Ag _).2
def Azf:F2:=[(150,J3 N)]
def u6 (F:KF R):LA→O R:=(fun l=>F (.pagg l false) [])
theorem u7 (b:Bool) (c:LA) (d:Nat) (f e:Bool) (F:KF R):Cw (Azf N) iy N 83 [(.bool b),(.imm c d 1 f e)] [] F=(It N b c d f e (u6 F)):=by
 rw[oA]
 kernel_rfl
def oB (a:LA) (h:Aj) (k:KF R):O R :=
 match a,h with
 | [(.bool b),(.imm c d 1 f e)],[]=>(It N b c d f e (u6 k))
 | _,_=>none
theorem u9:An N 83 @oB:=by
 intro R Q a h k j;unfold oB;split;exact A2 (u7 ..) (u7 ..) ⟨J4 N,trivial⟩;exact A4
def Pl:=A3 (u9 N)
def Pm:=Cz (u9 N)
def TI (b:Int) (r0:LA→O R):O R :=
 (cond (decide (b<0)) (Gn N (wrap .u64 ((wrap .u64 (wrap .i64 ((0:Int) - (wrap .i64 (b+1)))))+1)) (fun e g=>(It N true (g.take (e*1)) e false true (fun c=>(cond ((Nat.beq 0 0)&&((Nat.beq (c.length) 2)&&(Nat.beq 2 2))) (cond (Nat.ble 2 (c.length)) (r0 (c.take 2)) none) none))))) (Gn N (wrap .u64 b) (fun f i=>(It N false (i.take (f*1)) f false true (fun d=>(cond ((Nat.beq 0 0)&&((Nat.beq (d.length) 2)&&(Nat.beq 2 2))) (cond (Nat.ble 2 (d.length)) (r0 (d.take 2)) none) none))))))
def Mf:=(Ag (@TI R)).1
theorem WJ:@Mf R=@TI R:=(Ag _).2
def Ag6:F2:=[(88,JN N),(83,Pl N)]
def cE (F:KF R):LA→O R:=(fun l=>F (.pagg l false) [])
theorem cF (b:Int) (F:KF R):Cw (Ag6 N) iy N 32 [(iv b)] [] F=(Mf N b (cE F)):=by
 rw[WJ]
 kernel_rfl
def WK (a:LA) (h:Aj) (k:KF R):O R :=
 match a,h with
 | [(.int .i64 b)],[]=>(Mf N b (cE k))
 | _,_=>none
theorem cG:An N 32 @WK:=by
 intro R Q a h k j;unfold WK;split;exact A2 (cF ..) (cF ..) ⟨JO N,Pm N,trivial⟩;exact A4
def cH:=A3 (cG N)
def cI:=Cz (cG N)
def sh (b:LA) (c:Bool) (r0:LA→O R):O R :=
 (bW b fun e=>(Br 1 (b.drop 1) fun f g=>(It N e f g false c (fun d=>(cond ((Nat.beq 0 0)&&((Nat.beq (d.length) 2)&&(Nat.beq 2 2))) (cond (Nat.ble 2 (d.length)) (r0 (d.take 2)) none) none)))))
def GV:=(Ag (@sh R)).1
theorem oC:@GV R=@sh R:=(Ag _).2
def Azg:F2:=[(83,Pl N)]
def u_ (F:KF R):LA→O R:=(fun i=>F (.pagg i false) [])
theorem ua (b:LA) (c:Bool) (F:KF R):Cw (Azg N) iy N 26 [(.pagg b c)] [] F=(GV N b c (u_ F)):=by
 rw[oC]
 kernel_rfl
def oD (a:LA) (h:Aj) (k:KF R):O R :=
 match a,h with
 | [(.pagg b c)],[]=>(GV N b c (u_ k))
 | _,_=>none
theorem ud:An N 26 @oD:=by
 intro R Q a h k j;unfold oD;split;exact A2 (ua ..) (ua ..) ⟨Pm N,trivial⟩;exact A4
def ue:=A3 (ud N)
def uf:=Cz (ud N)
def si (b:LA) (c:Bool) (r0:Int→O R):O R :=
 (cond (Nat.ble 2 (b.length)) (GV N (b.take 2) c (fun d=>(cond ((Nat.beq (d.length) 2)&&((Nat.ble 2 (b.length))&&(!false))) (bW (setCells b 0 d) fun e=>(cond e (r0 (-1)) (Br 1 ((setCells b 0 d).drop 1) fun i f=>(cond (((f:Nat):Int)==0) (r0 0) (r0 1))))) none))) none)
def cJ:=(Ag (@si R)).1
theorem oE:@cJ R=@si R:=(Ag _).2
def Azh:F2:=[(26,ue N)]
def uh (F:KF R):Int→O R:=(fun g=>F (iv g) [])
theorem ui (b:LA) (c:Bool) (F:KF R):Cw (Azh N) Cr N 138 [(.pagg b c)] [] F=(cJ N b c (uh F)):=by
 rw[oE]
 kernel_rfl
def oF (a:LA) (h:Aj) (k:KF R):O R :=
 match a,h with
 | [(.pagg b c)],[]=>(cJ N b c (uh k))
 | _,_=>none
theorem uj:An N 138 @oF:=by
 intro R Q a h k j;unfold oF;split;exact A2 (ui ..) (ui ..) ⟨uf N,trivial⟩;exact A4
def Atp:=A3 (uj N)
def Atq:=Cz (uj N)
def sj (N:Nat) (r0:LA→O R):O R :=
 (r0 [(.bool false),(.imm [] 0 1 false false),(.imm [(.int .u32 1)] 1 1 false false)])
def Z5:=(Ag (@sj R)).1
theorem oG:@Z5 R=@sj R:=(Ag _).2
def uk (F:KF R):LA→O R:=(fun b=>F (.pagg b false) [])
theorem um (F:KF R):Cw [] iy N 151 [] [] F=(Z5 N (uk F)):=by
 rw[oG]
 kernel_rfl
def oH (a:LA) (h:Aj) (k:KF R):O R :=
 match a,h with
 | [],[]=>(Z5 N (uk k))
 | _,_=>none
theorem uo:An N 151 @oH:=by
 intro R Q a h k j;unfold oH;split;exact A2 (um ..) (um ..) trivial;exact A4
def cK:=A3 (uo N)
def cL:=Cz (uo N)
def Y4 (N:Nat) (r0:Bool→O R) (d:LA) (b:Nat) (f g:Bool) (e:LA) (c:Nat) (i l:Bool) (k0:Int→O R) (m:Int):O R :=
 (cond (decide (m<((b:Nat):Int))) (cond (Ae m b) (Ap .u32 (d.drop ((m.toNat)*1)) fun o=>(cond (Ae m c) (Ap .u32 (e.drop ((m.toNat)*1)) fun p=>(cond (o != p) (r0 false) (k0 (wrap .i64 (m+1))))) none)) none) (r0 true))
def Mu (r0:Bool→O R) (d:LA) (b:Nat) (f g:Bool) (e:LA) (c:Nat) (i l:Bool):Nat→Int→O R
 | 0,_=>none
 | n+1,m=>(Y4 N r0 d b f g e c i l (Mu r0 d b f g e c i l n) m)
def TJ (N:Nat) (r0:Bool→O R) (q0:Int→O R) (d:LA) (b:Nat) (f g:Bool) (e:LA) (c:Nat) (i l:Bool):O R :=
 (cond (((b:Nat):Int) != ((c:Nat):Int)) (r0 false) (q0 0))
def FS:=(Ag (fun (N:Nat) (d:LA) (b:Nat) (f g:Bool) (e:LA) (c:Nat) (i l:Bool) (r0:Bool→O R)=>(TJ N r0 (fun m=>(Mu N r0 d b f g e c i l N m)) d b f g e c i l))).1
theorem jM (d b f g e c i l r0):(@FS R N d b f g e c i l r0)=(TJ N r0 (fun m=>(Mu N r0 d b f g e c i l N m)) d b f g e c i l):=by rw[FS,(Ag _).2]
def oI:Hints:={ H:=(hS hL (hS hL (hS (hS hL (hS (hP [0,1,5] hL) hL)) hL))) }
def Aof (F:KF R):=Ju Tryz.f65 oI [] [] N F
def Vi (F:KF R):Bool→O R:=(fun q=>F (.bool q) [])
def Aog (d:LA) (b:Nat) (f g:Bool) (e:LA) (c:Nat) (i l:Bool) (m:Int):St:=⟨[(0,(.imm d b 1 f g)),(1,(.imm e c 1 i l)),(5,(iv m))],[]⟩
def Aoh (F:KF R):=Aof N F [1,1,0,1,0] []
theorem WL (F:KF R) (d:LA) (b:Nat) (f g:Bool) (e:LA) (c:Nat) (i l:Bool):∀ (n:Nat) (m:Int),Ak (Aoh N F) n (Aog d b f g e c i l m)=(Mu N (Vi F) d b f g e c i l n m)
 | 0,_=>by kernel_rfl
 | n+1,m=>Eq.trans (by kernel_rfl) (Bt (Y4 N (Vi F) d b f g e c i l · m) (funext fun m=>(WL F d b f g e c i l n m)):_)
theorem oJ (d:LA) (b:Nat) (f g:Bool) (e:LA) (c:Nat) (i l:Bool) (F:KF R):Cw [] oI N 65 [(.imm d b 1 f g),(.imm e c 1 i l)] [] F=(FS N d b f g e c i l (Vi F)):=by
 rw[jM]
 exact Eq.trans (by kernel_rfl) (Bt (TJ N (Vi F) · d b f g e c i l) (funext fun m=>(Ad ..).trans (WL N F d b f g e c i l N m)):_)
def jN (a:LA) (h:Aj) (k:KF R):O R :=
 match a,h with
 | [(.imm d b 1 f g),(.imm e c 1 i l)],[]=>(FS N d b f g e c i l (Vi k))
 | _,_=>none
theorem oK:An N 65 @jN:=by
 intro R Q a h k j;unfold jN;split;exact A2 (oJ ..) (oJ ..) trivial;exact A4
def Aoi:=A3 (oK N)
def Aoj:=Cz (oK N)
def Gp (N:Nat) (r0:Int→Bool→O R) (b:Nat) (d:LA) (k0:Int→Int→O R) (e c:Int):O R :=
 (cond (decide (c≥0)) (cond (Ae c b) (Ap .u32 (d.drop (0+((c.toNat)*1))) fun m=>(k0 (uU .u64 (wrap .u64 (e*2 ^ 32)) (wrap .u64 m)) (wrap .i64 (c - 1)))) none) (r0 e true))
def E3 (r0:Int→Bool→O R) (b:Nat) (d:LA):Nat→Int→Int→O R
 | 0,_,_=>none
 | n+1,e,c=>(Gp N r0 b d (E3 r0 b d n) e c)
def JP (r0:Int→Bool→O R) (q0:Nat→LA→Int→Int→O R) (f:LA) (g:Nat) (l i:Bool):O R :=
 (Ev N f g false i (fun b d=>(cond (decide (((b:Nat):Int)>2)) (r0 0 false) (q0 b d 0 (wrap .i64 (((b:Nat):Int) - 1))))))
def Tt:=(Ag (fun (N:Nat) (f:LA) (g:Nat) (l i:Bool) (r0:Int→Bool→O R)=>(JP N r0 (fun b d e c=>(E3 N r0 b d N e c)) f g l i))).1
theorem cM (f g l i r0):(@Tt R N f g l i r0)=(JP N r0 (fun b d e c=>(E3 N r0 b d N e c)) f g l i):=by rw[Tt,(Ag _).2]
def jO:Hints:={ H:=(hS hL (hS hL (hS hL (hS hL (hS (hS hL (hS (hP [0,4,5] hL) hL)) hL))))) }
def oL:F2:=[(150,J3 N)]
def Ag7 (F:KF R):=Ju Tryz.f89 jO (oL N) [] N F
def R8 (F:KF R):Int→Bool→O R:=(fun o p=>F (.tup [(.int .u64 o),(.bool p)]) [])
def Ag8 (b:Nat) (d:LA) (e c:Int):St:=⟨[(0,(.own 300000 0 b)),(4,(.int .u64 e)),(5,(iv c))],(hq [(bQ 1 d)])⟩
def Ag9 (F:KF R):=Ag7 N F [1,1,1,1,0,1,0] []
theorem O_ (F:KF R) (b:Nat) (d:LA):∀ (n:Nat) (e c:Int),Ak (Ag9 N F) n (Ag8 b d e c)=(E3 N (R8 F) b d n e c)
 | 0,_,_=>by kernel_rfl
 | n+1,e,c=>Eq.trans (by kernel_rfl) (Bt (Gp N (R8 F) b d · e c) (funext fun e=>funext fun c=>(O_ F b d n e c)):_)
theorem jP (f:LA) (g:Nat) (l i:Bool) (F:KF R):Cw (oL N) jO N 89 [(.imm f g 1 l i)] [] F=(Tt N f g l i (R8 F)):=by
 rw[cM]
 exact Eq.trans (by kernel_rfl) (Bt (JP N (R8 F) · f g l i) (funext fun b=>funext fun d=>funext fun e=>funext fun c=>(Ad ..).trans (O_ N F b d N e c)):_)
def cN (a:LA) (h:Aj) (k:KF R):O R :=
 match a,h with
 | [(.imm f g 1 l i)],[]=>(Tt N f g l i (R8 k))
 | _,_=>none
theorem jQ:An N 89 @cN:=by
 intro R Q a h k j;unfold cN;split;exact A2 (jP ..) (jP ..) ⟨J4 N,trivial⟩;exact A4
def Aha:=A3 (jQ N)
def Ahb:=Cz (jQ N)
def Vj (N:Nat) (r0:Int→O R) (k0:Int→Int→O R) (b c:Int):O R :=
 (cond (decide (c>0)) (k0 (wrap .i64 (b+1)) (Int.fdiv c (2 ^ 1))) (r0 b))
def Mg (r0:Int→O R):Nat→Int→Int→O R
 | 0,_,_=>none
 | n+1,b,c=>(Vj N r0 (Mg r0 n) b c)
def O' (r0:Int→O R) (q0:Int→Int→O R) (d:LA) (e:Nat) (g f:Bool):O R :=
 (Ev N d e false f (fun i l=>(cond (((i:Nat):Int)==0) (r0 0) (cond (Ae (wrap .i64 (((i:Nat):Int) - 1)) i) (Ap .u32 (l.drop (0+(((wrap .i64 (((i:Nat):Int) - 1)).toNat)*1))) fun m=>(q0 (wrap .i64 (32*(wrap .i64 (((i:Nat):Int) - 1)))) m)) none))))
def PA:=(Ag (fun (N:Nat) (d:LA) (e:Nat) (g f:Bool) (r0:Int→O R)=>(O' N r0 (fun b c=>(Mg N r0 N b c)) d e g f))).1
theorem TK (d e g f r0):(@PA R N d e g f r0)=(O' N r0 (fun b c=>(Mg N r0 N b c)) d e g f):=by rw[PA,(Ag _).2]
def uq:Hints:={ H:=(hS hL (hS hL (hS hL (hS hL (hS (hS hL (hS (hP [3,4] hL) hL)) hL))))) }
def Aa6:F2:=[(150,J3 N)]
def Atr (F:KF R):=Ju Tryz.f206 uq (Aa6 N) [] N F
def Z6 (F:KF R):Int→O R:=(fun o=>F (iv o) [])
def Ats (b c:Int):St:=⟨[(3,(iv b)),(4,(.int .u32 c))],[]⟩
def Att (F:KF R):=Atr N F [1,1,1,1,0,1,0] []
theorem cO (F:KF R):∀ (n:Nat) (b c:Int),Ak (Att N F) n (Ats b c)=(Mg N (Z6 F) n b c)
 | 0,_,_=>by kernel_rfl
 | n+1,b,c=>Eq.trans (by kernel_rfl) (Bt (Vj N (Z6 F) · b c) (funext fun b=>funext fun c=>(cO F n b c)):_)
theorem ur (d:LA) (e:Nat) (g f:Bool) (F:KF R):Cw (Aa6 N) uq N 206 [(.imm d e 1 g f)] [] F=(PA N d e g f (Z6 F)):=by
 rw[TK]
 exact Eq.trans (by kernel_rfl) (Bt (O' N (Z6 F) · d e g f) (funext fun b=>funext fun c=>(Ad ..).trans (cO N F N b c)):_)
def oM (a:LA) (h:Aj) (k:KF R):O R :=
 match a,h with
 | [(.imm d e 1 g f)],[]=>(PA N d e g f (Z6 k))
 | _,_=>none
theorem ut:An N 206 @oM:=by
 intro R Q a h k j;unfold oM;split;exact A2 (ur ..) (ur ..) ⟨J4 N,trivial⟩;exact A4
def Atu:=A3 (ut N)
def Atv:=Cz (ut N)
def GW (N:Nat) (k0:Nat→Int→Int→LA→O R) (r0:Nat→LA→O R) (d:LA) (b:Nat) (f g:Bool) (e:LA) (c:Nat) (i l:Bool) (m:Nat) (o:LA) (s q:Int):O R :=
 (cond (decide (q<((c:Nat):Int))) (cond (Ae q c) (Ap .u32 (e.drop ((q.toNat)*1)) fun t=>(cond (Ae q m) (cond ((Nat.beq 1 1)&&((Nat.ble ((0+((q.toNat)*1))+1) (o.length))&&(!false))) (k0 m (Int.fdiv (wrap .u64 (s+(wrap .u64 t))) (2 ^ 32)) (wrap .i64 (q+1)) (o.set (0+((q.toNat)*1)) (.int .u32 (wrap .u32 (wrap .u64 (s+(wrap .u64 t))))))) none) none)) none) (cond (Ae q m) (cond ((Nat.beq 1 1)&&((Nat.ble ((0+((q.toNat)*1))+1) (o.length))&&(!false))) (k0 m (Int.fdiv s (2 ^ 32)) (wrap .i64 (q+1)) (o.set (0+((q.toNat)*1)) (.int .u32 (wrap .u32 s)))) none) none))
def JQ (r0:Nat→LA→O R) (d:LA) (b:Nat) (f g:Bool) (e:LA) (c:Nat) (i l:Bool) (k0:Nat→Int→Int→LA→O R) (q1:Int→Int→O R) (m:Nat) (r p:Int) (o:LA):O R :=
 (cond (decide (p<((m:Nat):Int))) (cond (decide (p<((b:Nat):Int))) (cond (Ae p b) (Ap .u32 (d.drop ((p.toNat)*1)) fun u=>(q1 (wrap .u64 (r+(wrap .u64 u))) p)) none) (q1 r p)) (Ev N (o.take (m*1)) m false true (fun v w=>(r0 v w))))
def Kw (r0:Nat→LA→O R) (d:LA) (b:Nat) (f g:Bool) (e:LA) (c:Nat) (i l:Bool):Nat→Nat→Int→Int→LA→O R
 | 0,_,_,_,_=>none
 | n+1,m,r,p,o=>(JQ N r0 d b f g e c i l (Kw r0 d b f g e c i l n) (fun s q=>(GW N (Kw r0 d b f g e c i l n) r0 d b f g e c i l m o s q)) m r p o)
def oN (N:Nat) (r0:Nat→LA→O R) (q0:Nat→Int→Int→LA→O R) (d:LA) (b:Nat) (f g:Bool) (e:LA) (c:Nat) (i l:Bool):O R :=
 (cond ((decide (0≤(wrap .i64 ((ly ((b:Nat):Int) ((c:Nat):Int))+1))))&&((decide ((wrap .i64 ((ly ((b:Nat):Int) ((c:Nat):Int))+1))≤(wrap .i64 ((ly ((b:Nat):Int) ((c:Nat):Int))+1))))&&((decide ((wrap .i64 ((ly ((b:Nat):Int) ((c:Nat):Int))+1))≤140737488355328))&&(decide (((wrap .i64 ((ly ((b:Nat):Int) ((c:Nat):Int))+1))*((4:Nat):Int))≤140737488355328))))) (q0 ((wrap .i64 ((ly ((b:Nat):Int) ((c:Nat):Int))+1)).toNat) 0 0 (List.replicate ((wrap .i64 ((ly ((b:Nat):Int) ((c:Nat):Int))+1)).toNat) (.int .u32 0))) none)
def JR:=(Ag (fun (N:Nat) (d:LA) (b:Nat) (f g:Bool) (e:LA) (c:Nat) (i l:Bool) (r0:Nat→LA→O R)=>(oN N r0 (fun m r p o=>(Kw N r0 d b f g e c i l N m r p o)) d b f g e c i l))).1
theorem uu (d b f g e c i l r0):(@JR R N d b f g e c i l r0)=(oN N r0 (fun m r p o=>(Kw N r0 d b f g e c i l N m r p o)) d b f g e c i l):=by rw[JR,(Ag _).2]
def Aa7:Hints:={ H:=(hS hL (hS hL (hS hL (hS (hS hL (hS (hP [0,1,5,6,7] (hS hL (hS (hS (hJ [0,1,5,6,7] hL hL) hL) hL))) hL)) hL)))),nils:=[(4,1)],modes:=[(2,1)] }
def Ak9:F2:=[(150,J3 N)]
def Aa8 (F:KF R):=Ju Tryz.f207 Aa7 (Ak9 N) [] N F
def Tu (F:KF R):Nat→LA→O R:=(fun x y=>F (.own 300000 0 x) (hq [(bQ 1 y)]))
def Azi (d:LA) (b:Nat) (f g:Bool) (e:LA) (c:Nat) (i l:Bool) (m:Nat) (o:LA) (s q:Int):St:=⟨[(0,(.imm d b 1 f g)),(1,(.imm e c 1 i l)),(5,(.own 300000 0 m)),(6,(.int .u64 s)),(7,(iv q))],(hq [(bQ 1 o)])⟩
def Azj (F:KF R) (Q0:St→O R):=Aa8 N F [1,1,1,0,1,0,0,1,0,0,1] [Q0]
def Aa9 (d:LA) (b:Nat) (f g:Bool) (e:LA) (c:Nat) (i l:Bool) (m:Nat) (r p:Int) (o:LA):St:=⟨[(0,(.imm d b 1 f g)),(1,(.imm e c 1 i l)),(5,(.own 300000 0 m)),(6,(.int .u64 r)),(7,(iv p))],(hq [(bQ 1 o)])⟩
def Aba (F:KF R):=Aa8 N F [1,1,1,0,1,0] []
theorem Ahc (Q0:St→O R) (F:KF R) (d:LA) (b:Nat) (f g:Bool) (e:LA) (c:Nat) (i l:Bool) (m:Nat) (o:LA):∀ (s q:Int),B5 (Azj N F Q0) (Azi d b f g e c i l m o s q)=(GW N (fun m r p o=>Q0 (Aa9 d b f g e c i l m r p o)) (Tu F) d b f g e c i l m o s q):=by
 intro s q
 kernel_rfl
theorem jR (F:KF R) (d:LA) (b:Nat) (f g:Bool) (e:LA) (c:Nat) (i l:Bool):∀ (n m:Nat) (r p:Int) (o:LA),Ak (Aba N F) n (Aa9 d b f g e c i l m r p o)=(Kw N (Tu F) d b f g e c i l n m r p o)
 | 0,_,_,_,_=>by kernel_rfl
 | n+1,m,r,p,o=>have e0:=(funext fun m=>funext fun r=>funext fun p=>funext fun o=>(jR F d b f g e c i l n m r p o))
  Eq.trans (by kernel_rfl) (OQ (JQ N (Tu F) d b f g e c i l · · m r p o) e0 (funext fun s=>funext fun q=>(A1 ..).trans ((Ahc N (Ak (Aba N F) n) F d b f g e c i l m o s q).trans (Bt (GW N · (Tu F) d b f g e c i l m o s q) e0))):_)
theorem Abb (d:LA) (b:Nat) (f g:Bool) (e:LA) (c:Nat) (i l:Bool) (F:KF R):Cw (Ak9 N) Aa7 N 207 [(.imm d b 1 f g),(.imm e c 1 i l)] [] F=(JR N d b f g e c i l (Tu F)):=by
 rw[uu]
 exact Eq.trans (by kernel_rfl) (Bt (oN N (Tu F) · d b f g e c i l) (funext fun m=>funext fun r=>funext fun p=>funext fun o=>(Ad ..).trans (jR N F d b f g e c i l N m r p o)):_)
def uv (a:LA) (h:Aj) (k:KF R):O R :=
 match a,h with
 | [(.imm d b 1 f g),(.imm e c 1 i l)],[]=>(JR N d b f g e c i l (Tu k))
 | _,_=>none
theorem Abc:An N 207 @uv:=by
 intro R Q a h k j;unfold uv;split;exact A2 (Abb ..) (Abb ..) ⟨J4 N,trivial⟩;exact A4
def Abd:=A3 (Abc N)
def Abe:=Cz (Abc N)
def Abf (N:Nat) (d:LA) (c:Nat) (e f:Bool) (b:Int) (r0:Int→O R):O R :=
 (cond (decide ((wrap .i64 (Int.tdiv b 32))≥((c:Nat):Int))) (r0 0) (cond (Ae (wrap .i64 (Int.tdiv b 32)) c) (Ap .u32 (d.drop (((wrap .i64 (Int.tdiv b 32)).toNat)*1)) fun g=>(cond (decide ((wrap .u64 (Int.tmod b 32))<0)) none (r0 (Ay0 .u32 (Int.fdiv g (2 ^ (min ((wrap .u64 (Int.tmod b 32)).toNat) 32))) 1)))) none))
def oO:=(Ag (@Abf R)).1
theorem uw:@oO R=@Abf R:=(Ag _).2
def Abg (F:KF R):Int→O R:=(fun i=>F (.int .u32 i) [])
theorem Abh (d:LA) (c:Nat) (e f:Bool) (b:Int) (F:KF R):Cw [] Cr N 208 [(.imm d c 1 e f),(iv b)] [] F=(oO N d c e f b (Abg F)):=by
 rw[uw]
 kernel_rfl
def ux (a:LA) (h:Aj) (k:KF R):O R :=
 match a,h with
 | [(.imm d c 1 e f),(.int .i64 b)],[]=>(oO N d c e f b (Abg k))
 | _,_=>none
theorem Abi:An N 208 @ux:=by
 intro R Q a h k j;unfold ux;split;exact A2 (Abh ..) (Abh ..) trivial;exact A4
def Azk:=A3 (Abi N)
def Azl:=Cz (Abi N)
def Te (N:Nat) (r0:Int→O R) (c d:Nat) (e f:LA) (k0:Int→O R) (b:Int):O R :=
 (cond (decide (b≥0)) (cond (Ae b c) (Ap .u32 (e.drop (0+((b.toNat)*1))) fun s=>(cond (Ae b d) (Ap .u32 (f.drop (0+((b.toNat)*1))) fun t=>(cond (decide (s<t)) (r0 (-1)) (cond (Ae b c) (Ap .u32 (e.drop (0+((b.toNat)*1))) fun u=>(cond (Ae b d) (Ap .u32 (f.drop (0+((b.toNat)*1))) fun v=>(cond (decide (u>v)) (r0 1) (k0 (wrap .i64 (b - 1))))) none)) none))) none)) none) (r0 0))
def Iu (r0:Int→O R) (c d:Nat) (e f:LA):Nat→Int→O R
 | 0,_=>none
 | n+1,b=>(Te N r0 c d e f (Iu r0 c d e f n) b)
def ED (r0:Int→O R) (q0:Nat→Nat→LA→LA→Int→O R) (g:LA) (i:Nat) (q l:Bool) (m:LA) (o:Nat) (r p:Bool):O R :=
 (Ev N g i false l (fun c e=>(Ev N m o false p (fun d f=>(cond (((c:Nat):Int) != ((d:Nat):Int)) (cond (decide (((c:Nat):Int)<((d:Nat):Int))) (r0 (-1)) (r0 1)) (q0 c d e f (wrap .i64 (((c:Nat):Int) - 1))))))))
def Uk:=(Ag (fun (N:Nat) (g:LA) (i:Nat) (q l:Bool) (m:LA) (o:Nat) (r p:Bool) (r0:Int→O R)=>(ED N r0 (fun c d e f b=>(Iu N r0 c d e f N b)) g i q l m o r p))).1
theorem WM (g i q l m o r p r0):(@Uk R N g i q l m o r p r0)=(ED N r0 (fun c d e f b=>(Iu N r0 c d e f N b)) g i q l m o r p):=by rw[Uk,(Ag _).2]
def jS:F2:=[(150,J3 N)]
def Abj (F:KF R):=Ju Tryz.f272 A2t (jS N) [] N F
def Pn (F:KF R):Int→O R:=(fun w=>F (iv w) [])
def Abk (c d:Nat) (e f:LA) (b:Int):St:=⟨[(0,(.own 300000 0 c)),(1,(.own 300001 0 d)),(5,(iv b))],(hq [(bQ 1 e),(bQ 1 f)])⟩
def Abl (F:KF R):=Abj N F [1,1,1,0,1,0] []
theorem JT (F:KF R) (c d:Nat) (e f:LA):∀ (n:Nat) (b:Int),Ak (Abl N F) n (Abk c d e f b)=(Iu N (Pn F) c d e f n b)
 | 0,_=>by kernel_rfl
 | n+1,b=>Eq.trans (by kernel_rfl) (Bt (Te N (Pn F) c d e f · b) (funext fun b=>(JT F c d e f n b)):_)
theorem cP (g:LA) (i:Nat) (q l:Bool) (m:LA) (o:Nat) (r p:Bool) (F:KF R):Cw (jS N) A2t N 272 [(.imm g i 1 q l),(.imm m o 1 r p)] [] F=(Uk N g i q l m o r p (Pn F)):=by
 rw[WM]
 exact Eq.trans (by kernel_rfl) (Bt (ED N (Pn F) · g i q l m o r p) (funext fun c=>funext fun d=>funext fun e=>funext fun f=>funext fun b=>(Ad ..).trans (JT N F c d e f N b)):_)
def WN (a:LA) (h:Aj) (k:KF R):O R :=
 match a,h with
 | [(.imm g i 1 q l),(.imm m o 1 r p)],[]=>(Uk N g i q l m o r p (Pn k))
 | _,_=>none
theorem cQ:An N 272 @WN:=by
 intro R Q a h k j;unfold WN;split;exact A2 (cP ..) (cP ..) ⟨J4 N,trivial⟩;exact A4
def Abm:=A3 (cQ N)
def Abn:=Cz (cQ N)
def GX (N:Nat) (k0:Int→Int→LA→O R) (r0:Nat→Bool→LA→O R) (b d:Nat) (e f c:LA) (i m:Int):O R :=
 (cond (Ae i b) (Ap .u32 (e.drop (0+((i.toNat)*1))) fun w=>(cond (decide ((wrap .u64 w)<m)) (cond (Ae i b) (cond ((Nat.beq 1 1)&&((Nat.ble ((0+((i.toNat)*1))+1) (c.length))&&(!false))) (k0 1 (wrap .i64 (i+1)) (c.set (0+((i.toNat)*1)) (.int .u32 (wrap .u32 (wrap .u64 ((wrap .u64 ((wrap .u64 w)+4294967296)) - m)))))) none) none) (cond (Ae i b) (cond ((Nat.beq 1 1)&&((Nat.ble ((0+((i.toNat)*1))+1) (c.length))&&(!false))) (k0 0 (wrap .i64 (i+1)) (c.set (0+((i.toNat)*1)) (.int .u32 (wrap .u32 (wrap .u64 ((wrap .u64 w) - m)))))) none) none))) none)
def JU (r0:Nat→Bool→LA→O R) (b d:Nat) (e f:LA) (k0:Int→Int→LA→O R) (q1:Int→Int→O R) (l g:Int) (c:LA):O R :=
 (cond (decide (g<((b:Nat):Int))) (cond (decide (g<((d:Nat):Int))) (cond (Ae g d) (Ap .u32 (f.drop (0+((g.toNat)*1))) fun x=>(q1 g (wrap .u64 (l+(wrap .u64 x))))) none) (q1 g l)) (Ev N (c.take (b*1)) b false true (fun y z=>(r0 y true z))))
def Kx (r0:Nat→Bool→LA→O R) (b d:Nat) (e f:LA):Nat→Int→Int→LA→O R
 | 0,_,_,_=>none
 | n+1,l,g,c=>(JU N r0 b d e f (Kx r0 b d e f n) (fun i m=>(GX N (Kx r0 b d e f n) r0 b d e f c i m)) l g c)
def oP (r0:Nat→Bool→LA→O R) (q0:Nat→Nat→LA→LA→Int→Int→LA→O R) (o:LA) (p:Nat) (u q:Bool) (r:LA) (s:Nat) (v t:Bool):O R :=
 (Uk N o p false q r s false t (fun aa=>(cond (decide (aa<0)) (r0 0 false []) (Ev N o p false q (fun b e=>(Ev N r s false t (fun d f=>(cond ((decide (0≤((b:Nat):Int)))&&((decide (((b:Nat):Int)≤((b:Nat):Int)))&&((decide (((b:Nat):Int)≤140737488355328))&&(decide ((((b:Nat):Int)*((4:Nat):Int))≤140737488355328))))) (q0 b d e f 0 0 (List.replicate b (.int .u32 0))) none))))))))
def JV:=(Ag (fun (N:Nat) (o:LA) (p:Nat) (u q:Bool) (r:LA) (s:Nat) (v t:Bool) (r0:Nat→Bool→LA→O R)=>(oP N r0 (fun b d e f l g c=>(Kx N r0 b d e f N l g c)) o p u q r s v t))).1
theorem uy (o p u q r s v t r0):(@JV R N o p u q r s v t r0)=(oP N r0 (fun b d e f l g c=>(Kx N r0 b d e f N l g c)) o p u q r s v t):=by rw[JV,(Ag _).2]
def Abo:Hints:={ H:=(hS hL (hS hL (hS hL (hS hL (hS hL (hS (hS hL (hS (hP [0,1,6,7,8] (hS hL (hS (hS (hS hL (hJ [0,1,6,8,9] hL hL)) hL) hL))) hL)) hL)))))),nils:=[(4,1)],modes:=[(2,1),(0,0)] }
def Ala:F2:=[(272,Abm N),(150,J3 N)]
def Abp (F:KF R):=Ju Tryz.f209 Abo (Ala N) [] N F
def Tv (F:KF R):Nat→Bool→LA→O R:=(fun ab ac ad=>F (.tup [(.own 300000 0 ab),(.bool ac)]) (hq [(bQ 1 ad)]))
def Azm (b d:Nat) (e f c:LA) (i m:Int):St:=⟨[(0,(.own 300000 0 b)),(1,(.own 300001 0 d)),(6,(.own 300002 0 b)),(8,(iv i)),(9,(.int .u64 m))],(hq [(bQ 1 e),(bQ 1 f),(bQ 1 c)])⟩
def Azn (F:KF R) (Q0:St→O R):=Abp N F [1,1,1,1,1,0,1,0,0,1,0,0,1,1] [Q0]
def Abq (b d:Nat) (e f:LA) (l g:Int) (c:LA):St:=⟨[(0,(.own 300000 0 b)),(1,(.own 300001 0 d)),(6,(.own 300002 0 b)),(7,(.int .u64 l)),(8,(iv g))],(hq [(bQ 1 e),(bQ 1 f),(bQ 1 c)])⟩
def Abr (F:KF R):=Abp N F [1,1,1,1,1,0,1,0] []
theorem Ahd (Q0:St→O R) (F:KF R) (b d:Nat) (e f c:LA):∀ (i m:Int),B5 (Azn N F Q0) (Azm b d e f c i m)=(GX N (fun l g c=>Q0 (Abq b d e f l g c)) (Tv F) b d e f c i m):=by
 intro i m
 kernel_rfl
theorem jT (F:KF R) (b d:Nat) (e f:LA):∀ (n:Nat) (l g:Int) (c:LA),Ak (Abr N F) n (Abq b d e f l g c)=(Kx N (Tv F) b d e f n l g c)
 | 0,_,_,_=>by kernel_rfl
 | n+1,l,g,c=>have e0:=(funext fun l=>funext fun g=>funext fun c=>(jT F b d e f n l g c))
  Eq.trans (by kernel_rfl) (OQ (JU N (Tv F) b d e f · · l g c) e0 (funext fun i=>funext fun m=>(A1 ..).trans ((Ahd N (Ak (Abr N F) n) F b d e f c i m).trans (Bt (GX N · (Tv F) b d e f c i m) e0))):_)
theorem Abs (o:LA) (p:Nat) (u q:Bool) (r:LA) (s:Nat) (v t:Bool) (F:KF R):Cw (Ala N) Abo N 209 [(.imm o p 1 u q),(.imm r s 1 v t)] [] F=(JV N o p u q r s v t (Tv F)):=by
 rw[uy]
 exact Eq.trans (by kernel_rfl) (Bt (oP N (Tv F) · o p u q r s v t) (funext fun b=>funext fun d=>funext fun e=>funext fun f=>funext fun l=>funext fun g=>funext fun c=>(Ad ..).trans (jT N F b d e f N l g c)):_)
def uz (a:LA) (h:Aj) (k:KF R):O R :=
 match a,h with
 | [(.imm o p 1 u q),(.imm r s 1 v t)],[]=>(JV N o p u q r s v t (Tv k))
 | _,_=>none
theorem Abt:An N 209 @uz:=by
 intro R Q a h k j;unfold uz;split;exact A2 (Abs ..) (Abs ..) ⟨Abn N,J4 N,trivial⟩;exact A4
def Abu:=A3 (Abt N)
def Abv:=Cz (Abt N)
def Oe (k1:Nat→Int→LA→LA→O R) (r0:Nat→Nat→Bool→LA→LA→O R) (c:LA) (b:Nat) (e d:Bool) (f:Nat) (i:Int) (g l:LA) (p:Nat) (q:LA):O R :=
 (JV N (q.take (p*1)) p false true (g.take (f*1)) f false true (fun z aa ab=>(cond aa (cond (Ae (wrap .i64 (Int.tdiv i 32)) b) (Ap .u32 (l.drop (0+(((wrap .i64 (Int.tdiv i 32)).toNat)*1))) fun ac=>(cond (decide ((wrap .u64 (Int.tmod i 32))<0)) none (cond (Ae (wrap .i64 (Int.tdiv i 32)) b) (cond ((Nat.beq 1 1)&&((Nat.ble ((0+(((wrap .i64 (Int.tdiv i 32)).toNat)*1))+1) (l.length))&&(!false))) (k1 z (wrap .i64 (i - 1)) (l.set (0+(((wrap .i64 (Int.tdiv i 32)).toNat)*1)) (.int .u32 (uU .u32 ac (wrap .u32 ((1:Int)*2 ^ (min ((wrap .u64 (Int.tmod i 32)).toNat) 32)))))) ab) none) none))) none) (k1 p (wrap .i64 (i - 1)) l q))))
def Vk (r0:Nat→Nat→Bool→LA→LA→O R) (c:LA) (b:Nat) (e d:Bool) (f:Nat) (g:LA) (k1:Nat→Int→LA→LA→O R) (q2:Nat→LA→O R) (m:Nat) (i:Int) (l o:LA):O R :=
 (cond (decide (i≥0)) (JR N (o.take (m*1)) m false true (o.take (m*1)) m false true (fun w x=>(oO N c b false d i (fun ad=>(cond (ad==1) (JR N (x.take (w*1)) w false true [(.int .u32 1)] 1 false true (fun ae af=>(q2 ae af))) (q2 w x)))))) (Ev N (l.take (b*1)) b false true (fun ag ah=>(Ev N (o.take (m*1)) m false true (fun ai aj=>(r0 ag ai true ah aj))))))
def Gj (r0:Nat→Nat→Bool→LA→LA→O R) (c:LA) (b:Nat) (e d:Bool) (f:Nat) (g:LA):Nat→Nat→Int→LA→LA→O R
 | 0,_,_,_,_=>none
 | n+1,m,i,l,o=>(Vk N r0 c b e d f g (Gj r0 c b e d f g n) (fun p q=>(Oe N (Gj r0 c b e d f g n) r0 c b e d f i g l p q)) m i l o)
def GY (r0:Nat→Nat→Bool→LA→LA→O R) (c:LA) (b:Nat) (e d:Bool) (f:Nat) (g:LA) (q1:Nat→Int→LA→LA→O R):O R :=
 (cond ((decide (0≤((b:Nat):Int)))&&((decide (((b:Nat):Int)≤((b:Nat):Int)))&&((decide (((b:Nat):Int)≤140737488355328))&&(decide ((((b:Nat):Int)*((4:Nat):Int))≤140737488355328))))) (PA N c b false d (fun ak=>(q1 0 (wrap .i64 (ak - 1)) (List.replicate b (.int .u32 0)) []))) none)
def R9 (r0:Nat→Nat→Bool→LA→LA→O R) (c:LA) (b:Nat) (e d:Bool) (f:Nat) (g:LA):O R:=(GY N r0 c b e d f g (fun m i l o=>(Gj N r0 c b e d f g N m i l o)))
def JW (r0:Nat→Nat→Bool→LA→LA→O R) (q0:Nat→LA→O R) (c:LA) (b:Nat) (e d:Bool) (r:LA) (s:Nat) (u t:Bool):O R :=
 (Ev N r s false t (fun f g=>(cond (((f:Nat):Int)==0) (r0 0 0 false [] []) (Tt N c b false d (fun y al=>(Tt N (g.take (f*1)) f false true (fun v am=>(cond (al==true) (cond (cond true am false) (cond (v==0) none (Gn N (wrap .u64 (Int.tdiv y v)) (fun an ao=>(cond (v==0) none (Gn N (Int.tmod y v) (fun ap aq=>(r0 an ap true ao aq))))))) (q0 f g)) (q0 f g)))))))))
def Tx:=(Ag (fun (N:Nat) (c:LA) (b:Nat) (e d:Bool) (r:LA) (s:Nat) (u t:Bool) (r0:Nat→Nat→Bool→LA→LA→O R)=>(JW N r0 (fun f g=>(R9 N r0 c b e d f g)) c b e d r s u t))).1
theorem cR (c b e d r s u t r0):(@Tx R N c b e d r s u t r0)=(JW N r0 (fun f g=>(R9 N r0 c b e d f g)) c b e d r s u t):=by rw[Tx,(Ag _).2]
def jU:Hints:={ H:=(hS hL (hS hL (hS hL (hS hL (hJ [0,1,5] hL (hS hL (hS (hS hL (hS (hP [0,1,4,5,11] (hS hL (hS (hS (hS hL (hJ [0,1,4,5,11] hL hL)) hL) hL))) hL)) hL))))))),nils:=[(4,1),(5,1)],modes:=[(2,1),(2,1),(0,0)] }
def oQ:F2:=[(150,J3 N),(89,Aha N),(88,JN N),(206,Atu N),(207,Abd N),(208,Azk N),(209,Abu N)]
def MY (F:KF R):=Ju Tryz.f126 jU (oQ N) [] N F
def Gk (F:KF R):Nat→Nat→Bool→LA→LA→O R:=(fun ar au av aw ax=>F (.tup [(.own 300000 0 ar),(.own 300001 0 au),(.bool av)]) (hq [(bQ 1 aw),(bQ 1 ax)]))
def Ahe (c:LA) (b:Nat) (e d:Bool) (f:Nat) (i:Int) (g l:LA) (p:Nat) (q:LA):St:=⟨[(0,(.imm c b 1 e d)),(1,(.own 300000 0 f)),(4,(.own 300001 0 b)),(5,(.own 300002 0 p)),(11,(iv i))],(hq [(bQ 1 g),(bQ 1 l),(bQ 1 q)])⟩
def Ahf (F:KF R) (Q1:St→O R):=MY N F [1,1,1,1,1,1,0,1,0,0,1,0,0,1,1] [Q1]
def jV (c:LA) (b:Nat) (e d:Bool) (f:Nat) (g:LA) (m:Nat) (i:Int) (l o:LA):St:=⟨[(0,(.imm c b 1 e d)),(1,(.own 300000 0 f)),(4,(.own 300001 0 b)),(5,(.own 300002 0 m)),(11,(iv i))],(hq [(bQ 1 g),(bQ 1 l),(bQ 1 o)])⟩
def jW (F:KF R):=MY N F [1,1,1,1,1,1,0,1,0] []
def Ahg (c:LA) (b:Nat) (e d:Bool) (f:Nat) (g:LA):St:=⟨[(0,(.imm c b 1 e d)),(1,(.own 300000 0 f)),(5,(.own 300001 0 0))],(hq [(bQ 1 g),(bQ 1 [])])⟩
def Ahh (F:KF R):=MY N F [1,1,1,1,1] []
theorem sk (Q1:St→O R) (F:KF R) (c:LA) (b:Nat) (e d:Bool) (f:Nat) (i:Int) (g l:LA):∀ (p:Nat) (q:LA),B5 (Ahf N F Q1) (Ahe c b e d f i g l p q)=(Oe N (fun m i l o=>Q1 (jV c b e d f g m i l o)) (Gk F) c b e d f i g l p q):=by
 intro p q
 kernel_rfl
theorem PB (F:KF R) (c:LA) (b:Nat) (e d:Bool) (f:Nat) (g:LA):∀ (n m:Nat) (i:Int) (l o:LA),Ak (jW N F) n (jV c b e d f g m i l o)=(Gj N (Gk F) c b e d f g n m i l o)
 | 0,_,_,_,_=>by kernel_rfl
 | n+1,m,i,l,o=>have e0:=(funext fun m=>funext fun i=>funext fun l=>funext fun o=>(PB F c b e d f g n m i l o))
  Eq.trans (by kernel_rfl) (OQ (Vk N (Gk F) c b e d f g · · m i l o) e0 (funext fun p=>funext fun q=>(A1 ..).trans ((sk N (Ak (jW N F) n) F c b e d f i g l p q).trans (Bt (Oe N · (Gk F) c b e d f i g l p q) e0))):_)
theorem sn (F:KF R) (c:LA) (b:Nat) (e d:Bool) (f:Nat) (g:LA):B5 (Ahh N F) (Ahg c b e d f g)=(R9 N (Gk F) c b e d f g):=by
 exact Eq.trans (by kernel_rfl) (Bt (GY N (Gk F) c b e d f g ·) (funext fun m=>funext fun i=>funext fun l=>funext fun o=>(Ad ..).trans (PB N F c b e d f g N m i l o)):_)
theorem jX (c:LA) (b:Nat) (e d:Bool) (r:LA) (s:Nat) (u t:Bool) (F:KF R):Cw (oQ N) jU N 126 [(.imm c b 1 e d),(.imm r s 1 u t)] [] F=(Tx N c b e d r s u t (Gk F)):=by
 rw[cR]
 exact Eq.trans (by kernel_rfl) (Bt (JW N (Gk F) · c b e d r s u t) (funext fun f=>funext fun g=>(A1 ..).trans (sn N F c b e d f g)):_)
def cS (a:LA) (h:Aj) (k:KF R):O R :=
 match a,h with
 | [(.imm c b 1 e d),(.imm r s 1 u t)],[]=>(Tx N c b e d r s u t (Gk k))
 | _,_=>none
theorem jY:An N 126 @cS:=by
 intro R Q a h k j;unfold cS;split;exact A2 (jX ..) (jX ..) ⟨J4 N,Ahb N,JO N,Atv N,Abe N,Azl N,Abv N,trivial⟩;exact A4
def jZ:=A3 (jY N)
def j0:=Cz (jY N)
def Ul (r0:Nat→LA→O R) (k0:Nat→Nat→LA→LA→O R) (c b:Nat) (d e:LA):O R :=
 (cond (decide (((b:Nat):Int)>0)) (Tx N (d.take (c*1)) c false true (e.take (b*1)) b false true (fun z r aa ab s=>(k0 b r e s))) (r0 c d))
def Fa (r0:Nat→LA→O R):Nat→Nat→Nat→LA→LA→O R
 | 0,_,_,_,_=>none
 | n+1,c,b,d,e=>(Ul N r0 (Fa r0 n) c b d e)
def oR (r0:Nat→LA→O R) (q0:Nat→Nat→LA→LA→O R) (f:LA) (g:Nat) (p i:Bool) (l:LA) (m:Nat) (q o:Bool):O R :=
 (Ev N f g false i (fun t u=>(Ev N l m false o (fun v w=>(q0 t v u w)))))
def gZ:=(Ag (fun (N:Nat) (f:LA) (g:Nat) (p i:Bool) (l:LA) (m:Nat) (q o:Bool) (r0:Nat→LA→O R)=>(oR N r0 (fun c b d e=>(Fa N r0 N c b d e)) f g p i l m q o))).1
theorem vA (f g p i l m q o r0):(@gZ R N f g p i l m q o r0)=(oR N r0 (fun c b d e=>(Fa N r0 N c b d e)) f g p i l m q o):=by rw[gZ,(Ag _).2]
def Abw:Hints:={ H:=(hS hL (hS hL (hS (hS (hP [0,1] hL) hL) hL))),nils:=[(4,1)],modes:=[(2,1)] }
def Alb:F2:=[(150,J3 N),(126,jZ N)]
def Azo (F:KF R):=Ju Tryz.f221 Abw (Alb N) [] N F
def GZ (F:KF R):Nat→LA→O R:=(fun x y=>F (.own 300000 0 x) (hq [(bQ 1 y)]))
def Azp (c b:Nat) (d e:LA):St:=⟨[(0,(.own 300000 0 c)),(1,(.own 300001 0 b))],(hq [(bQ 1 d),(bQ 1 e)])⟩
def Azq (F:KF R):=Azo N F [1,1,0,0] []
theorem j1 (F:KF R):∀ (n:Nat) (c b:Nat) (d e:LA),Ak (Azq N F) n (Azp c b d e)=(Fa N (GZ F) n c b d e)
 | 0,_,_,_,_=>by kernel_rfl
 | n+1,c,b,d,e=>Eq.trans (by kernel_rfl) (Bt (Ul N (GZ F) · c b d e) (funext fun c=>funext fun b=>funext fun d=>funext fun e=>(j1 F n c b d e)):_)
theorem Abx (f:LA) (g:Nat) (p i:Bool) (l:LA) (m:Nat) (q o:Bool) (F:KF R):Cw (Alb N) Abw N 221 [(.imm f g 1 p i),(.imm l m 1 q o)] [] F=(gZ N f g p i l m q o (GZ F)):=by
 rw[vA]
 exact Eq.trans (by kernel_rfl) (Bt (oR N (GZ F) · f g p i l m q o) (funext fun c=>funext fun b=>funext fun d=>funext fun e=>(Ad ..).trans (j1 N F N c b d e)):_)
def vB (a:LA) (h:Aj) (k:KF R):O R :=
 match a,h with
 | [(.imm f g 1 p i),(.imm l m 1 q o)],[]=>(gZ N f g p i l m q o (GZ k))
 | _,_=>none
theorem Aby:An N 221 @vB:=by
 intro R Q a h k j;unfold vB;split;exact A2 (Abx ..) (Abx ..) ⟨J4 N,j0 N,trivial⟩;exact A4
def Azr:=A3 (Aby N)
def Azs:=Cz (Aby N)
def Abz (b:LA) (c:Bool) (d:LA) (e:Bool) (r0:LA→O R):O R :=
 (Br 1 (b.drop 1) fun i l=>(Br 1 (d.drop 1) fun m n=>(gZ N i l false c m n false e (fun g o=>(It N false (o.take (g*1)) g false true (fun f=>(cond ((Nat.beq 0 0)&&((Nat.beq (f.length) 2)&&(Nat.beq 2 2))) (cond (Nat.ble 2 (f.length)) (r0 (f.take 2)) none) none)))))))
def oS:=(Ag (@Abz R)).1
theorem vC:@oS R=@Abz R:=(Ag _).2
def A4o:F2:=[(221,Azr N),(83,Pl N)]
def Ab0 (F:KF R):LA→O R:=(fun p=>F (.pagg p false) [])
theorem Ab1 (b:LA) (c:Bool) (d:LA) (e:Bool) (F:KF R):Cw (A4o N) iy N 152 [(.pagg b c),(.pagg d e)] [] F=(oS N b c d e (Ab0 F)):=by
 rw[vC]
 kernel_rfl
def vD (a:LA) (h:Aj) (k:KF R):O R :=
 match a,h with
 | [(.pagg b c),(.pagg d e)],[]=>(oS N b c d e (Ab0 k))
 | _,_=>none
theorem Ab2:An N 152 @vD:=by
 intro R Q a h k j;unfold vD;split;exact A2 (Ab1 ..) (Ab1 ..) ⟨Azs N,Pm N,trivial⟩;exact A4
def Azt:=A3 (Ab2 N)
def Azu:=Cz (Ab2 N)
def Atw (b:LA) (c:Bool) (r0:LA→O R):O R :=
 (Br 1 (b.drop 1) fun e f=>(It N false e f false c (fun d=>(cond ((Nat.beq 0 0)&&((Nat.beq (d.length) 2)&&(Nat.beq 2 2))) (cond (Nat.ble 2 (d.length)) (r0 (d.take 2)) none) none))))
def zB:=(Ag (@Atw R)).1
theorem Atx:@zB R=@Atw R:=(Ag _).2
def A4p:F2:=[(83,Pl N)]
def Ab3 (F:KF R):LA→O R:=(fun g=>F (.pagg g false) [])
theorem Ab4 (b:LA) (c:Bool) (F:KF R):Cw (A4p N) iy N 140 [(.pagg b c)] [] F=(zB N b c (Ab3 F)):=by
 rw[Atx]
 kernel_rfl
def vE (a:LA) (h:Aj) (k:KF R):O R :=
 match a,h with
 | [(.pagg b c)],[]=>(zB N b c (Ab3 k))
 | _,_=>none
theorem Ab5:An N 140 @vE:=by
 intro R Q a h k j;unfold vE;split;exact A2 (Ab4 ..) (Ab4 ..) ⟨Pm N,trivial⟩;exact A4
def Azv:=A3 (Ab5 N)
def Azw:=Cz (Ab5 N)
def Aty (b:LA) (d:Bool) (c:LA) (e:Bool) (r0:LA→O R):O R :=
 (bW b fun o=>(bW c fun p=>(cond (o==p) (bW b fun q=>(Br 1 (b.drop 1) fun r s=>(Br 1 (c.drop 1) fun t u=>(JR N r s false d t u false e (fun l v=>(It N q (v.take (l*1)) l false true (fun f=>(cond ((Nat.beq 0 0)&&((Nat.beq (f.length) 2)&&(Nat.beq 2 2))) (cond (Nat.ble 2 (f.length)) (r0 (f.take 2)) none) none)))))))) (Br 1 (b.drop 1) fun w x=>(Br 1 (c.drop 1) fun y z=>(JV N w x false d y z false e (fun m aa ab=>(cond aa (bW b fun ac=>(It N ac (ab.take (m*1)) m false true (fun g=>(cond ((Nat.beq 0 0)&&((Nat.beq (g.length) 2)&&(Nat.beq 2 2))) (cond (Nat.ble 2 (g.length)) (r0 (g.take 2)) none) none)))) (Br 1 (c.drop 1) fun ad ae=>(Br 1 (b.drop 1) fun af ag=>(JV N ad ae false e af ag false d (fun n ak ah=>(bW c fun ai=>(It N ai (ah.take (n*1)) n false true (fun i=>(cond ((Nat.beq 0 0)&&((Nat.beq (i.length) 2)&&(Nat.beq 2 2))) (cond (Nat.ble 2 (i.length)) (r0 (i.take 2)) none) none))))))))))))))))
def g8:=(Ag (@Aty R)).1
theorem Atz:@g8 R=@Aty R:=(Ag _).2
def A4q:F2:=[(207,Abd N),(83,Pl N),(209,Abu N)]
def Ab6 (F:KF R):LA→O R:=(fun aj=>F (.pagg aj false) [])
theorem Ab7 (b:LA) (d:Bool) (c:LA) (e:Bool) (F:KF R):Cw (A4q N) iy N 139 [(.pagg b d),(.pagg c e)] [] F=(g8 N b d c e (Ab6 F)):=by
 rw[Atz]
 kernel_rfl
def vF (a:LA) (h:Aj) (k:KF R):O R :=
 match a,h with
 | [(.pagg b d),(.pagg c e)],[]=>(g8 N b d c e (Ab6 k))
 | _,_=>none
theorem Ab8:An N 139 @vF:=by
 intro R Q a h k j;unfold vF;split;exact A2 (Ab7 ..) (Ab7 ..) ⟨Abe N,Pm N,Abv N,trivial⟩;exact A4
def Ab9:=A3 (Ab8 N)
def Aca:=Cz (Ab8 N)
def At0 (b:LA) (c:Bool) (r0:LA→O R):O R :=
 (bW b fun e=>(Br 1 (b.drop 1) fun f g=>(It N (!e) f g false c (fun d=>(cond ((Nat.beq 0 0)&&((Nat.beq (d.length) 2)&&(Nat.beq 2 2))) (cond (Nat.ble 2 (d.length)) (r0 (d.take 2)) none) none)))))
def g9:=(Ag (@At0 R)).1
theorem At1:@g9 R=@At0 R:=(Ag _).2
def A4r:F2:=[(83,Pl N)]
def Acb (F:KF R):LA→O R:=(fun i=>F (.pagg i false) [])
theorem Acc (b:LA) (c:Bool) (F:KF R):Cw (A4r N) iy N 153 [(.pagg b c)] [] F=(g9 N b c (Acb F)):=by
 rw[At1]
 kernel_rfl
def vG (a:LA) (h:Aj) (k:KF R):O R :=
 match a,h with
 | [(.pagg b c)],[]=>(g9 N b c (Acb k))
 | _,_=>none
theorem Acd:An N 153 @vG:=by
 intro R Q a h k j;unfold vG;split;exact A2 (Acc ..) (Acc ..) ⟨Pm N,trivial⟩;exact A4
def Ace:=A3 (Acd N)
def Acf:=Cz (Acd N)
def At2 (b:LA) (d:Bool) (c:LA) (e:Bool) (r0:LA→O R):O R :=
 (cond (Nat.ble 2 (b.length)) (cond (Nat.ble 2 (c.length)) (g9 N (c.take 2) e (fun g=>(g8 N (b.take 2) d g false (fun f=>(cond ((Nat.beq 0 0)&&((Nat.beq (f.length) 2)&&(Nat.beq 2 2))) (cond (Nat.ble 2 (f.length)) (r0 (f.take 2)) none) none))))) none) none)
def zC:=(Ag (@At2 R)).1
theorem At3:@zC R=@At2 R:=(Ag _).2
def A4s:F2:=[(153,Ace N),(139,Ab9 N)]
def Acg (F:KF R):LA→O R:=(fun i=>F (.pagg i false) [])
theorem Ach (b:LA) (d:Bool) (c:LA) (e:Bool) (F:KF R):Cw (A4s N) iy N 141 [(.pagg b d),(.pagg c e)] [] F=(zC N b d c e (Acg F)):=by
 rw[At3]
 kernel_rfl
def vH (a:LA) (h:Aj) (k:KF R):O R :=
 match a,h with
 | [(.pagg b d),(.pagg c e)],[]=>(zC N b d c e (Acg k))
 | _,_=>none
theorem Aci:An N 141 @vH:=by
 intro R Q a h k j;unfold vH;split;exact A2 (Ach ..) (Ach ..) ⟨Acf N,Aca N,trivial⟩;exact A4
def Azx:=A3 (Aci N)
def Azy:=Cz (Aci N)
end
end Gx

namespace Gx
open Go Go.Proofs
open IntKind (wrap)
set_option maxRecDepth 100000
noncomputable section
variable {R:Type} (N:Nat)
def cT (f:LA) (m:Bool) (e:LA) (l:Bool) (r0:LA→LA→Bool→O R):O R :=
 (Br 1 (f.drop 1) fun p q=>(Br 1 (e.drop 1) fun r s=>(Tx N p q false m r s false l (fun n o t u v=>(cond (!t) (r0 [(.bool false),.nsl] [(.bool false),.nsl] false) (bW f fun w=>(bW e fun x=>(It N (!(w==x)) (u.take (n*1)) n false true (fun b=>(bW f fun y=>(It N y (v.take (o*1)) o false true (fun c=>(cond ((Nat.beq 0 0)&&((Nat.beq (b.length) 2)&&(Nat.beq 2 2))) (cond ((Nat.beq 0 0)&&((Nat.beq (c.length) 2)&&(Nat.beq 2 2))) (bW c fun z=>(cond z (cond (Nat.ble 2 (c.length)) (cond (Nat.ble 2 (e.length)) (zB N (e.take 2) l (fun aa=>(g8 N (c.take 2) false aa false (fun d=>(cond ((Nat.beq (d.length) 2)&&((Nat.ble 2 (c.length))&&(!false))) (bW e fun ab=>(cond ab (cond (Nat.ble 2 (b.length)) (Mf N 1 (fun ac=>(g8 N (b.take 2) false ac false (fun g=>(cond ((Nat.beq (g.length) 2)&&((Nat.ble 2 (b.length))&&(!false))) (cond (Nat.ble 2 ((setCells b 0 g).length)) (cond (Nat.ble 2 ((setCells c 0 d).length)) (cond ((Nat.beq (((setCells b 0 g).take 2).length) 2)&&((Nat.ble 2 ((setCells b 0 g).length))&&(!false))) (cond ((Nat.beq (((setCells c 0 d).take 2).length) 2)&&((Nat.ble 2 ((setCells c 0 d).length))&&(!false))) (cond (Nat.ble 2 ((setCells (setCells b 0 g) 0 ((setCells b 0 g).take 2)).length)) (cond (Nat.ble 2 ((setCells (setCells c 0 d) 0 ((setCells c 0 d).take 2)).length)) (r0 ((setCells (setCells b 0 g) 0 ((setCells b 0 g).take 2)).take 2) ((setCells (setCells c 0 d) 0 ((setCells c 0 d).take 2)).take 2) true) none) none) none) none) none) none) none))))) none) (cond (Nat.ble 2 (b.length)) (Mf N 1 (fun ad=>(zC N (b.take 2) false ad false (fun i=>(cond ((Nat.beq (i.length) 2)&&((Nat.ble 2 (b.length))&&(!false))) (cond (Nat.ble 2 ((setCells b 0 i).length)) (cond (Nat.ble 2 ((setCells c 0 d).length)) (cond ((Nat.beq (((setCells b 0 i).take 2).length) 2)&&((Nat.ble 2 ((setCells b 0 i).length))&&(!false))) (cond ((Nat.beq (((setCells c 0 d).take 2).length) 2)&&((Nat.ble 2 ((setCells c 0 d).length))&&(!false))) (cond (Nat.ble 2 ((setCells (setCells b 0 i) 0 ((setCells b 0 i).take 2)).length)) (cond (Nat.ble 2 ((setCells (setCells c 0 d) 0 ((setCells c 0 d).take 2)).length)) (r0 ((setCells (setCells b 0 i) 0 ((setCells b 0 i).take 2)).take 2) ((setCells (setCells c 0 d) 0 ((setCells c 0 d).take 2)).take 2) true) none) none) none) none) none) none) none))))) none))) none))))) none) none) (cond (Nat.ble 2 (b.length)) (cond (Nat.ble 2 (c.length)) (cond ((Nat.beq ((b.take 2).length) 2)&&((Nat.ble 2 (b.length))&&(!false))) (cond ((Nat.beq ((c.take 2).length) 2)&&((Nat.ble 2 (c.length))&&(!false))) (cond (Nat.ble 2 ((setCells b 0 (b.take 2)).length)) (cond (Nat.ble 2 ((setCells c 0 (c.take 2)).length)) (r0 ((setCells b 0 (b.take 2)).take 2) ((setCells c 0 (c.take 2)).take 2) true) none) none) none) none) none) none))) none) none)))))))))))))
def Xx:=(Ag (@cT R)).1
theorem cU:@Xx R=@cT R:=(Ag _).2
def Aok:F2:=[(126,jZ N),(83,Pl N),(140,Azv N),(139,Ab9 N),(32,cH N),(141,Azx N)]
def j2 (F:KF R):LA→LA→Bool→O R:=(fun ae af ag=>F (.tup [(.pagg ae false),(.pagg af false),(.bool ag)]) [])
theorem j3 (f:LA) (m:Bool) (e:LA) (l:Bool) (F:KF R):Cw (Aok N) Ba4 N 71 [(.pagg f m),(.pagg e l)] [] F=(Xx N f m e l (j2 F)):=by
 rw[cU]
 kernel_rfl
def cV (a:LA) (h:Aj) (k:KF R):O R :=
 match a,h with
 | [(.pagg f m),(.pagg e l)],[]=>(Xx N f m e l (j2 k))
 | _,_=>none
theorem j4:An N 71 @cV:=by
 intro R Q a h k j;unfold cV;split;exact A2 (j3 ..) (j3 ..) ⟨j0 N,Pm N,Azw N,Aca N,cI N,Azy N,trivial⟩;exact A4
def Ahi:=A3 (j4 N)
def Ahj:=Cz (j4 N)
def JX (r0:LA→O R) (e:Bool) (c:LA) (d:Bool) (b:LA):O R :=
 (cond (Nat.ble 2 (c.length)) (cond (Nat.ble 2 (b.length)) (oS N (c.take 2) e (b.take 2) d (fun l=>(cond ((Nat.beq 0 0)&&((Nat.beq (l.length) 2)&&(Nat.beq 2 2))) (cond (Nat.ble 2 (c.length)) (cond (Nat.ble 2 (l.length)) (Xx N (c.take 2) e (l.take 2) false (fun f w af=>(cond ((Nat.beq 0 0)&&((Nat.beq (f.length) 2)&&(Nat.beq 2 2))) (cond ((Nat.beq 0 0)&&((Nat.beq (w.length) 2)&&(Nat.beq 2 2))) (cond (Nat.ble 2 (b.length)) (cond (Nat.ble 2 (l.length)) (Xx N (b.take 2) d (l.take 2) false (fun g x ag=>(cond ((Nat.beq 0 0)&&((Nat.beq (g.length) 2)&&(Nat.beq 2 2))) (cond ((Nat.beq 0 0)&&((Nat.beq (x.length) 2)&&(Nat.beq 2 2))) (bW g fun y=>(cond y (cond (Nat.ble 2 (f.length)) (g9 N (f.take 2) false (fun i=>(cond (Nat.ble 2 (g.length)) (g9 N (g.take 2) false (fun v=>(cond ((Nat.beq (i.length) 2)&&((Nat.ble 2 (f.length))&&(!false))) (cond ((Nat.beq (v.length) 2)&&((Nat.ble 2 (g.length))&&(!false))) (cond (Nat.ble 2 ((setCells f 0 i).length)) (Br 1 ((setCells g 0 v).drop 1) fun o p=>(cond ((Nat.beq (((setCells f 0 i).take 2).length) 2)&&(Nat.ble 2 3)) (cond ((Nat.beq 1 1)&&(Nat.ble 3 ((setCells [(.bool false),.nsl,.nsl] 0 ((setCells f 0 i).take 2)).length))) (cond ((Nat.beq 0 0)&&((Nat.beq (((setCells [(.bool false),.nsl,.nsl] 0 ((setCells f 0 i).take 2)).set 2 (.imm o p 1 false false)).length) 3)&&(Nat.beq 3 3))) (cond (Nat.ble 3 (((setCells [(.bool false),.nsl,.nsl] 0 ((setCells f 0 i).take 2)).set 2 (.imm o p 1 false false)).length)) (r0 (((setCells [(.bool false),.nsl,.nsl] 0 ((setCells f 0 i).take 2)).set 2 (.imm o p 1 false false)).take 3)) none) none) none) none)) none) none) none))) none))) none) (cond (Nat.ble 2 (f.length)) (Br 1 (g.drop 1) fun q r=>(cond ((Nat.beq ((f.take 2).length) 2)&&(Nat.ble 2 3)) (cond ((Nat.beq 1 1)&&(Nat.ble 3 ((setCells [(.bool false),.nsl,.nsl] 0 (f.take 2)).length))) (cond ((Nat.beq 0 0)&&((Nat.beq (((setCells [(.bool false),.nsl,.nsl] 0 (f.take 2)).set 2 (.imm q r 1 false false)).length) 3)&&(Nat.beq 3 3))) (cond (Nat.ble 3 (((setCells [(.bool false),.nsl,.nsl] 0 (f.take 2)).set 2 (.imm q r 1 false false)).length)) (r0 (((setCells [(.bool false),.nsl,.nsl] 0 (f.take 2)).set 2 (.imm q r 1 false false)).take 3)) none) none) none) none)) none))) none) none))) none) none) none) none))) none) none) none))) none) none)
def g_ (r0:LA→O R) (q0:O R) (c:LA) (e:Bool) (b:LA) (d:Bool):O R :=
 (cond (Nat.ble 2 (b.length)) (cJ N (b.take 2) d (fun z=>(cond (z==0) (Z5 N (fun s=>(cond ((Nat.beq 0 0)&&((Nat.beq (s.length) 3)&&(Nat.beq 3 3))) (cond (Nat.ble 3 (s.length)) (r0 (s.take 3)) none) none))) (cond (Nat.ble 2 (b.length)) (GV N (b.take 2) d (fun n=>(cond ((Nat.beq 0 0)&&((Nat.beq (n.length) 2)&&(Nat.beq 2 2))) (bW n fun aa=>(cond ((!aa)==true) (Br 1 (n.drop 1) fun ab ac=>(FS N ab ac false false [(.int .u32 1)] 1 false true (fun ad=>(cond (cond true ad false) (cond (Nat.ble 2 (c.length)) (GV N (c.take 2) e (fun m=>(Br 1 (n.drop 1) fun t u=>(cond ((Nat.beq (m.length) 2)&&(Nat.ble 2 3)) (cond ((Nat.beq 1 1)&&(Nat.ble 3 ((setCells [(.bool false),.nsl,.nsl] 0 m).length))) (cond ((Nat.beq 0 0)&&((Nat.beq (((setCells [(.bool false),.nsl,.nsl] 0 m).set 2 (.imm t u 1 false false)).length) 3)&&(Nat.beq 3 3))) (cond (Nat.ble 3 (((setCells [(.bool false),.nsl,.nsl] 0 m).set 2 (.imm t u 1 false false)).length)) (r0 (((setCells [(.bool false),.nsl,.nsl] 0 m).set 2 (.imm t u 1 false false)).take 3)) none) none) none) none)))) none) q0)))) q0)) none))) none)))) none)
def G_:=(Ag (fun (N:Nat) (c:LA) (e:Bool) (b:LA) (d:Bool) (r0:LA→O R)=>(g_ N r0 (JX N r0 e c d b) c e b d))).1
theorem oT (c e b d r0):(@G_ R N c e b d r0)=(g_ N r0 (JX N r0 e c d b) c e b d):=by rw[G_,(Ag _).2]
def vI:Hints:={ H:=(hS hL (hS hL (hJ [2,3,4] hL hL))),modes:=[(3,0)] }
def Acj:F2:=[(138,Atp N),(151,cK N),(26,ue N),(65,Aoi N),(152,Azt N),(71,Ahi N),(153,Ace N)]
def At4 (F:KF R):=Ju Tryz.f84 vI (Acj N) [] N F
def JY (F:KF R):LA→O R:=(fun ae=>F (.pagg ae false) [])
def At5 (e:Bool) (c:LA) (d:Bool) (b:LA):St:=⟨[(2,(op 0)),(3,(op 1)),(4,(op 2))],(hq [(bP e 0 c),(bP d 0 b),(bN 0 [(.bool false),.nsl,.nsl])])⟩
def At6 (F:KF R):=At4 N F [1,1,1] []
theorem Ack (F:KF R) (e:Bool) (c:LA) (d:Bool) (b:LA):B5 (At6 N F) (At5 e c d b)=(JX N (JY F) e c d b):=by
 kernel_rfl
theorem vJ (c:LA) (e:Bool) (b:LA) (d:Bool) (F:KF R):Cw (Acj N) vI N 84 [(.pagg c e),(.pagg b d)] [] F=(G_ N c e b d (JY F)):=by
 rw[oT]
 exact Eq.trans (by kernel_rfl) (Bt (g_ N (JY F) · c e b d) ((A1 ..).trans (Ack N F e c d b)):_)
def oU (a:LA) (h:Aj) (k:KF R):O R :=
 match a,h with
 | [(.pagg c e),(.pagg b d)],[]=>(G_ N c e b d (JY k))
 | _,_=>none
theorem vK:An N 84 @oU:=by
 intro R Q a h k j;unfold oU;split;exact A2 (vJ ..) (vJ ..) ⟨Atq N,cL N,uf N,Aoj N,Azu N,Ahj N,Acf N,trivial⟩;exact A4
def At7:=A3 (vK N)
def At8:=Cz (vK N)
def Po (N:Nat) (r0:Int→Bool→O R) (d:Int) (c:Bool) (b:LA) (e:Bool):O R :=
 (cond e (r0 (wrap .i64 (wrap .u64 ((0:Int) - d))) true) (bW b fun f=>(cond ((!f)==true) (cond (cond true (decide (d<9223372036854775808)) false) (r0 (wrap .i64 d) true) (r0 0 false)) (r0 0 false))))
def PC (r0:Int→Bool→O R) (q0:Int→Bool→O R) (b:LA) (c:Bool):O R :=
 (Br 1 (b.drop 1) fun g i=>(FR N g i false c (fun d l=>(cond (!l) (r0 0 false) (bW b fun m=>(cond (m==true) (q0 d (cond true (decide (d≤9223372036854775808)) false)) (q0 d false)))))))
def Z7:=(Ag (fun (N:Nat) (b:LA) (c:Bool) (r0:Int→Bool→O R)=>(PC N r0 (fun d e=>(Po N r0 d c b e)) b c))).1
theorem TL (b c r0):(@Z7 R N b c r0)=(PC N r0 (fun d e=>(Po N r0 d c b e)) b c):=by rw[Z7,(Ag _).2]
def vL:Hints:={ H:=(hS hL (hS hL (hS (hS (hS hL (hS hL (hJ [1,4,15] hL hL))) hL) hL))) }
def Acl:F2:=[(210,Aod N)]
def At9 (F:KF R):=Ju Tryz.f201 vL (Acl N) [] N F
def JZ (F:KF R):Int→Bool→O R:=(fun n o=>F (.tup [(iv n),(.bool o)]) [])
def Aua (d:Int) (c:Bool) (b:LA) (e:Bool):St:=⟨[(1,(op 0)),(4,(.int .u64 d)),(15,(.bool e))],(hq [(bP c 0 b)])⟩
def Aub (F:KF R):=At9 N F [1,1,0,0,1,1,1] []
theorem Acm (F:KF R) (d:Int) (c:Bool) (b:LA):∀ (e:Bool),B5 (Aub N F) (Aua d c b e)=(Po N (JZ F) d c b e):=by
 intro e
 kernel_rfl
theorem vM (b:LA) (c:Bool) (F:KF R):Cw (Acl N) vL N 201 [(.pagg b c)] [] F=(Z7 N b c (JZ F)):=by
 rw[TL]
 exact Eq.trans (by kernel_rfl) (Bt (PC N (JZ F) · b c) (funext fun d=>funext fun e=>(A1 ..).trans (Acm N F d c b e)):_)
def oV (a:LA) (h:Aj) (k:KF R):O R :=
 match a,h with
 | [(.pagg b c)],[]=>(Z7 N b c (JZ k))
 | _,_=>none
theorem vN:An N 201 @oV:=by
 intro R Q a h k j;unfold oV;split;exact A2 (vM ..) (vM ..) ⟨Aoe N,trivial⟩;exact A4
def Auc:=A3 (vN N)
def Aud:=Cz (vN N)
def TM (b:Int) (r0:LA→O R):O R :=
 (Mf N b (fun d=>(Mf N 1 (fun e=>(G_ N d false e false (fun c=>(cond ((Nat.beq 0 0)&&((Nat.beq (c.length) 3)&&(Nat.beq 3 3))) (cond (Nat.ble 3 (c.length)) (r0 (c.take 3)) none) none)))))))
def Z8:=(Ag (@TM R)).1
theorem WO:@Z8 R=@TM R:=(Ag _).2
def Ahk:F2:=[(32,cH N),(84,At7 N)]
def cW (F:KF R):LA→O R:=(fun f=>F (.pagg f false) [])
theorem cX (b:Int) (F:KF R):Cw (Ahk N) iy N 94 [(iv b)] [] F=(Z8 N b (cW F)):=by
 rw[WO]
 kernel_rfl
def WP (a:LA) (h:Aj) (k:KF R):O R :=
 match a,h with
 | [(.int .i64 b)],[]=>(Z8 N b (cW k))
 | _,_=>none
theorem cY:An N 94 @WP:=by
 intro R Q a h k j;unfold WP;split;exact A2 (cX ..) (cX ..) ⟨cI N,At8 N,trivial⟩;exact A4
def Acn:=A3 (cY N)
def Aco:=Cz (cY N)
end
end Gx

namespace Go.Proofs
open Go.Shelf Go.RowKit
open Go.RowKit
def Tryz.laysM171_ren : Go.Shelf.Ren := ⟨fun | 171 => 114 | 243 => 192 | 246 => 257 | 283 => 293 | 284 => 294 | 285 => 295 | 286 => 296 | 129 => 310 | 317 => 309 | 318 => 311 | 319 => 312 | 320 => 313 | 337 => 318 | 338 => 319 | n => n, fun | 3 => 3 | 9 => 9 | 2 => 2 | 4 => 4 | 171 => 315 | 0 => 0 | 53 => 114 | 37 => 56 | 5 => 5 | 173 => 318 | 212 => 333 | 51 => 97 | 20 => 20 | 213 => 334 | 46 => 204 | 232 => 345 | 233 => 346 | n => n, fun | 17 => 3 | 18 => 6 | 19 => 7 | n => n⟩
theorem Tryz.laysM171 : Go.Proofs.LaysM.n171 Tryz.prog Tryz.laysM171_ren := {
  mixed := by kernel_rfl
  f129 := Tryz.func310.trans (congrArg some (by kernel_rfl))
  f171 := Tryz.func114.trans (congrArg some (by kernel_rfl))
  f243 := Tryz.func192.trans (congrArg some (by kernel_rfl))
  f246 := Tryz.func257.trans (congrArg some (by kernel_rfl))
  f283 := Tryz.func293.trans (congrArg some (by kernel_rfl))
  f284 := Tryz.func294.trans (congrArg some (by kernel_rfl))
  f285 := Tryz.func295.trans (congrArg some (by kernel_rfl))
  f286 := Tryz.func296.trans (congrArg some (by kernel_rfl))
  f317 := Tryz.func309.trans (congrArg some (by kernel_rfl))
  f318 := Tryz.func311.trans (congrArg some (by kernel_rfl))
  f319 := Tryz.func312.trans (congrArg some (by kernel_rfl))
  f320 := Tryz.func313.trans (congrArg some (by kernel_rfl))
  f337 := Tryz.func318.trans (congrArg some (by kernel_rfl))
  f338 := Tryz.func319.trans (congrArg some (by kernel_rfl))
  t0 := Tryz.underlying0
  a0 := Tryz.isAgg0
  z0 := Tryz.sizeOf0
  v0 := Tryz.zeroValue0
  t2 := Tryz.underlying2
  a2 := Tryz.isAgg2
  z2 := Tryz.sizeOf2
  v2 := Tryz.zeroValue2
  t3 := Tryz.underlying3
  a3 := Tryz.isAgg3
  z3 := Tryz.sizeOf3
  v3 := Tryz.zeroValue3
  t4 := Tryz.underlying4
  a4 := Tryz.isAgg4
  z4 := Tryz.sizeOf4
  v4 := Tryz.zeroValue4
  t5 := Tryz.underlying5
  a5 := Tryz.isAgg5
  z5 := Tryz.sizeOf5
  v5 := Tryz.zeroValue5
  t9 := Tryz.underlying9
  a9 := Tryz.isAgg9
  z9 := Tryz.sizeOf9
  v9 := Tryz.zeroValue9
  t20 := Tryz.underlying20
  a20 := Tryz.isAgg20
  z20 := Tryz.sizeOf20
  v20 := Tryz.zeroValue20
  t37 := Tryz.underlying56
  a37 := Tryz.isAgg56
  z37 := Tryz.sizeOf56
  v37 := Tryz.zeroValue56
  t46 := Tryz.underlying204
  a46 := Tryz.isAgg204
  z46 := Tryz.sizeOf204
  v46 := Tryz.zeroValue204
  t51 := Tryz.underlying97
  a51 := Tryz.isAgg97
  z51 := Tryz.sizeOf97
  v51 := Tryz.zeroValue97
  t53 := Tryz.underlying114
  a53 := Tryz.isAgg114
  z53 := Tryz.sizeOf114
  v53 := Tryz.zeroValue114
  t171 := Tryz.underlying315
  a171 := Tryz.isAgg315
  z171 := Tryz.sizeOf315
  v171 := Tryz.zeroValue315
  t173 := Tryz.underlying318
  a173 := Tryz.isAgg318
  z173 := Tryz.sizeOf318
  v173 := Tryz.zeroValue318
  t212 := Tryz.underlying333
  a212 := Tryz.isAgg333
  z212 := Tryz.sizeOf333
  v212 := Tryz.zeroValue333
  t213 := Tryz.underlying334
  a213 := Tryz.isAgg334
  z213 := Tryz.sizeOf334
  t232 := Tryz.underlying345
  a232 := Tryz.isAgg345
  z232 := Tryz.sizeOf345
  v232 := Tryz.zeroValue345
  t233 := Tryz.underlying346
  a233 := Tryz.isAgg346
  z233 := Tryz.sizeOf346
  v233 := Tryz.zeroValue346
  g17 := by kernel_rfl
  g18 := by kernel_rfl
  g19 := by kernel_rfl
  i0 := by kernel_rfl
  i2 := by kernel_rfl
  i3 := by kernel_rfl
  i4 := by kernel_rfl
  i5 := by kernel_rfl
  i9 := by kernel_rfl
  i20 := by kernel_rfl
  i37 := by kernel_rfl
  i46 := by kernel_rfl
  i51 := by kernel_rfl
  i53 := by kernel_rfl
  i171 := by kernel_rfl
  i173 := by kernel_rfl
  i212 := by kernel_rfl
  i232 := by kernel_rfl
  i233 := by kernel_rfl
  m17 := by kernel_rfl
  m18 := by kernel_rfl
  m19 := by kernel_rfl }
def Tryz.laysC172_ren : Go.Shelf.Ren := ⟨fun | 172 => 147 | 244 => 219 | 245 => 220 | 247 => 279 | 279 => 280 | 280 => 281 | 281 => 282 | 282 => 283 | 287 => 300 | 316 => 301 | 171 => 114 | 205 => 302 | 321 => 315 | 322 => 316 | 243 => 192 | 246 => 257 | 283 => 293 | 284 => 294 | 285 => 295 | 286 => 296 | 129 => 310 | 317 => 309 | 318 => 311 | 319 => 312 | 320 => 313 | 337 => 318 | 338 => 319 | n => n, fun | 9 => 9 | 3 => 3 | 75 => 175 | 76 => 176 | 4 => 4 | 5 => 5 | 167 => 308 | 37 => 56 | 0 => 0 | 85 => 309 | 2 => 2 | 168 => 311 | 53 => 114 | 175 => 322 | 46 => 204 | 210 => 326 | 127 => 246 | 145 => 340 | 143 => 338 | 21 => 21 | 171 => 315 | 173 => 318 | 212 => 333 | 51 => 97 | 20 => 20 | 213 => 334 | 232 => 345 | 233 => 346 | 80 => 181 | n => n, fun | 15 => 1 | 16 => 2 | 17 => 3 | 18 => 6 | 19 => 7 | n => n⟩
theorem Tryz.laysC172 : Go.Proofs.LaysC.n172 Tryz.prog Tryz.laysC172_ren := {
  mixed := by kernel_rfl
  f129 := Tryz.func310.trans (congrArg some (by kernel_rfl))
  f171 := Tryz.func114.trans (congrArg some (by kernel_rfl))
  f172 := Tryz.func147.trans (congrArg some (by kernel_rfl))
  f205 := Tryz.func302.trans (congrArg some (by kernel_rfl))
  f243 := Tryz.func192.trans (congrArg some (by kernel_rfl))
  f244 := Tryz.func219.trans (congrArg some (by kernel_rfl))
  f245 := Tryz.func220.trans (congrArg some (by kernel_rfl))
  f246 := Tryz.func257.trans (congrArg some (by kernel_rfl))
  f247 := Tryz.func279.trans (congrArg some (by kernel_rfl))
  f279 := Tryz.func280.trans (congrArg some (by kernel_rfl))
  f280 := Tryz.func281.trans (congrArg some (by kernel_rfl))
  f281 := Tryz.func282.trans (congrArg some (by kernel_rfl))
  f282 := Tryz.func283.trans (congrArg some (by kernel_rfl))
  f283 := Tryz.func293.trans (congrArg some (by kernel_rfl))
  f284 := Tryz.func294.trans (congrArg some (by kernel_rfl))
  f285 := Tryz.func295.trans (congrArg some (by kernel_rfl))
  f286 := Tryz.func296.trans (congrArg some (by kernel_rfl))
  f287 := Tryz.func300.trans (congrArg some (by kernel_rfl))
  f316 := Tryz.func301.trans (congrArg some (by kernel_rfl))
  f317 := Tryz.func309.trans (congrArg some (by kernel_rfl))
  f318 := Tryz.func311.trans (congrArg some (by kernel_rfl))
  f319 := Tryz.func312.trans (congrArg some (by kernel_rfl))
  f320 := Tryz.func313.trans (congrArg some (by kernel_rfl))
  f321 := Tryz.func315.trans (congrArg some (by kernel_rfl))
  f322 := Tryz.func316.trans (congrArg some (by kernel_rfl))
  f337 := Tryz.func318.trans (congrArg some (by kernel_rfl))
  f338 := Tryz.func319.trans (congrArg some (by kernel_rfl))
  t0 := Tryz.underlying0
  a0 := Tryz.isAgg0
  z0 := Tryz.sizeOf0
  v0 := Tryz.zeroValue0
  t2 := Tryz.underlying2
  a2 := Tryz.isAgg2
  z2 := Tryz.sizeOf2
  v2 := Tryz.zeroValue2
  t3 := Tryz.underlying3
  a3 := Tryz.isAgg3
  z3 := Tryz.sizeOf3
  v3 := Tryz.zeroValue3
  t4 := Tryz.underlying4
  a4 := Tryz.isAgg4
  z4 := Tryz.sizeOf4
  v4 := Tryz.zeroValue4
  t5 := Tryz.underlying5
  a5 := Tryz.isAgg5
  z5 := Tryz.sizeOf5
  v5 := Tryz.zeroValue5
  t9 := Tryz.underlying9
  a9 := Tryz.isAgg9
  z9 := Tryz.sizeOf9
  v9 := Tryz.zeroValue9
  t20 := Tryz.underlying20
  a20 := Tryz.isAgg20
  z20 := Tryz.sizeOf20
  v20 := Tryz.zeroValue20
  t21 := Tryz.underlying21
  a21 := Tryz.isAgg21
  z21 := Tryz.sizeOf21
  v21 := Tryz.zeroValue21
  t37 := Tryz.underlying56
  a37 := Tryz.isAgg56
  z37 := Tryz.sizeOf56
  v37 := Tryz.zeroValue56
  t46 := Tryz.underlying204
  a46 := Tryz.isAgg204
  z46 := Tryz.sizeOf204
  v46 := Tryz.zeroValue204
  t51 := Tryz.underlying97
  a51 := Tryz.isAgg97
  z51 := Tryz.sizeOf97
  v51 := Tryz.zeroValue97
  t53 := Tryz.underlying114
  a53 := Tryz.isAgg114
  z53 := Tryz.sizeOf114
  v53 := Tryz.zeroValue114
  t75 := Tryz.underlying175
  a75 := Tryz.isAgg175
  z75 := Tryz.sizeOf175
  v75 := Tryz.zeroValue175
  t76 := Tryz.underlying176
  a76 := Tryz.isAgg176
  z76 := Tryz.sizeOf176
  v76 := Tryz.zeroValue176
  t85 := Tryz.underlying309
  a85 := Tryz.isAgg309
  z85 := Tryz.sizeOf309
  v85 := Tryz.zeroValue309
  t127 := Tryz.underlying246
  a127 := Tryz.isAgg246
  z127 := Tryz.sizeOf246
  v127 := Tryz.zeroValue246
  t143 := Tryz.underlying338
  a143 := Tryz.isAgg338
  z143 := Tryz.sizeOf338
  v143 := Tryz.zeroValue338
  t145 := Tryz.underlying340
  a145 := Tryz.isAgg340
  z145 := Tryz.sizeOf340
  v145 := Tryz.zeroValue340
  t167 := Tryz.underlying308
  a167 := Tryz.isAgg308
  z167 := Tryz.sizeOf308
  v167 := Tryz.zeroValue308
  t168 := Tryz.underlying311
  a168 := Tryz.isAgg311
  z168 := Tryz.sizeOf311
  v168 := Tryz.zeroValue311
  t171 := Tryz.underlying315
  a171 := Tryz.isAgg315
  z171 := Tryz.sizeOf315
  v171 := Tryz.zeroValue315
  t173 := Tryz.underlying318
  a173 := Tryz.isAgg318
  z173 := Tryz.sizeOf318
  v173 := Tryz.zeroValue318
  t175 := Tryz.underlying322
  a175 := Tryz.isAgg322
  z175 := Tryz.sizeOf322
  v175 := Tryz.zeroValue322
  t210 := Tryz.underlying326
  a210 := Tryz.isAgg326
  z210 := Tryz.sizeOf326
  v210 := Tryz.zeroValue326
  t212 := Tryz.underlying333
  a212 := Tryz.isAgg333
  z212 := Tryz.sizeOf333
  v212 := Tryz.zeroValue333
  t213 := Tryz.underlying334
  a213 := Tryz.isAgg334
  z213 := Tryz.sizeOf334
  t232 := Tryz.underlying345
  a232 := Tryz.isAgg345
  z232 := Tryz.sizeOf345
  v232 := Tryz.zeroValue345
  t233 := Tryz.underlying346
  a233 := Tryz.isAgg346
  z233 := Tryz.sizeOf346
  v233 := Tryz.zeroValue346
  g15 := by kernel_rfl
  g16 := by kernel_rfl
  g17 := by kernel_rfl
  g18 := by kernel_rfl
  g19 := by kernel_rfl
  t80 := Tryz.underlying181
  a80 := Tryz.isAgg181
  z80 := Tryz.sizeOf181
  v80 := Tryz.zeroValue181
  i0 := by kernel_rfl
  i2 := by kernel_rfl
  i3 := by kernel_rfl
  i4 := by kernel_rfl
  i5 := by kernel_rfl
  i9 := by kernel_rfl
  i20 := by kernel_rfl
  i21 := by kernel_rfl
  i37 := by kernel_rfl
  i46 := by kernel_rfl
  i51 := by kernel_rfl
  i53 := by kernel_rfl
  i75 := by kernel_rfl
  i76 := by kernel_rfl
  i80 := by kernel_rfl
  i85 := by kernel_rfl
  i127 := by kernel_rfl
  i143 := by kernel_rfl
  i145 := by kernel_rfl
  i167 := by kernel_rfl
  i168 := by kernel_rfl
  i171 := by kernel_rfl
  i173 := by kernel_rfl
  i175 := by kernel_rfl
  i210 := by kernel_rfl
  i212 := by kernel_rfl
  i232 := by kernel_rfl
  i233 := by kernel_rfl
  m15 := by kernel_rfl
  m16 := by kernel_rfl
  m17 := by kernel_rfl
  m18 := by kernel_rfl
  m19 := by kernel_rfl
  c0 := by kernel_rfl
  c2 := by kernel_rfl
  c3 := by kernel_rfl
  c4 := by kernel_rfl
  c5 := by kernel_rfl
  c9 := by kernel_rfl
  c20 := by kernel_rfl
  c21 := by kernel_rfl
  c37 := by kernel_rfl
  c46 := by kernel_rfl
  c51 := by kernel_rfl
  c53 := by kernel_rfl
  c75 := by kernel_rfl
  c76 := by kernel_rfl
  c80 := by kernel_rfl
  c85 := by kernel_rfl
  c127 := by kernel_rfl
  c143 := by kernel_rfl
  c145 := by kernel_rfl
  c167 := by kernel_rfl
  c168 := by kernel_rfl
  c171 := by kernel_rfl
  c173 := by kernel_rfl
  c175 := by kernel_rfl
  c210 := by kernel_rfl
  c212 := by kernel_rfl
  c213 := by kernel_rfl
  c232 := by kernel_rfl
  c233 := by kernel_rfl }
def Tryz.lays145_ren : Go.Shelf.Ren := ⟨fun | 145 => 105 | 220 => 179 | 219 => 252 | 217 => 286 | 225 => 287 | 224 => 288 | 267 => 289 | 266 => 304 | 314 => 305 | n => n, fun | 9 => 9 | 4 => 4 | 59 => 106 | 3 => 3 | 5 => 5 | 46 => 204 | 146 => 296 | 51 => 97 | n => n, fun | 1 => 0 | n => n⟩
theorem Tryz.lays145 : Go.Proofs.Lays.n145 Tryz.prog Tryz.lays145_ren := {
  mixed := by kernel_rfl
  f145 := Tryz.func105.trans (congrArg some (by kernel_rfl))
  f217 := Tryz.func286.trans (congrArg some (by kernel_rfl))
  f219 := Tryz.func252.trans (congrArg some (by kernel_rfl))
  f220 := Tryz.func179.trans (congrArg some (by kernel_rfl))
  f224 := Tryz.func288.trans (congrArg some (by kernel_rfl))
  f225 := Tryz.func287.trans (congrArg some (by kernel_rfl))
  f266 := Tryz.func304.trans (congrArg some (by kernel_rfl))
  f267 := Tryz.func289.trans (congrArg some (by kernel_rfl))
  f314 := Tryz.func305.trans (congrArg some (by kernel_rfl))
  t3 := Tryz.underlying3
  a3 := Tryz.isAgg3
  z3 := Tryz.sizeOf3
  v3 := Tryz.zeroValue3
  t4 := Tryz.underlying4
  a4 := Tryz.isAgg4
  z4 := Tryz.sizeOf4
  v4 := Tryz.zeroValue4
  t5 := Tryz.underlying5
  a5 := Tryz.isAgg5
  z5 := Tryz.sizeOf5
  v5 := Tryz.zeroValue5
  t9 := Tryz.underlying9
  a9 := Tryz.isAgg9
  z9 := Tryz.sizeOf9
  v9 := Tryz.zeroValue9
  t46 := Tryz.underlying204
  a46 := Tryz.isAgg204
  z46 := Tryz.sizeOf204
  v46 := Tryz.zeroValue204
  t51 := Tryz.underlying97
  a51 := Tryz.isAgg97
  z51 := Tryz.sizeOf97
  v51 := Tryz.zeroValue97
  t59 := Tryz.underlying106
  a59 := Tryz.isAgg106
  z59 := Tryz.sizeOf106
  v59 := Tryz.zeroValue106
  t146 := Tryz.underlying296
  a146 := Tryz.isAgg296
  z146 := Tryz.sizeOf296
  v146 := Tryz.zeroValue296
  g1 := by kernel_rfl }
def Tryz.lays146_ren : Go.Shelf.Ren := ⟨fun | 146 => 180 | 221 => 253 | 268 => 290 | 138 => 291 | 143 => 292 | 195 => 306 | 197 => 307 | 218 => 308 | 219 => 252 | 260 => 317 | 217 => 286 | 225 => 287 | 224 => 288 | 267 => 289 | 266 => 304 | 314 => 305 | n => n, fun | 9 => 9 | 31 => 117 | 3 => 3 | 4 => 4 | 0 => 0 | 105 => 330 | 21 => 21 | 5 => 5 | 46 => 204 | 119 => 341 | 139 => 344 | 138 => 343 | 146 => 296 | 51 => 97 | n => n, fun | 1 => 0 | 3 => 4 | 4 => 5 | n => n⟩
theorem Tryz.lays146 : Go.Proofs.Lays.n146 Tryz.prog Tryz.lays146_ren := {
  mixed := by kernel_rfl
  f138 := Tryz.func291.trans (congrArg some (by kernel_rfl))
  f143 := Tryz.func292.trans (congrArg some (by kernel_rfl))
  f146 := Tryz.func180.trans (congrArg some (by kernel_rfl))
  f195 := Tryz.func306.trans (congrArg some (by kernel_rfl))
  f197 := Tryz.func307.trans (congrArg some (by kernel_rfl))
  f217 := Tryz.func286.trans (congrArg some (by kernel_rfl))
  f218 := Tryz.func308.trans (congrArg some (by kernel_rfl))
  f219 := Tryz.func252.trans (congrArg some (by kernel_rfl))
  f221 := Tryz.func253.trans (congrArg some (by kernel_rfl))
  f224 := Tryz.func288.trans (congrArg some (by kernel_rfl))
  f225 := Tryz.func287.trans (congrArg some (by kernel_rfl))
  f260 := Tryz.func317.trans (congrArg some (by kernel_rfl))
  f266 := Tryz.func304.trans (congrArg some (by kernel_rfl))
  f267 := Tryz.func289.trans (congrArg some (by kernel_rfl))
  f268 := Tryz.func290.trans (congrArg some (by kernel_rfl))
  f314 := Tryz.func305.trans (congrArg some (by kernel_rfl))
  t0 := Tryz.underlying0
  a0 := Tryz.isAgg0
  z0 := Tryz.sizeOf0
  v0 := Tryz.zeroValue0
  t3 := Tryz.underlying3
  a3 := Tryz.isAgg3
  z3 := Tryz.sizeOf3
  v3 := Tryz.zeroValue3
  t4 := Tryz.underlying4
  a4 := Tryz.isAgg4
  z4 := Tryz.sizeOf4
  v4 := Tryz.zeroValue4
  t5 := Tryz.underlying5
  a5 := Tryz.isAgg5
  z5 := Tryz.sizeOf5
  v5 := Tryz.zeroValue5
  t9 := Tryz.underlying9
  a9 := Tryz.isAgg9
  z9 := Tryz.sizeOf9
  v9 := Tryz.zeroValue9
  t21 := Tryz.underlying21
  a21 := Tryz.isAgg21
  z21 := Tryz.sizeOf21
  v21 := Tryz.zeroValue21
  t31 := Tryz.underlying117
  a31 := Tryz.isAgg117
  z31 := Tryz.sizeOf117
  v31 := Tryz.zeroValue117
  t46 := Tryz.underlying204
  a46 := Tryz.isAgg204
  z46 := Tryz.sizeOf204
  v46 := Tryz.zeroValue204
  t51 := Tryz.underlying97
  a51 := Tryz.isAgg97
  z51 := Tryz.sizeOf97
  v51 := Tryz.zeroValue97
  t105 := Tryz.underlying330
  a105 := Tryz.isAgg330
  z105 := Tryz.sizeOf330
  v105 := Tryz.zeroValue330
  t119 := Tryz.underlying341
  a119 := Tryz.isAgg341
  z119 := Tryz.sizeOf341
  t138 := Tryz.underlying343
  a138 := Tryz.isAgg343
  z138 := Tryz.sizeOf343
  v138 := Tryz.zeroValue343
  t139 := Tryz.underlying344
  a139 := Tryz.isAgg344
  z139 := Tryz.sizeOf344
  v139 := Tryz.zeroValue344
  t146 := Tryz.underlying296
  a146 := Tryz.isAgg296
  z146 := Tryz.sizeOf296
  v146 := Tryz.zeroValue296
  g1 := by kernel_rfl
  g3 := by kernel_rfl
  g4 := by kernel_rfl }
end Go.Proofs

namespace Gx
open Go Go.Proofs Go.RowKit
noncomputable section
variable {R:Type} (N:Nat)
def Vl (_N:Nat) (s t:List UInt8) (r0:List UInt8→List UInt8→Bool→O R):O R:=cond (Nat.ble s.length 4294967280) (r0 (Lib.cut s t).1 (Lib.cut s t).2.1 (Lib.cut s t).2.2) none
def strings_Cut:=(Ag (@Vl R)).1
theorem Tf:@strings_Cut R=@Vl R:=(Ag _).2
def Tg (a:LA) (h:Aj) (k:KF R):O R :=
 match a,h with
 | [.str s,.str t],[]=>strings_Cut N s t fun x y b=>k (.tup [.str x,.str y,.bool b]) []
 | _,_=>none
def G':Tw:=⟨fun {R} a h k=>@Tg R N a h k,fun {R} a h k=>by
 unfold Tg
 split
 ·rw[Tf,Tf];unfold Vl;cases Nat.ble _ 4294967280<;>rfl
 ·rfl⟩
def Sa (_N:Nat) (n:Int) (r0:List UInt8→O R):O R:=cond (decide (-9223372036854775808≤n)&&decide (n≤9223372036854775807)) (r0 (Lib.itoa n)) none
def strconv_Itoa:=(Ag (@Sa R)).1
theorem Ra:@strconv_Itoa R=@Sa R:=(Ag _).2
def Rb (a:LA) (h:Aj) (k:KF R):O R :=
 match a,h with
 | [.int .i64 n],[]=>strconv_Itoa N n fun x=>k (.str x) []
 | _,_=>none
def WQ:Tw:=⟨fun {R} a h k=>@Rb R N a h k,fun {R} a h k=>by
 unfold Rb
 split
 ·rename_i n
  rw[Ra,Ra];unfold Sa;cases (decide (-9223372036854775808≤n)&&decide (n≤9223372036854775807))<;>rfl
 ·rfl⟩
def Sb (_N:Nat) (s:List UInt8) (r0:Int→O R):O R:=cond (Nat.ble s.length 9223372036854775806) (match Lib.atoiAll s with | .ok v=>r0 v | _=>none) none
def EE:=(Ag (@Sb R)).1
theorem Rc:@EE R=@Sb R:=(Ag _).2
def Rd (a:LA) (h:Aj) (k:KF R):O R :=
 match a,h with
 | [.str s],[]=>EE N s fun x=>k (.tup [.int .i64 x,.undef]) []
 | _,_=>none
def WR:Tw:=⟨fun {R} a h k=>@Rd R N a h k,fun {R} a h k=>by
 unfold Rd
 split
 ·rw[Rc,Rc];unfold Sb;cases Nat.ble _ 9223372036854775806
  ·rfl
  ·cases Lib.atoiAll _<;>rfl
 ·rfl⟩
end
theorem Aue (w:World) (n:Nat):Below w.heap.size w (w.drewN n):=⟨rfl,rfl,rfl,Nat.le_refl _,fun _ _=>rfl⟩
theorem cZ (N:Nat):As1 Tryz.prog 105 (G' N):=by
 intro b h d h' f
 have c:Tg N b h (fun v h'=>some (v,h'))=some (d,h'):=f
 unfold Tg at c
 split at c
 ·rename_i s t
  rw[Tf,Vl] at c
  obtain⟨k,i⟩:=uc c
  simp at k i
  obtain⟨rfl,rfl⟩:=i
  refine sY fun J β w vs G hr=>?_
  obtain⟨u,v,rfl,e1,j⟩:=Atb hr
  simp only[Rep] at e1 j;subst e1 j
  obtain⟨m,l⟩:=G.int (g:=0) (by decide)
  refine(Any.strings_Cut Tryz.lays145 ⟨⟨s⟩⟩ ⟨⟨t⟩⟩ m w (show s.length<4294967281 by omega) l).mono ?_
  rintro e w' ⟨rfl,n,rfl⟩
  refine⟨_,rfl,Aue w n,fun J β w=>?_⟩
  rw[Rep]
  exact⟨_,rfl,by simp[Reps,Rep]⟩
 ·cases c
theorem yL (N:Nat):As1 Tryz.prog 114 (WQ N):=by
 intro b h d h' f
 have c:Rb N b h (fun v h'=>some (v,h'))=some (d,h'):=f
 unfold Rb at c
 split at c
 ·rename_i n
  rw[Ra,Sa] at c
  obtain⟨j,l⟩:=uc c
  simp only[Bool.and_eq_true,decide_eq_true_eq] at j
  simp at l
  obtain⟨rfl,rfl⟩:=l
  refine sY fun J β w vs G hr=>?_
  obtain⟨u,rfl,e1⟩:=Aam hr
  rw[Rep] at e1;subst e1
  refine(Any.strconv_Itoa Tryz.laysM171 n j.1 j.2 w (G.tab (g:=3) (by simp[A2e,Lib.pow10Tab]) (by kernel_rfl))).mono ?_
  rintro e w' ⟨rfl,k,os,rfl⟩
  refine⟨_,rfl,⟨rfl,rfl,rfl,by simp[Go.Sort.grow],fun i hi=>?_⟩,fun J β w=>by rw[Rep]⟩
  show(w.heap++os)[i]?=_
  rw[Array.getElem?_append_left hi]
 ·cases c
theorem strconv_Atoi_ok (N:Nat):As1 Tryz.prog 147 (WR N):=by
 intro b h f h' i
 have c:Rd N b h (fun v h'=>some (v,h'))=some (f,h'):=i
 unfold Rd at c
 split at c
 ·rename_i s
  rw[Rc,Sb] at c
  obtain⟨j,d⟩:=uc c
  simp at j
  split at d
  ·rename_i v k
   simp at d
   obtain⟨rfl,rfl⟩:=d
   refine sY fun J β w vs G hr=>?_
   obtain⟨u,rfl,e1⟩:=Aam hr
   rw[Rep] at e1;subst e1
   refine(Any.strconv_Atoi_ok Tryz.laysC172 ⟨⟨s⟩⟩ j v k w).mono ?_
   rintro e w' ⟨rfl,l⟩
   refine⟨_,rfl,?_,fun J β w=>by rw[Rep];exact⟨_,rfl,by rw[Reps];exact⟨_,_,rfl,by rw[Rep],by rw[Reps];exact⟨_,_,rfl,by rw[Rep];trivial,by rw[Reps]⟩⟩⟩⟩
   rcases l with rfl | ⟨t,rfl⟩
   ·exact Below.refl _ _
   ·exact Lib.bytesWorld_below _ _ _
  ·cases d
 ·cases c
end Gx
