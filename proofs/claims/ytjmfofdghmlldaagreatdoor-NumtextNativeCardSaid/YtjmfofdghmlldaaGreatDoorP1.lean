/- A part of the proof: what it holds is said by each theorem. -/
import Derived.ProofKit
import Derived.OpenShut
import Derived.ChangeOld
import Derived.Below
import Derived.Lib.LaidTab
import Derived.JoinedOf
import Derived.Test.YtjmfofdghmlldaaGreatDoorCards
import Derived.Test.YtjmfofdghmlldaaGreatDoorTie
import Derived.Deep.DeepHandedRow
import Derived.Deep.DeepWitnessRowRef
import Derived.LaidMore
import Derived.Shelf.Vars
import Derived.SevenTiedAt
import Derived.IntWalk
import Derived.Test.YtjmfofdghmlldaaGreatDoorProg
import Derived.Test.YtjmfofdghmlldaaGreatDoorRows
import Derived.ChangeSame
import Derived.Lib.ItoaNum
import Derived.Shelf.Strings.Repeat
import Derived.Shelf.Strings.Split
import Derived.Shelf.Strings.Cut
import Derived.Shelf.Strconv.AtoiAll
import Derived.Shelf.Strconv.Itoa3
import Derived.Shelf.LaysM
import Derived.Shelf.LaysC
import Derived.Lib.RepeatB
import Derived.Test.YtjmfofdghmlldaaGreatDoorP0
set_option linter.unusedVariables false
set_option linter.defProp false
set_option linter.unusedSimpArgs false
namespace Gx
open Go
theorem G4:∀ {l:List Nat} {b:Nat},Ft l b=true↔b ∈ l
  | [],b=>by simp[Ft]
  | i::r,b=>by
    rw[Ft]
    cases c:Nat.beq i b with
    | true=>have:=Nat.eq_of_beq_eq_true c;subst this;simp
    | false => have := Pn c; simp only [cond_false, List.mem_cons]; rw [G4]; constructor
               · exact fun h=>.inr h
               · rintro(h | h)
                 · exact absurd h.symm this
                 · exact h
theorem Nd:∀ {l:List Nat},CQ l=true→l.Nodup
 | [],_=>List.nodup_nil
 | i::r,h=>by
  rw[CQ] at h;simp at h
  refine List.nodup_cons.2 ⟨fun b=>?_,Nd h.2⟩
  rw[G4.2 b] at h;simp at h
theorem VL {g:A4} {ids:List Nat}:∀ {l:List Nat},dJ g ids l=true→∀ b ∈ l,∀ x,Dw g b=some x→b ∈ ids
 | [],_,b,c,_,_=>by simp at c
 | i::r,h,b,c,x,f=>by
  rw[dJ] at h;simp at h
  rcases List.mem_cons.1 c with e | c
  ·subst e
   rcases h.1 with d | d
   ·exact G4.1 d
   ·rw[f] at d;simp at d
  ·exact VL h.2 b c x f
theorem nk:∀ {l:List Nat},sc l=true→∀ b ∈ l,Em≤b→G3 b<100000
 | [],_,b,c,_=>by simp at c
 | i::r,h,b,c,d=>by
  rw[sc] at h;simp at h
  rcases List.mem_cons.1 c with e | c
  ·subst e
   have:Nat.ble Em b=true:=by simpa using d
   rw[this] at h;simpa using h.1
  ·exact nk h.2 b c d
theorem Rk (g:A4):∀ c:LA,(Gg g c).length=c.length
 | []=>rfl
 | x::r=>by rw[Gg,List.length_cons,List.length_cons,Rk g r]
section
variable {R:Type} {r:R} {Z:Start} {nt:Nat} {J J':Bool→Nat→Prop} {β β':Bm} {st:St} {h h':Ah} {a:Act} {w w':World} {ids:List Nat}
def H1 (g:A4) (x:Blk):Blk:={ x with cells:=cond x.pure x.cells (Gg g x.cells) }
theorem MP {g:A4}:∀ {ids:List Nat},(ids.map G3).Nodup→∀ c y,Ai (Rg g ids) c=some y→∃ b x,b ∈ ids∧G3 b=c∧Dw g b=some x∧y=H1 g x
 | [],_,c,y,d=>by simp[Rg,Ai] at d
 | b::r,f,c,y,d=>by
  rw[List.map_cons,List.nodup_cons] at f
  rw[Rg] at d
  split at d
  ·rename_i x n
   rw[Af] at d
   by_cases e:c=G3 b
   ·rw[if_pos e] at d;simp at d
    exact⟨b,x,by simp,e.symm,n,d.symm⟩
   ·rw[if_neg e] at d
    obtain⟨i,x',j,k,l,m⟩:=MP f.2 c y d
    exact⟨i,x',by simp[j],k,l,m⟩
  ·obtain⟨i,x',j,k,l,m⟩:=MP f.2 c y d
   exact⟨i,x',by simp[j],k,l,m⟩
theorem Rl {g:A4}:∀ {ids:List Nat},(ids.map G3).Nodup→∀ b x,b ∈ ids→Dw g b=some x→Ai (Rg g ids) (G3 b)=some (H1 g x)
 | [],_,b,x,d,_=>by simp at d
 | j::r,c,b,x,d,f=>by
  rw[List.map_cons,List.nodup_cons] at c
  rw[Rg]
  by_cases e:b=j
  ·subst e
   rw[f]
   simp only
   rw[Af,if_pos rfl];rfl
  ·have i:b ∈ r:=by simpa[e] using d
   have ne:G3 b≠G3 j:=fun h=>c.1 (by rw[←h];exact List.mem_map.2 ⟨b,i,rfl⟩)
   split
   ·rw[Af,if_neg ne];exact Rl c.2 b x i f
   ·exact Rl c.2 b x i f
def dZ (ids:List Nat) (c:Nat):Option Nat:=ids.find? fun b=>Nat.beq (G3 b) c
theorem Hc (c:(ids.map G3).Nodup) {b:Nat} (d:b ∈ ids):dZ ids (G3 b)=some b:=by
 induction ids with
 | nil=>simp at d
 | cons i r f =>
  rw[List.map_cons,List.nodup_cons] at c
  unfold dZ at f ⊢
  rw[List.find?_cons]
  by_cases e:b=i
  ·subst e;simp
  ·have j:b ∈ r:=by simpa[e] using d
   have ne:G3 i≠G3 b:=fun h=>c.1 (by rw[h];exact List.mem_map.2 ⟨b,j,rfl⟩)
   rw[CX ne];exact f c.2 j
def yA (g:A4) (ids:List Nat) (l:List Nat):Prop:=∀ b ∈ l,∀ x,Dw g b=some x→b ∈ ids
theorem tb {b:Nat}:Dw (Ai h) b=(Ai h b).bind fun x=>cond x.dead none (some x):=rfl
theorem MQ {b:Nat} {x y:Blk} (e:Ai h b=some x) (c:Dw (Ai h) b=some y):y=x∧x.dead=false:=by
 rw[tb,e] at c
 cases d:x.dead with
 | true=>simp[d] at c
 | false=>simp[d] at c;exact⟨c.symm,rfl⟩
mutual
theorem Rep.clean (hn:(ids.map G3).Nodup):∀ {x:AV} {v:Value},yA (Ai h) ids (D9 x)→Rep J β h w x v →
  Rep J (fun c=>(dZ ids c).bind β) (Rg (Ai h) ids) w (Rf (Ai h) x) v
 | .own b off n,v,hm,hr=>by
  rw[Rep] at hr
  obtain⟨x,A,cap,⟨hx,hmp⟩,h1,h2,h3⟩:=hr
  rw[Rf]
  cases hv:Dw (Ai h) b with
  | none=>simp only;rw[Rep];trivial
  | some y =>
   obtain⟨rfl,hd⟩:=MQ hx hv
   have hb:=hm b (by simp[D9]) _ hv
   simp only
   rw[Rep]
   refine⟨H1 (Ai h) y,A,cap,⟨Rl hn b y hb hv,hmp⟩,h1,h2,?_⟩
   rcases h3 with h3 | ⟨k,o,h4,h5⟩
   ·exact .inl h3
   ·refine .inr ⟨k,o,h4,?_⟩
    rcases h5 with h5 | ⟨h5,h6,h7⟩
    ·simp[hd] at h5
    ·refine .inr ⟨by rw[Hc hn hb];exact h5,h6,?_⟩
     have:(H1 (Ai h) y).cells.length=y.cells.length:=by
      unfold H1;cases y.pure
      ·simp;exact Rk _ _
      ·rfl
     rw[this];exact h7
 | .optr b off,v,hm,hr=>by
  rw[Rep] at hr
  obtain⟨x,k,o,⟨hx,hmp⟩,h1,h2⟩:=hr
  rw[Rf]
  cases hv:Dw (Ai h) b with
  | none=>simp only;rw[Rep];trivial
  | some y =>
   obtain⟨rfl,hd⟩:=MQ hx hv
   have hb:=hm b (by simp[D9]) _ hv
   simp only
   rw[Rep]
   refine⟨H1 (Ai h) y,k,o,⟨Rl hn b y hb hv,hmp⟩,h1,?_⟩
   rcases h2 with h2 | h2
   ·simp[hd] at h2
   ·exact .inr (by rw[Hc hn hb];exact h2)
 | .omap b,v,hm,hr=>by
  rw[Rep] at hr
  obtain⟨x,k,⟨hx,hmp⟩,h2⟩:=hr
  rw[Rf]
  cases hv:Dw (Ai h) b with
  | none=>simp only;rw[Rep];trivial
  | some y =>
   obtain⟨rfl,hd⟩:=MQ hx hv
   have hb:=hm b (by simp[D9]) _ hv
   simp only
   rw[Rep]
   refine⟨H1 (Ai h) y,k,⟨Rl hn b y hb hv,hmp⟩,?_⟩
   rcases h2 with h2 | h2
   ·simp[hd] at h2
   ·exact .inr (by rw[Hc hn hb];exact h2)
 | .agg c,v,hm,hr=>by
  rw[Rep] at hr
  obtain⟨cs,h1,h2⟩:=hr
  rw[Rf,Rep]
  exact⟨cs,h1,Reps.clean hn (by simpa[D9] using hm) h2⟩
 | .tup c,v,hm,hr=>by
  rw[Rep] at hr
  obtain⟨cs,h1,h2⟩:=hr
  rw[Rf,Rep]
  exact⟨cs,h1,Reps.clean hn (by simpa[D9] using hm) h2⟩
 | .fn f c,v,hm,hr=>by
  rw[Rep] at hr
  obtain⟨cs,h1,h2⟩:=hr
  rw[Rf,Rep]
  exact⟨cs,h1,Reps.clean hn (by simpa[D9] using hm) h2⟩
 | .pagg c o,v,hm,hr=>by show Rep J _ _ w (.pagg c o) v;rw[Rep] at hr ⊢;exact hr
 | .undef,v,hm,hr=>by show Rep J _ _ w (.undef) v;rw[Rep] at hr ⊢;exact hr
 | .imm c n sz t o,v,hm,hr=>by show Rep J _ _ w (.imm c n sz t o) v;rw[Rep] at hr ⊢;exact hr
 | .iptr c o,v,hm,hr=>by show Rep J _ _ w (.iptr c o) v;rw[Rep] at hr ⊢;exact hr
 | .int k n,v,hm,hr=>by show Rep J _ _ w (.int k n) v;rw[Rep] at hr ⊢;exact hr
 | .bool b,v,hm,hr=>by show Rep J _ _ w (.bool b) v;rw[Rep] at hr ⊢;exact hr
 | .str s,v,hm,hr=>by show Rep J _ _ w (.str s) v;rw[Rep] at hr ⊢;exact hr
 | .nsl,v,hm,hr=>by show Rep J _ _ w (.nsl) v;rw[Rep] at hr ⊢;exact hr
 | .nilptr,v,hm,hr=>by show Rep J _ _ w (.nilptr) v;rw[Rep] at hr ⊢;exact hr
 | .nilfn,v,hm,hr=>by show Rep J _ _ w (.nilfn) v;rw[Rep] at hr ⊢;exact hr
theorem Reps.clean (hn:(ids.map G3).Nodup):∀ {c:List AV} {cs:List Value},yA (Ai h) ids (Fa c)→Reps J β h w c cs →
  Reps J (fun c=>(dZ ids c).bind β) (Rg (Ai h) ids) w (Gg (Ai h) c) cs
 | [],cs,hm,hr=>by rw[Reps] at hr;rw[Gg,Reps];exact hr
 | x::r,cs,hm,hr=>by
  rw[Reps] at hr
  obtain⟨u,us,h1,h2,h3⟩:=hr
  rw[Gg,Reps]
  exact⟨u,us,h1,Rep.clean hn (fun b hb=>hm b (by simp[Fa,hb])) h2,Reps.clean hn (fun b hb=>hm b (by simp[Fa,hb])) h3⟩
end
theorem Tt {g:A4} {K:List Nat}:∀ {s:D8} {i:Nat},Ds (VD g K s) i=if Ft K i=true then Rf g (Ds s i) else .undef
 | [],i=>by
  simp only[VD,Ds]
  show AV.undef=if Ft K i=true then AV.undef else AV.undef
  split<;>rfl
 | (t,v)::r,i=>by
  rw[VD,Ds]
  cases c:Ft K t with
  | true =>
   simp only[cond_true,Ds]
   cases b:Nat.beq t i with
   | true =>
    have:=Nat.eq_of_beq_eq_true b;subst this
    simp[c]
   | false=>simp only[cond_false];exact Tt
  | false =>
   simp only[cond_false]
   rw[Tt]
   cases b:Nat.beq t i with
   | true =>
    have:=Nat.eq_of_beq_eq_true b;subst this
    simp[c]
   | false=>rfl
theorem d5 {K:List Nat}:∀ {s:D8} {i:Nat},Ft K i=true→∀ b ∈ D9 (Ds s i),b ∈ dI K s
 | [],i,_,b,c=>by simp[Ds,D9] at c
 | (t,v)::r,i,e,b,c=>by
  rw[Ds] at c
  rw[dI]
  cases d:Nat.beq t i with
  | true =>
   have:=Nat.eq_of_beq_eq_true d;subst this
   rw[d] at c
   rw[e];simp at c ⊢;exact .inl c
  | false =>
   rw[d] at c
   have:=d5 e b c
   cases Ft K t
   ·exact this
   ·simp;exact .inr this
theorem VM {g:A4}:∀ {ids:List Nat} {b:Nat} {x:Blk},b ∈ ids→g b=some x→x.pure=false→∀ c ∈ Fa x.cells,c ∈ G2 g ids
 | [],b,x,d,_,_,_,_=>by simp at d
 | i::r,b,x,d,f,j,c,k=>by
  rw[G2]
  by_cases e:b=i
  ·subst e;rw[f];simp only[j,cond_false];exact List.mem_append.2 (.inl k)
  ·exact List.mem_append.2 (.inr (VM (by simpa[e] using d) f j c k))
theorem VN:∀ {c:LA} {j:Nat} {x:AV},c[j]?=some x→∀ b ∈ D9 x,b ∈ Fa c
 | [],j,x,d,_,_=>by simp at d
 | y::r,j,x,d,b,e=>by
  rw[Fa]
  cases j with
  | zero=>simp at d;subst d;exact List.mem_append.2 (.inl e)
  | succ j=>exact List.mem_append.2 (.inr (VN (by simpa using d) b e))
theorem YB {g:A4}:∀ {c:LA} {j:Nat} {y:AV},(Gg g c)[j]?=some y→∃ x,c[j]?=some x∧y=Rf g x
 | [],j,y,b=>by simp[Gg] at b
 | x::r,j,y,b=>by
  rw[Gg] at b
  cases j with
  | zero=>simp at b;exact⟨x,by simp,b.symm⟩
  | succ j=>obtain⟨x',d,e⟩:=YB (c:=r) (j:=j) (by simpa using b);exact⟨x',by simpa using d,e⟩
theorem tc {b:Nat} (c:b<Em):G3 b=b:=by
 unfold G3
 have:Nat.ble Em b=false:=by
  cases h:Nat.ble Em b with
  | false=>rfl
  | true=>have:=Nat.le_of_ble_eq_true h;omega
 rw[this];rfl
theorem nl {K roots:List Nat} {st':St} (I:Inv Z nt J β st a w) (hh:clean K roots st=some st'):∃ β',Inv Z nt J β' st' a w:=by
 unfold clean at hh
 obtain⟨hc,h1⟩:_∧_:=uc hh
 simp only[Bool.and_eq_true] at hc
 obtain⟨c1,c2,c3,c4⟩:=hc
 generalize hids:Tq (Ai st.h) (Re (Ai st.h) (dI K st.s++roots))=ids at *
 simp at h1
 have t:=Nd c1
 have blk:∀ c y,Ai (Rg (Ai st.h) ids) c=some y→∃ b x,b ∈ ids∧G3 b=c∧Ai st.h b=some x∧x.dead=false∧y=H1 (Ai st.h) x:=by
  intro c y m
  obtain⟨b,x,z,A,D,F⟩:=MP t c y m
  have e:Ai st.h b=some x∧x.dead=false:=Cw (fun _ _ h=>h) D
  exact⟨b,x,z,A,e.1,e.2,F⟩
 have n:∀ x:Blk,(H1 (Ai st.h) x).cells.length=x.cells.length:=fun x=>by
  unfold H1;cases x.pure
  ·simp;exact Rk _ _
  ·rfl
 refine⟨fun c=>(dZ ids c).bind β,?_⟩
 subst h1
 refine⟨⟨I.sim.jlt,I.sim.jft,I.sim.gl,fun c y m T X=>?_,fun c y m T X=>by
   obtain⟨b,x,f,rfl,e,d,rfl⟩:=blk c y m
   obtain⟨z,A,k,ob,D,F,U,Y⟩:=I.sim.mblk b x e d X
   have:(H1 (Ai st.h) x).cells=x.cells:=by unfold H1;rw[z];rfl
   exact⟨z,A,k,ob,by simp only[Hc t f,Option.bind_some];exact D,F,by rw[ObjIs,show(H1 (Ai st.h) x).sz=x.sz from rfl,this];exact U,Y⟩,?_⟩,⟨fun i v hv=>?_,fun i hi=>?_⟩,I.tmps,I.defers,I.os,I.tape,I.output,I.size,I.frame,?_,I.jsub,I.jup,I.sizes,I.zlt,I.zge,?_⟩
 ·obtain⟨b,x,f,rfl,e,d,rfl⟩:=blk c y m
  rcases I.sim.blk b x e d X with⟨z,A⟩ | ⟨k,o,cs,ty,fr,z,A,D,F,U,Y,g7⟩
  ·refine .inl ⟨by simp only[Hc t f,Option.bind_some];exact z,?_⟩
   have:=n x;rw[A] at this;simpa using this
  ·refine .inr ⟨k,o,cs,ty,fr,by simp only[Hc t f,Option.bind_some];exact z,A,D,by rw[n];exact F,⟨fun hp=>?_,fun hp j q hj=>?_⟩,Y,g7⟩
   ·have l:x.pure=true:=hp
    have:(H1 (Ai st.h) x).cells=x.cells:=by unfold H1;rw[l];rfl
    rw[this];exact U.1 l
   ·have l:x.pure=false:=hp
    have:(H1 (Ai st.h) x).cells=Gg (Ai st.h) x.cells:=by unfold H1;rw[l];rfl
    rw[this] at hj
    obtain⟨q',hq,rfl⟩:=YB hj
    obtain⟨u,hu,hr,ho⟩:=U.2 l j q' hq
    exact⟨u,hu,Rep.clean t (fun G B x' C=>VL c3 G (VM f e l G (VN hq G B)) x' C) hr,ho⟩
 ·intro c c' y y' k o o' m hy' T hd' hs L M
  obtain⟨b,x,f,rfl,e,d,rfl⟩:=blk c y m
  obtain⟨G,x',B,rfl,C,O,rfl⟩:=blk c' y' hy'
  simp only[Hc t f,Option.bind_some] at L
  simp only[Hc t B,Option.bind_some] at M
  rw[I.sim.sep b G x x' k o o' e C d O hs L M]
 ·rw[Tt]
  split
  ·rename_i hk
   exact Rep.clean t (fun b f x e=>VL c2 b (d5 hk b f) x e) (I.ss.slot i v hv)
  ·rw[Rep];trivial
 ·rw[Tt,I.ss.out i hi]
  split
  ·rfl
  ·rfl
 ·rintro k ⟨c,y,o,m,T,hs,L⟩ hk
  obtain⟨b,x,f,rfl,e,d,rfl⟩:=blk c y m
  simp only[Hc t f,Option.bind_some] at L
  exact I.wr k ⟨b,x,o,e,d,hs,L⟩ hk
 ·intro c x0 y V m T
  obtain⟨b,x,f,rfl,e,d,rfl⟩:=blk c y m
  have hlt:=I.zlt _ _ V
  have hge:=I.zge _ _ V
  have S:G3 b=b:=by
   by_cases hnb:Em≤b
   ·have:=nk c4 b f hnb;omega
   ·exact tc (by omega)
  rw[S] at V
  obtain⟨⟨e1,em⟩,e2,e3,e4⟩:=I.outs b x0 x V e d
  refine⟨⟨?_,em⟩,e2,by rw[n];exact e3,e4⟩
  simp only[Hc t f,Option.bind_some];rw[S];exact e1
end
end Gx

namespace Gx
open Go
section
variable {R:Type}
theorem Al {α β:Type} (b:Bool) (x y:Option α) (f:α→Option β):(cond b x y).bind f=cond b (x.bind f) (y.bind f):=by cases b<;>rfl
theorem Yx {R':Type} (P:Program) (t:TypeId) (c:LA) (o:Bool) (k:Bool→Option R') (f:R'→O R):(Py P t c o k).bind f=Py P t c o fun o=>(k o).bind f:=by
 unfold Py;simp only[Al,Option.bind_none]
theorem Nf (P:Program) (t:TypeId) (c:LA) (org:Bool) (k:AV→O R):CM P t c org k=(CM P t c org some).bind k:=by
 unfold CM
 split<;>simp[Option.bind_assoc,Al,Yx]<;>rfl
theorem qf (P:Program) (t:TypeId) (c:LA) (k:AV→O R):XR P t c k=(XR P t c some).bind k:=by
 unfold XR
 split<;>simp[Option.bind_assoc,Al]
theorem YC (n:Nat) (k:AV→O R):∀ (c:LA) (i:Nat),Yk n k c i=(Yk n some c i).bind k
 | [],_=>rfl
 | v::r,i=>by rw[Yk,Yk,Al,YC n k r (i+1)];rfl
theorem YD (P:Program) (t:TypeId) (c:LA) (off:Nat) (k:AV→O R):CN P t c off k=(CN P t c off some).bind k:=by
 unfold CN
 split
 ·simp[Option.bind_assoc,Al]
 ·simp[Option.bind_assoc,Al]
 ·exact YC ..
 ·rfl
theorem Yy (P:Program) (g:A4) (t:TypeId) (p:AV) (k:AV→O R):dB P g t p k=(dB P g t p some).bind k:=by
 unfold dB
 split
 ·exact Nf ..
 ·rw[Option.bind_assoc]
  congr 1;funext x
  rw[Al,←Nf,←YD]
 ·rfl
theorem AG (P:Program) (t:TypeId) (x i:AV) (k:AV→O R):M5 P t x i k=(M5 P t x i some).bind k:=by
 unfold M5
 split<;>simp[Option.bind_assoc,Al]
theorem AH (P:Program) (t:TypeId) (x:AV) (f:Nat) (k:AV→O R):M6 P t x f k=(M6 P t x f some).bind k:=by
 unfold M6
 simp only[Option.bind_assoc,Al]
 congr 1;funext p;congr 1;funext n;congr 1
 split<;>rfl
theorem YE (P:Program) (t:TypeId) (x:AV) (f:Nat) (k:AV→O R):UU P t x f k=(UU P t x f some).bind k:=by
 unfold UU
 rw[Option.bind_assoc]
 congr 1;funext p
 split
 ·exact Nf ..
 ·exact qf ..
 ·rfl
theorem YF (P:Program) (t:TypeId) (x i:AV) (k:AV→O R):UV P t x i k=(UV P t x i some).bind k:=by
 unfold UV
 split
 ·simp[Al]
 ·simp only[Option.bind_assoc,Al,←Nf];rfl
 ·simp only[Option.bind_assoc,Al,←YD];rfl
 ·rfl
theorem P4 {α:Type} (lo b mx:Option AV) (n:Nat) (f:Nat→Nat→α) (k:α→O R):(Pz lo b mx n fun l h=>k (f l h))=(Pz lo b mx n fun l h=>some (f l h)).bind k:=by
 unfold Pz
 simp[Option.bind_assoc,Al]
theorem YG (P:Program) (g:A4) (t:TypeId) (x:AV) (lo b mx:Option AV) (k:AV→O R):UW P g t x lo b mx k=(UW P g t x lo b mx some).bind k:=by
 unfold UW
 split
 ·rw[Al,←P4];rfl
 ·rw[Option.bind_assoc];congr 1;funext _;exact P4 lo b mx 0 (fun _ _=>AV.nsl) k
 ·rw[Option.bind_assoc];congr 1;funext _;rw[Al,←P4];rfl
 ·rw[Option.bind_assoc];congr 1;funext _;rw[Option.bind_assoc];congr 1;funext _;rw[Al,←P4];rfl
 ·rfl
theorem td (P:Program) (t:TypeId) (op:BinOp) (x y:AV) (k:AV→O R):tU P t op x y k=(tU P t op x y some).bind k:=by
 unfold tU
 split
 ·split<;>simp[Al]
 ·split<;>simp[Al]
 ·split<;>simp[Al]
 ·rfl
def pr (v:AV) (u:De):Option (AV×De):=some (v,u)
theorem nm (P:Program) (g:A4) (t:TypeId) (p v:AV) (k:AV→De→O R):UX P g t p v k=(UX P g t p v pr).bind fun q=>k q.1 q.2:=by
 unfold UX
 split
 ·simp only[Option.bind_assoc,Al]
  congr 1;funext x;congr 1;funext n;congr 1;congr 1
  split<;>simp[Al,pr]
 ·rfl
theorem MR (P:Program) (c:LA) (org:Bool):∀ (L:List (Nat×TypeId)) (b:LA) (k:LA→O R),OW P c org L b k=(OW P c org L b some).bind k
 | [],b,k=>rfl
 | (off,t)::L,b,k=>by
  rw[OW,OW,Al]
  congr 1
  rw[Nf,Nf (k:=fun v=>OW P c org L (b++[v]) some),Option.bind_assoc]
  congr 1;funext v
  exact MR P c org L _ k
theorem YH (P:Program) (co:Bool) (t:TypeId) (v:AV) (k:AV→O R):UZ P co t v k=(UZ P co t v some).bind k:=by
 unfold UZ
 split
 ·rename_i c org
  rw[MR,MR (k:=fun l=>cond (Nat.beq c.length l.length) (some (AV.agg l)) none),Option.bind_assoc]
  congr 1;funext l
  rw[Al];rfl
 ·rfl
theorem jd (P:Program) (g:A4) (d:Nat) (t:TypeId) (v:AV) (k:AV→De→O R):nQ P g d t v k=(nQ P g d t v pr).bind fun q=>k q.1 q.2:=by
 unfold nQ
 split<;>simp[Option.bind_assoc,Al,pr]
theorem VO (P:Program) (g:A4) (d:Nat) (t:TypeId) (len:Nat) (ps:List (Nat×AV)) (k:AV→De→O R):Kw P g d t len ps k=(Kw P g d t len ps pr).bind fun q=>k q.1 q.2:=by
 unfold Kw
 split<;>simp[Option.bind_assoc,Al,pr,Wr]
theorem cF (P:Program) (g:A4) (d:Nat) (t:TypeId) (len:Nat) (ps:List (Nat×AV)) (k:AV→De→O R):M7 P g d t len ps k=(M7 P g d t len ps pr).bind fun q=>k q.1 q.2:=by
 unfold M7
 split<;>simp[Option.bind_assoc,Al,pr]
theorem te (P:Program) (t:TypeId) (co:Bool) (d:Nat) (v:AV) (k:AV→De→O R):tV P t co d v k=(tV P t co d v pr).bind fun q=>k q.1 q.2:=by
 unfold tV
 split<;>simp[Al,pr]
theorem qg (P:Program) (d:Nat) (t:TypeId) (l c:AV) (k:AV→De→O R):j1 P d t l c k=(j1 P d t l c pr).bind fun q=>k q.1 q.2:=by
 unfold j1
 split<;>simp[Option.bind_assoc,Al,pr]
theorem lk (P:Program) (g:A4) (d:Nat) (t tx:TypeId) (s x:AV) (k:AV→De→O R):GP P g d t tx s x k=(GP P g d t tx s x pr).bind fun q=>k q.1 q.2:=by
 unfold GP MG
 split<;>simp[Option.bind_assoc,Al,pr,Yx]
theorem qh (P:Program) (g:A4) (t:TypeId) (s x:AV) (k:AV→De→O R):j2 P g t s x k=(j2 P g t s x pr).bind fun q=>k q.1 q.2:=by
 unfold j2 MG
 split<;>simp[Option.bind_assoc,Al,pr,Yx]
theorem qi (P:Program) (g:A4) (d:Nat) (src dst:TypeId) (x:AV) (k:AV→De→O R):j3 P g d src dst x k=(j3 P g d src dst x pr).bind fun q=>k q.1 q.2:=by
 unfold j3
 split
 ·split<;>simp[Al,pr]
 ·split
  ·split<;>simp[pr]
  ·split
   ·split<;>simp[Option.bind_assoc,pr]
   ·rfl
  ·rfl
 ·split
  ·rw[Al,Option.bind_assoc];simp only[Al];rfl
  ·rfl
  ·rfl
 ·rfl
theorem np (P:Program) (g:A4) (d:Nat) (src dst:TypeId) (x:AV) (k:AV→De→O R):U_ P g d src dst x k=(U_ P g d src dst x pr).bind fun q=>k q.1 q.2:=by
 unfold U_
 split
 ·split
  ·simp only[Option.bind_assoc,Al];rfl
  ·rfl
 ·split
  ·simp only[Option.bind_assoc,Al];rfl
  ·rfl
 ·exact qi ..
theorem cG (g:A4) (x:AV) (k:AV→De→O R):M8 g x k=(M8 g x pr).bind fun q=>k q.1 q.2:=by
 unfold M8
 split
 ·rfl
 ·simp only[Option.bind_assoc,Al];rfl
 ·rfl
theorem cH (P:Program) (g:A4) (t:TypeId) (x n:AV) (k:AV→De→O R):M9 P g t x n k=(M9 P g t x n pr).bind fun q=>k q.1 q.2:=by
 unfold M9
 split
 ·rw[Al];rfl
 ·simp only[Option.bind_assoc]
  congr 1;funext y;congr 1;funext q
  split
  ·simp only[Option.bind_assoc,Al];rfl
  ·rfl
 ·rfl
theorem MS {R':Type} {f:R'→O R} {s1:TypeId→LA→LA→(Bool→Option R')→Option R'} {s2:TypeId→LA→LA→(Bool→O R)→O R} (c:∀ t x y k,(s1 t x y k).bind f=s2 t x y fun b=>(k b).bind f) {x y:LA} :
  ∀ (l:List (Nat×TypeId)) (k:Bool→Option R'),(Wi s1 x y l k).bind f=Wi s2 x y l fun b=>(k b).bind f
 | [],k=>rfl
 | (o,t)::r,k=>by
  rw[Wi,Wi,c]
  congr 1;funext b
  exact MS c r _
theorem GY {R':Type} {f:R'→O R} (P:Program):∀ (d:Nat) (t:TypeId) (x y:LA) (k:Bool→Option R'),(cD P d t x y k).bind f=cD P d t x y fun b=>(k b).bind f
 | 0,t,x,y,k=>rfl
 | d+1,t,x,y,k=>by
  rw[cD,cD]
  split<;>simp only[Option.bind_assoc,Al,Option.bind_none]
  ·congr 1;funext sz;rw[MS (GY P d)]
  ·congr 1;funext s;congr 1;funext sz;rw[MS (GY P d)]
theorem qk (P:Program) (t:TypeId) (op:BinOp) (x y:AV) (k:AV→O R):jZ P t op x y k=(jZ P t op x y some).bind k:=by
 unfold jZ
 split
 ·rw[Option.bind_assoc]
  congr 1;funext s
  rw[Al]
  congr 1
  split
  ·rw[GY];rfl
  ·rw[GY];rfl
  ·rfl
 ·exact td ..
theorem d6 (P:Program) (g:A4) (t:TypeId) (op:BinOp) (x y:AV) (k:AV→O R):j6 P g t op x y k=(j6 P g t op x y some).bind k:=by
 unfold j6
 split
 ·rw[Al];congr 1;split<;>rfl
 ·exact qk ..
theorem d7 (c x y:AV) (k:AV→O R):j8 c x y k=(j8 c x y some).bind k:=by
 unfold j8
 split<;>first | rfl | (rw[Al];rfl)
theorem nq (P:Program) (g:A4) (co:Bool) (d:Nat) (t:TypeId) (k:AV→De→O R):UY P g co d t k=(UY P g co d t pr).bind fun q=>k q.1 q.2:=by
 unfold UY
 split
 ·rw[Option.bind_assoc];rfl
 ·exact jd ..
 ·rfl
theorem d8:∀ (T:List (Nat×Tw)) (f:Nat) (b:LA) (h:Ah) (k:AV→Ah→O R),OX T f b h k=(OX T f b h fun v h'=>some (v,h')).bind fun p=>k p.1 p.2
 | [],f,b,h,k=>rfl
 | (g,t)::r,f,b,h,k=>by
  rw[OX,OX]
  cases Nat.beq g f
  ·exact d8 r f b h k
  ·exact t.eq b h k
theorem ql (E:Env) (g:A4) (d f:Nat) (b:LA) (k:AV→De→O R):j7 E g d f b k=(j7 E g d f b pr).bind fun q=>k q.1 q.2:=by
 unfold j7
 rw[Option.bind_assoc]
 congr 1;funext q
 simp only[Al,Option.bind_none]
 congr 1
 rw[d8,d8 (R:=AV×De),Option.bind_assoc]
 congr 1;funext p
 simp only[Al,Option.bind_none,pr,Option.bind_some]
theorem i6 (d:Nat) (o:Option AV) (k:AV→De→O R):Rd d o k=(Rd d o pr).bind fun q=>k q.1 q.2:=by
 unfold Rd
 split<;>rfl
theorem nr (P:Program) (g:A4) (t:TypeId) (m x y:AV) (k:AV→De→O R):VA P g t m x y k=(VA P g t m x y pr).bind fun q=>k q.1 q.2:=by
 unfold VA
 split<;>simp[Al,Option.bind_assoc,pr]
theorem nu (P:Program) (d:Nat) (t:TypeId) (x:AV) (k:AV→De→O R):VB P d t x k=(VB P d t x pr).bind fun q=>k q.1 q.2:=by
 unfold VB
 split<;>rfl
theorem qn (g:A4) (it:AV) (b:Bool) (k:AV→De→O R):j5 g it b k=(j5 g it b pr).bind fun q=>k q.1 q.2:=by
 unfold j5
 split
 ·rw[Option.bind_assoc];congr 1;funext x
  rw[Al];congr 1
  split
  ·rename_i s p _
   cases decide (p<(s.length:Int))<;>rfl
  ·rfl
 ·rfl
theorem d9 (P:Program) (g:A4) (t:TypeId) (m x:AV) (c:Bool) (k:AV→O R):j4 P g t m x c k=(j4 P g t m x c some).bind k:=by
 unfold j4
 split<;>simp[Al,Option.bind_assoc]
theorem tg (E:Env) (g:A4) (d:Nat) (v:Operand→AV) (o:Op) (k:AV→De→O R):iW E g d v o k=(iW E g d v o pr).bind fun q=>k q.1 q.2:=by
 unfold iW
 split
 ·rfl
 ·rfl
 ·rw[d7,d7 (k:=fun r=>pr r []),Option.bind_assoc];rfl
 ·exact nq ..
 ·rw[YH,YH (k:=fun u=>nQ E.P g d _ u pr),Option.bind_assoc];congr 1;funext u;exact jd ..
 ·rw[MM,MM,Option.bind_assoc];congr 1;funext x;exact te ..
 ·rw[Al,←cF,←VO]
 ·rw[Yy,Yy (k:=fun r=>pr r []),Option.bind_assoc];rfl
 ·exact nm ..
 ·split<;>rfl
 ·rw[d6,d6 (k:=fun r=>pr r []),Option.bind_assoc];rfl
 ·rw[Option.bind_assoc];rfl
 ·exact np ..
 ·rw[Al];rfl
 ·exact qg ..
 ·rw[YG,YG (k:=fun r=>pr r []),Option.bind_assoc];rfl
 ·rw[AH,AH (k:=fun r=>pr r []),Option.bind_assoc];rfl
 ·rw[YE,YE (k:=fun r=>pr r []),Option.bind_assoc];rfl
 ·rw[AG,AG (k:=fun r=>pr r []),Option.bind_assoc];rfl
 ·rw[YF,YF (k:=fun r=>pr r []),Option.bind_assoc];rfl
 ·exact i6 ..
 ·exact nr ..
 ·rw[d9,d9 (k:=fun r=>pr r []),Option.bind_assoc];rfl
 ·exact nu ..
 ·exact qn ..
 ·split
  ·rw[Option.bind_assoc];rfl
  ·rfl
 ·split
  ·split
   ·rw[Option.bind_assoc];rfl
   ·rfl
  ·split
   ·exact lk ..
   ·rfl
  ·split
   ·exact qh ..
   ·rfl
  ·split
   ·rw[Option.bind_assoc];rfl
   ·simp only[Option.bind_assoc];rfl
   ·rfl
  ·split
   ·rw[Option.bind_assoc];rfl
   ·simp only[Option.bind_assoc];rfl
   ·rfl
  ·split
   ·exact cG ..
   ·rfl
  ·split
   ·exact cH ..
   ·rfl
  ·split
   ·rw[Al,←ql,Al];congr 1;congr 1
    split<;>rfl
   ·rfl
  ·rfl
 ·rfl
end
end Gx

namespace Gx
open Go
theorem Wt:∀ {l c:List Nat} {b:Nat},b ∈ XU l c↔b ∈ l∨b ∈ c
 | [],c,b=>by simp[XU]
 | i::r,c,b=>by
  rw[XU]
  cases d:Ft c i with
  | true =>
   simp only[cond_true]
   rw[Wt]
   have:=G4.1 d
   constructor
   ·rintro(h | h)
    ·exact .inl (by simp[h])
    ·exact .inr h
   ·rintro(h | h)
    ·rcases List.mem_cons.1 h with e | h
     ·subst e;exact .inr this
     ·exact .inl h
    ·exact .inr h
  | false =>
   simp only[cond_false]
   rw[Wt]
   simp only[List.mem_cons]
   constructor
   ·rintro(h | h | h)
    ·exact .inl (.inr h)
    ·exact .inl (.inl h)
    ·exact .inr h
   ·rintro((h | h) | h)
    ·exact .inr (.inl h)
    ·exact .inl h
    ·exact .inr (.inr h)
theorem Tu {g g':A4}:∀ {l:List Nat},(∀ b ∈ l,g' b=g b)→G2 g' l=G2 g l
 | [],_=>rfl
 | i::r,h=>by
  rw[G2,G2,h i (by simp),Tu (fun b c=>h b (by simp[c]))]
theorem PH {g:A4}:∀ {a b:List Nat},G2 g (a++b)=G2 g a++G2 g b
 | [],b=>rfl
 | i::r,b=>by rw[List.cons_append,G2,G2,PH,List.append_assoc]
theorem nv {g g':A4} {ids:List Nat} (h:∀ b ∈ Re g ids,g' b=g b):Re g' ids=Re g ids:=by
 have d:∀ b ∈ ids,g' b=g b:=fun b c=>h b (Wt.2 (.inl (List.mem_append.2 (.inl c))))
 have e:G2 g' ids=G2 g ids:=Tu d
 have f:∀ b ∈ G2 g ids,g' b=g b:=fun b c=>h b (Wt.2 (.inl (List.mem_append.2 (.inr (by rw[PH];exact List.mem_append.2 (.inl c))))))
 unfold Re
 rw[e,Tu (l:=ids++G2 g ids) (fun b c=>by
  rcases List.mem_append.1 c with c | c
  ·exact d b c
  ·exact f b c)]
section
variable {R:Type} {E:Env} {ops:Array Oper} {o p:Oper} {st jc st2:St}
theorem YI {v v':Operand→AV} {parts:Array (Nat×Operand)} (h:∀ q ∈ parts.toList,v' q.2=v q.2):(parts.toList.map fun q=>(q.1,v' q.2))=(parts.toList.map fun q=>(q.1,v q.2)) :=
 List.map_congr_left (fun q hq=>by rw[h q hq])
theorem qo {g:A4} {d:Nat} {v v':Operand→AV} {op:Op} {k:AV→De→O R} (h:∀ x ∈ op.operands.toList,v' x=v x):iW E g d v' op k=iW E g d v op k:=by
  unfold iW
  cases op
  case build t parts =>
    simp only
    rw[YI (v:=v) (v':=v') (fun q hq=>h q.2 (by simp[Op.operands];exact⟨q.1,by simpa using hq⟩))]
  case buildSlice t n parts =>
    simp only
    rw[YI (v:=v) (v':=v') (fun q hq=>h q.2 (by simp[Op.operands];exact⟨q.1,by simpa using hq⟩))]
  case slice t x lo j mx =>
    simp only
    have e:v' x=v x:=h x (by simp[Op.operands])
    have m:lo.map v'=lo.map v:=by
      cases lo with
      | none=>rfl
      | some y=>simp;exact h y (by simp[Op.operands])
    have s:j.map v'=j.map v:=by
      cases j with
      | none=>rfl
      | some y=>simp;exact h y (by simp[Op.operands])
    have u:mx.map v'=mx.map v:=by
      cases mx with
      | none=>rfl
      | some y=>simp;exact h y (by simp[Op.operands])
    rw[e,m,s,u]
  case makeMap t rr =>
    simp only
    have e:rr.map v'=rr.map v:=by
      cases rr with
      | none=>rfl
      | some y=>simp;exact h y (by simp[Op.operands])
    rw[e]
  case makeFunc f first caps =>
    cases f<;>try rfl
    simp only
    have:(first.toList++caps.toList).map v'=(first.toList++caps.toList).map v:=List.map_congr_left (fun x l=>h x (by simp[Op.operands];simpa using l))
    rw[this]
  case call c =>
    have i:∀ x ∈ c.args.toList,v' x=v x:=fun x l=>h x (by
      simp only[Op.operands,Call.operands,Array.toList_append]
      exact List.mem_append.2 (.inr l))
    have z:c.args.toList.map v'=c.args.toList.map v:=List.map_congr_left i
    simp only
    cases A:c.callee with
    | value f =>
      have B:v' f=v f:=h f (by simp[Op.operands,Call.operands,A])
      simp only[B,z]
    | invoke a b=>rfl
    | builtin b =>
      cases b<;>try rfl
      all_goals
        simp only
        split
        · first
            | (rename_i e m
               simp only[e,List.mem_cons,List.not_mem_nil,or_false,forall_eq_or_imp,forall_eq] at i
               simp only[i])
            | (rename_i e
               simp only[e,List.mem_cons,List.not_mem_nil,or_false,forall_eq_or_imp,forall_eq] at i
               simp only[i])
        all_goals first
          | rfl
          | (rename_i e
             simp only[e,List.mem_cons,List.not_mem_nil,or_false,forall_eq_or_imp,forall_eq] at i
             simp only[i])
  all_goals first
    | rfl
    | (simp[Op.operands] at h;simp[h])
end
end Gx

namespace Gx
open Go
section
variable {R:Type} {E:Env} {ops:Array Oper} {o p:Oper} {st jc st2 st3:St}
def sj (ops:Array Oper) (o:Oper):List Nat:=match GQ ops o with | some p=>[p.1] | none=>[]
def Vn (o:Oper) (s:D8):LA:=o.op.operands.toList.map (ev s)
def lm (h:Ah) (F:List Nat):A4:=fun b=>cond (Ft F b) (Ai h b) none
def zk (o:Oper):Nat:=o.dst.getD 50000
def Mu (E:Env) (ops:Array Oper) (o:Oper) (st:St):Option (AV×De×Foot) :=
  (Yo ops st.s o).bind fun wanted=>cond wanted
    ((iW E (lm st.h (O8 st.h o.op (Vn o st.s))) (zk o) (ev st.s) o.op pr).bind fun q =>
      cond (IC (zk o) (O8 st.h o.op (Vn o st.s)) st.h q.2) (some (q.1,q.2,{ r:=sj ops o++MI o.op.operands.toList,w:=o.dst,f:=O8 st.h o.op (Vn o st.s),u:=q.2.map (·.1) })) none)
    (some (.tup [],[],{ r:=sj ops o,w:=o.dst,f:=[],u:=[] }))
def after (E:Env) (o:Oper) (st:St) (q:AV×De×Foot):St:={ s:=qU E.nt st.s o.dst q.1,h:=Ag q.2.1 st.h }
theorem GZ (k:St→Foot→O R):nT E ops o st k=(Mu E ops o st).bind fun q=>k (after E o st q) q.2.2:=by
 unfold nT Mu
 rw[Option.bind_assoc]
 congr 1;funext t
 rw[Al]
 congr 1
 rw[tg,Option.bind_assoc]
 congr 1;funext q
 rw[Al]
 rfl
theorem d_:∀ {l:List Operand} {t:Nat},Operand.tmp t ∈ l→t ∈ MI l
 | [],t,h=>by simp at h
 | x::r,t,h=>by
  rcases List.mem_cons.1 h with e | h'
  ·subst e;simp[MI]
  ·have b:=d_ h'
   cases x<;>simp[MI]<;>first | exact .inr b | exact b
theorem YJ {d:Nat} {F:List Nat} {h e:Ah}:∀ {ups:De},(∀ b ∈ ups.map (·.1),Ai e b=Ai h b)→IC d F e ups=IC d F h ups
 | [],_=>rfl
 | (b,_)::r,f=>by rw[IC,IC,f b (by simp),YJ (fun c i=>f c (by simp at i ⊢;exact .inr i))]
theorem IJ {s s2:D8} (h:∀ t ∈ sj ops o,Ds s2 t=Ds s t):Yo ops s2 o=Yo ops s o:=by
 unfold Yo
 cases b:o.guard with
 | none=>rfl
 | some q =>
  obtain⟨j,want⟩:=q
  simp only
  cases c:(ops[j]?).bind (·.dst) with
  | none=>rfl
  | some t =>
   have:Ds s2 t=Ds s t:=h t (by simp[sj,GQ,b,c])
   simp only[this]
theorem DC {q:AV×De×Foot} (l:Mu E ops o st=some q) (i:∀ t ∈ q.2.2.r,Ds st2.s t=Ds st.s t) (c:∀ b,b ∈ q.2.2.f∨b ∈ q.2.2.u→Ai st2.h b=Ai st.h b):Mu E ops o st2=some q:=by
 have A:=l
 unfold Mu at l
 obtain⟨t,j,k⟩:=ub l
 cases t with
 | false =>
  simp at k;subst k
  unfold Mu
  rw[IJ (s:=st.s) i,j];rfl
 | true =>
  rw[cond_true] at k
  obtain⟨x,B,C⟩:=ub k
  obtain⟨D,v⟩:=uc C
  simp at v;subst v
  simp only at i c
  have z:∀ y ∈ o.op.operands.toList,ev st2.s y=ev st.s y:=fun y F=>by
   cases y with
   | tmp t=>exact i t (List.mem_append.2 (.inr (d_ F)))
   | const _=>rfl
   | global _=>rfl
   | func _=>rfl
  have d:Vn o st2.s=Vn o st.s:=List.map_congr_left z
  have hF:O8 st2.h o.op (Vn o st.s)=O8 st.h o.op (Vn o st.s):=by
   unfold O8 at c ⊢
   cases m:sa o.op with
   | true =>
    rw[m] at c
    cases n:sb o.op with
    | true=>rfl
    | false=>rw[n] at c;exact nv (fun b e=>c b (.inl e))
   | false=>rfl
  have G:lm st2.h (O8 st.h o.op (Vn o st.s))=lm st.h (O8 st.h o.op (Vn o st.s)):=by
   funext b
   unfold lm
   cases e:Ft (O8 st.h o.op (Vn o st.s)) b with
   | false=>rfl
   | true=>simp only[cond_true];exact c b (.inl (G4.1 e))
  unfold Mu
  rw[IJ (s:=st.s) (fun t j=>i t (List.mem_append.2 (.inl j))),j]
  simp only[Option.bind_some,cond_true]
  rw[d,hF,G,qo z,B]
  simp only[Option.bind_some]
  rw[YJ (h:=st.h) (fun b e=>c b (.inr e)),D]
  rfl
theorem G_:∀ {ups:De} {b:Nat},Az ups b=true↔b ∈ ups.map (·.1)
 | [],b=>by simp[Az]
 | (i,_)::r,b=>by
  rw[Az]
  cases c:Nat.beq i b with
  | true=>have:=Nat.eq_of_beq_eq_true c;subst this;simp
  | false =>
   have ne:=Pn c
   simp only[cond_false]
   rw[G_]
   simp only[List.map_cons,List.mem_cons]
   constructor
   ·exact fun h=>.inr h
   ·rintro(h | h)
    ·exact absurd h.symm ne
    ·exact h
theorem sk {q:AV×De×Foot} (c:Mu E ops o st=some q):q.2.2.w=o.dst∧q.2.2.u=q.2.1.map (·.1):=by
 unfold Mu at c
 obtain⟨t,f,b⟩:=ub c
 cases t with
 | false=>simp at b;subst b;simp
 | true =>
  rw[cond_true] at b
  obtain⟨x,i,e⟩:=ub b
  obtain⟨j,d⟩:=uc e
  simp at d;subst d;simp
theorem Eb:∀ (ups:De) {h e:Ah},(∀ b,Ai e b=Ai h b)→∀ b,Ai (Ag ups e) b=Ai (Ag ups h) b
 | [],_,_,d,b=>d b
 | (i,some x)::r,h,e,d,b=>Eb r (fun c=>by rw[Af,Af,d c]) b
 | (i,none)::r,h,e,d,b=>by
  rw[Ag,Ag]
  refine Eb r (fun c=>?_) b
  rw[d i]
  split
  ·rw[Af,Af,d c]
  ·exact d c
theorem nw {q:AV×De×Foot} (h:Eqv st st2):Eqv (after E o st q) (after E o st2 q):=by
 refine⟨fun t=>?_,fun b=>?_⟩
 ·unfold after;simp only;rw[Iu,Iu,h.1 t]
 ·exact(Eb q.2.1 (fun b=>(h.2 b).symm) b).symm
theorem Lk {i:Nat} {y:Blk}:∀ (ups:De) {h:Ah},Az ups i=false→∀ b,Ai (Ag ups (Da h i y)) b=if b=i then some y else Ai (Ag ups h) b
 | [],h,_,b=>Af h i y b
 | (j,some x)::r,h,d,b=>by
  rw[Az] at d
  cases e:Nat.beq j i with
  | true=>rw[e] at d;simp at d
  | false =>
   rw[e] at d
   have ne:=Pn e
   rw[Ag,Ag,Eb r (h:=Da (Da h j x) i y) (fun c=>by
    rw[Af,Af,Af,Af]
    by_cases f:c=j
    ·subst f;simp[ne]
    ·simp[f]) b]
   exact Lk r d b
 | (j,none)::r,h,d,b=>by
  rw[Az] at d
  cases e:Nat.beq j i with
  | true=>rw[e] at d;simp at d
  | false =>
   rw[e] at d
   have ne:=Pn e
   rw[Ag,Ag,Af,if_neg ne]
   split
   ·rename_i x k
    rw[Eb r (h:=Da (Da h j { x with dead:=true,pure:=true,cells:=[] }) i y) (fun c=>by
     rw[Af,Af,Af,Af]
     by_cases f:c=j
     ·subst f;simp[ne]
     ·simp[f]) b]
    exact Lk r d b
   ·exact Lk r d b
theorem N4:∀ (u1 u2:De) (h:Ah),(∀ b,Az u1 b=true→Az u2 b=false)→∀ b,Ai (Ag u2 (Ag u1 h)) b=Ai (Ag u1 (Ag u2 h)) b
 | [],u2,h,_,b=>rfl
 | (i,some x)::r,u2,h,d,b=>by
  rw[Ag,Ag]
  have f:Az u2 i=false:=d i (by simp[Az])
  rw[N4 r u2 (Da h i x) (fun c e=>d c (by rw[Az,e];cases Nat.beq i c<;>rfl)) b]
  refine Eb r (fun c=>?_) b
  rw[Lk u2 f,Af]
 | (i,none)::r,u2,h,d,b=>by
  rw[Ag,Ag]
  have f:Az u2 i=false:=d i (by simp[Az])
  rw[Bw u2 h i f]
  split
  ·rename_i x j
   rw[N4 r u2 _ (fun c e=>d c (by rw[Az,e];cases Nat.beq i c<;>rfl)) b]
   refine Eb r (fun c=>?_) b
   rw[Lk u2 f,Af]
  ·exact N4 r u2 h (fun c e=>d c (by rw[Az,e];cases Nat.beq i c<;>rfl)) b
theorem dc:∀ {a l:List Nat},nS a l=true→∀ b ∈ a,b ∉ l
 | [],l,_,b,c=>by simp at c
 | i::r,l,h,b,c=>by
  rw[nS] at h;simp at h
  rcases List.mem_cons.1 c with e | c
  ·subst e;intro d;rw[G4.2 d] at h;simp at h
  ·exact dc h.2 b c
theorem dd {q:AV×De×Foot} {t:Nat} (h:o.dst≠some t):Ds (after E o st q).s t=Ds st.s t:=by
 unfold after;simp only;rw[Iu,if_neg (fun b=>h b.1)]
theorem de {q:AV×De×Foot} {b:Nat} (h:b ∉ q.2.1.map (·.1)):Ai (after E o st q).h b=Ai st.h b:=by
 unfold after;simp only
 rw[Bw]
 cases c:Az q.2.1 b with
 | false=>rfl
 | true=>exact absurd (G_.1 c) h
theorem je {w:Option Nat} {l:List Nat} (h:zV w l=false):∀ t ∈ l,w≠some t:=by
 intro t b e
 subst e
 rw[zV,G4.2 b] at h;cases h
theorem zZ {f d:AV×De×Foot} (q:Mu E ops p st=some f) (s:Mu E ops o (after E p st f)=some d) (l:XV f.2.2 d.2.2=true) :
  Mu E ops o st=some d∧Mu E ops p (after E o st d)=some f∧Eqv (after E p (after E o st d) f) (after E o (after E p st f) d):=by
 unfold XV at l
 simp only[Bool.and_eq_true,Bool.not_eq_true'] at l
 obtain⟨⟨⟨⟨i1,i2⟩,i3⟩,i4⟩,i5⟩:=l
 obtain⟨v,u1⟩:=sk q
 obtain⟨x,u2⟩:=sk s
 have m:=dc i4
 have y:=dc i5
 have a1:Mu E ops o st=some d:=DC s (fun t n=>(dd (by rw[←v];exact je i1 t n)).symm) (fun b e=>(de (fun j=>by
  rw[←u1] at j
  exact m b j (by rcases e with e | e<;>simp[e]))).symm)
 have a2:Mu E ops p (after E o st d)=some f:=DC q (fun t n=>dd (by rw[←x];exact je i2 t n)) (fun b e=>de (fun j=>by
  rw[←u2] at j
  rcases e with e | e
  ·exact y b j e
  ·exact m b e (by simp[j])))
 refine⟨a1,a2,fun t=>?_,fun b=>?_⟩
 ·unfold after;simp only
  rw[Iu,Iu,Iu,Iu]
  by_cases k:p.dst=some t∧t<E.nt
  ·by_cases i:o.dst=some t∧t<E.nt
   ·exfalso
    rw[v,x,k.1,i.1] at i3
    simp at i3
   ·rw[if_pos k,if_neg i,if_pos k]
  ·by_cases i:o.dst=some t∧t<E.nt
   ·rw[if_neg k,if_pos i,if_pos i]
   ·rw[if_neg k,if_neg i,if_neg i,if_neg k]
 ·unfold after;simp only
  refine(N4 f.2.1 d.2.1 st.h (fun c z=>?_) b).symm
  cases A:Az d.2.1 c with
  | false=>rfl
  | true =>
   have m1:c ∈ f.2.2.u:=by rw[u1];exact G_.1 z
   have m2:c ∈ d.2.2.u:=by rw[u2];exact G_.1 A
   exact absurd (by simp[m2]) (m c m1)
def RunF (E:Env) (ops:Array Oper) (fp:Nat→Foot):List (Nat×Oper)→St→St→Prop
 | [],st,e=>Eqv st e
 | (i,o)::r,st,e=>∃ q,Mu E ops o st=some q∧q.2.2=fp i∧RunF E ops fp r (after E o st q) e
theorem RunF.congr {fp:Nat→Foot}:∀ {l:List (Nat×Oper)} {st st2 e:St},RunF E ops fp l st e→Eqv st st2→RunF E ops fp l st2 e
 | [],st,st2,e,h,c=>c.symm.trans h
 | (i,o)::r,st,st2,e,h,c=>by
  rw[RunF] at h ⊢
  obtain⟨q,d,f,j⟩:=h
  exact⟨q,DC d (fun t _=>(c.1 t).symm) (fun b _=>(c.2 b).symm),f,RunF.congr j (nw c)⟩
theorem RunF.pull {fp:Nat→Foot} {i:Nat} {o:Oper} {B:List (Nat×Oper)}:∀ {A:List (Nat×Oper)} {st e:St},RunF E ops fp (A++(i,o)::B) st e→(∀ jp ∈ A,XV (fp jp.1) (fp i)=true) →
  ∃ q,Mu E ops o st=some q∧q.2.2=fp i∧RunF E ops fp (A++B) (after E o st q) e
 | [],st,e,h,_=>h
 | (j,p)::A,st,e,h,hA=>by
  rw[List.cons_append,RunF] at h
  obtain⟨b,k,c,l⟩:=h
  obtain⟨d,m,f,n⟩:=RunF.pull l (fun jp s=>hA jp (by simp[s]))
  have t:XV b.2.2 d.2.2=true:=by rw[c,f];exact hA (j,p) (by simp)
  obtain⟨a1,a2,a3⟩:=zZ k m t
  refine⟨d,a1,f,?_⟩
  rw[List.cons_append,RunF]
  exact⟨b,a2,c,RunF.congr n a3.symm⟩
end
end Gx

namespace Gx
open Go
def sm:Nat→List Oper→List (Nat×Oper)
 | _,[]=>[]
 | n,o::r=>(n,o)::sm (n+1) r
theorem cu:∀ {l:List Oper} {n:Nat} {p:Nat×Oper},p ∈ sm n l↔n≤p.1∧l[p.1 - n]?=some p.2
 | [],n,p=>by simp[sm]
 | o::r,n,p=>by
  rw[sm,List.mem_cons,cu]
  constructor
  ·rintro(rfl | ⟨d,c⟩)
   ·simp
   ·refine⟨by omega,?_⟩
    rw[show p.1 - n=(p.1 - (n+1))+1 by omega];simpa using c
  ·rintro⟨d,c⟩
   by_cases e:p.1=n
   ·left
    rw[e] at c;simp at c
    obtain⟨a,b⟩:=p
    simp at e c;subst e c;rfl
   ·right
    refine⟨by omega,?_⟩
    rw[show p.1 - n=(p.1 - (n+1))+1 by omega] at c;simpa using c
theorem df:∀ (l:List Oper) (n:Nat),(sm n l).Pairwise (fun a b=>a.1<b.1)
 | [],n=>List.Pairwise.nil
 | o::r,n=>by
  rw[sm]
  refine List.pairwise_cons.2 ⟨fun p c=>?_,df r (n+1)⟩
  have:=(cu.1 c).1
  show n<p.1;omega
section
variable {R:Type} {r:R} {Z:Start} {E:Env} {ops:Array Oper}
def RunL (E:Env) (ops:Array Oper):List Oper→List Foot→St→St→Prop
 | [],[],st,e=>st=e
 | o::l,f::fs,st,e=>∃ st' q,Eqv st st'∧Mu E ops o st'=some q∧q.2.2=f∧RunL E ops l fs (after E o st' q) e
 | _,_,_,_=>False
theorem nx:∀ {l:List Oper} {st:St} {tr:List Foot} {k:St→List Foot→O R},dH E ops l st tr k=some r→∃ fs e,k e (fs.reverse++tr)=some r∧RunL E ops l fs st e
 | [],st,tr,k,h=>⟨[],st,by simpa[dH] using h,rfl⟩
 | o::l,st,tr,k,h=>by
  rw[dH] at h
  obtain⟨st',b,h⟩:=dX h
  rw[GZ] at h
  obtain⟨q,c,d⟩:=ub h
  obtain⟨fs,e,f,i⟩:=nx d
  exact⟨q.2.2::fs,e,by simpa using f,st',q,b,c,rfl,i⟩
theorem RunL.length:∀ {l:List Oper} {fs:List Foot} {st e:St},RunL E ops l fs st e→fs.length=l.length
 | [],[],_,_,_=>rfl
 | [],_::_,_,_,h=>h.elim
 | _::_,[],_,_,h=>h.elim
 | o::l,f::fs,st,e,⟨_,q,_,_,_,h⟩=>by simp[RunL.length h]
theorem RunL.runF {fp:Nat→Foot}:∀ {l:List Oper} {fs:List Foot} {n:Nat} {st e:St},RunL E ops l fs st e→(∀ (j:Nat) (f:Foot),fs[j]?=some f→fp (n+j)=f)→RunF E ops fp (sm n l) st e
 | [],[],n,st,e,h,_=>by subst h;exact Eqv.refl _
 | [],_::_,_,_,_,h,_=>h.elim
 | _::_,[],_,_,_,h,_=>h.elim
 | o::l,f::fs,n,st,e,⟨st',q,c,d,i,k⟩,b=>by
  rw[sm]
  refine RunF.congr ?_ c.symm
  rw[RunF]
  refine⟨q,d,by rw[i];exact(b 0 f (by simp)).symm,RunL.runF k (fun j g m=>?_)⟩
  have:=b (j+1) g (by simpa using m)
  rwa [show n+(j+1)=n+1+j by omega] at this
theorem YK {f:Foot} {anc:List Nat}:∀ {seen:List Foot} {i:Nat},OZ f anc i seen=true→∀ (j:Nat) (g:Foot),seen[j]?=some g→(i+j) ∈ anc∨XV g f=true
 | [],i,_,j,g,b=>by simp at b
 | x::r,i,h,j,g,b=>by
  rw[OZ] at h;simp only[Bool.and_eq_true,Bool.or_eq_true] at h
  cases j with
  | zero =>
   simp at b;subst b
   rcases h.1 with c | c
   ·exact .inl (G4.1 c)
   ·exact .inr c
  | succ j =>
   have:=YK h.2 j g (by simpa using b)
   rwa [show i+1+j=i+(j+1) by omega] at this
theorem dg:∀ {fs:List Foot} {az9:List (List Nat)} {seen:List Foot},GR fs az9 seen=true→∀ (i:Nat) (f:Foot),fs[i]?=some f →
  ∃ a,az9[i]?=some a∧∀ (j:Nat) (g:Foot),(seen++fs)[j]?=some g→j<seen.length+i→j ∈ a∨XV g f=true
 | [],az9,seen,_,i,f,b=>by simp at b
 | x::r,[],seen,h,i,f,b=>by simp[GR] at h
 | x::r,a::az9,seen,h,i,f,b=>by
  rw[GR] at h;simp only[Bool.and_eq_true] at h
  cases i with
  | zero =>
   simp at b;subst b
   refine⟨a,by simp,fun j g c d=>?_⟩
   rw[List.getElem?_append,if_pos (by omega)] at c
   simpa using YK h.1 j g c
  | succ i =>
   obtain⟨e,k,l⟩:=dg h.2 i f (by simpa using b)
   refine⟨e,by simpa using k,fun j g c d=>l j g ?_ (by simp;omega)⟩
   simpa using c
theorem Vo:∀ {l:List Oper} {b:List (List Nat)} {i:Nat},i<b.length→(D4 l b)[i]?=b[i]?
 | [],b,i,_=>rfl
 | o::r,b,i,c=>by
  rw[D4,Wo,Vo (by simp;omega),List.getElem?_append,if_pos c]
theorem Yz:∀ {l:List Oper} {b:List (List Nat)} {i:Nat} {a:List Nat},(D4 l b)[i]?=some a→b.length≤i→∃ o,l[i - b.length]?=some o ∧
  ∀ k ∈ a,k ∈ Yp o∨∃ j f,j ∈ Yp o∧j<i∧(D4 l b)[j]?=some f∧k ∈ f
 | [],b,i,a,h,n=>by
  rw[D4,List.getElem?_eq_none n] at h;cases h
 | o::r,b,i,a,h,n=>by
  by_cases e:i=b.length
  ·subst e
   rw[D4,Wo,Vo (by simp)] at h
   simp only[List.getElem?_concat_length,Option.some.injEq] at h
   refine⟨o,by simp,fun k c=>?_⟩
   rw[←h,Wt] at c
   replace c:=c.resolve_right (by simp)
   rcases List.mem_append.1 c with c | c
   ·exact .inl c
   ·right
    obtain⟨j,s,c⟩:=List.mem_flatMap.1 c
    cases m:b[j]? with
    | none=>rw[m] at c;simp at c
    | some f =>
     rw[m] at c;simp at c
     have d:j<b.length:=(List.getElem?_eq_some_iff.1 m).1
     exact⟨j,f,s,d,by rw[Vo d];exact m,c⟩
  ·rw[D4,Wo] at h
   obtain⟨o',q,t⟩:=Yz h (by simp;omega)
   refine⟨o',?_,fun k c=>?_⟩
   ·simp at q
    rw[show i - b.length=(i - (b.length+1))+1 by omega];simpa using q
   ·rw[D4,Wo];exact t k c
theorem PI:∀ {l:List Oper} {n i:Nat} {o:Oper},Qs n l=true→l[i]?=some o→∀ e ∈ o.after,CT e=true→e.on<n+i
 | [],n,i,o,_,b,_,_,_=>by simp at b
 | x::r,n,i,o,h,b,e,c,d=>by
  rw[Qs] at h;simp only[Bool.and_eq_true] at h
  cases i with
  | zero =>
   simp at b;subst b
   have:=List.all_eq_true.1 h.1 e (by simpa using c)
   rw[d] at this;simpa using this
  | succ i =>
   have:=PI h.2 (by simpa using b) e c d
   omega
theorem jf (e:Edge):Region.binds .any e=CT e:=by
 unfold Region.binds CT
 cases e.ground<;>rfl
theorem qp {listed:Array Bool} (hclosed:∀ (j:Nat) (o:Oper),ops[j]?=some o→listed.getD j true=true→∀ k ∈ Yp o,listed.getD k false=true) :
  ∀ (i:Nat) (a:List Nat) (o:Oper),(D4 ops.toList [])[i]?=some a→ops[i]?=some o→(∀ k ∈ Yp o,listed.getD k false=true)→∀ k ∈ a,listed.getD k false=true:=by
 intro i
 induction i using Nat.strongRecOn with
 | _ i s =>
  intro a o t u m k v
  obtain⟨o',e,x⟩:=Yz t (by simp)
  simp at e
  rw[u] at e;simp at e;subst e
  rcases x k v with f | ⟨j,y,f,z,n,A⟩
  ·exact m k f
  ·have c:=m j f
   obtain⟨oj,d,_⟩:=Yz n (by simp)
   simp at d
   have l:listed.getD j true=true:=by
    rw[Array.getD_eq_getD_getElem?] at c ⊢
    cases q:listed[j]? with
    | none=>rw[q] at c;simp at c
    | some b=>rw[q] at c;simpa using c
   exact s j z y oj n d (hclosed j oj d l) k A
def Tl (ops:Array Oper) (listed:Array Bool):List (Nat×Oper):=(sm 0 ops.toList).filter fun p=>!listed.getD p.1 true
theorem DD (listed:Array Bool):(Tl ops listed).Pairwise (fun a b=>a.1<b.1):=(df _ _).filter _
theorem Wu {listed:Array Bool} {p:Nat×Oper}:p ∈ Tl ops listed↔ops[p.1]?=some p.2∧listed.getD p.1 true=false:=by
 unfold Tl
 rw[List.mem_filter,cu]
 simp
theorem ny {listed:Array Bool} {i:Nat} {o:Oper} {A B:List (Nat×Oper)} (h:Tl ops listed=A++(i,o)::B):Tl ops (listed.setIfInBounds i true)=A++B:=by
 have l:(i,o) ∈ Tl ops listed:=by rw[h];simp
 have b:=(Wu.1 l).2
 have d:i<listed.size:=by
  rw[Array.getD_eq_getD_getElem?] at b
  rcases Nat.lt_or_ge i listed.size with f | f
  ·exact f
  ·rw[Array.getElem?_eq_none f] at b;simp at b
 have m:Tl ops (listed.setIfInBounds i true)=(Tl ops listed).filter fun p=>!Nat.beq p.1 i:=by
  unfold Tl
  rw[List.filter_filter]
  congr 1;funext p
  by_cases e:p.1=i
  ·rw[e];simp[d]
  ·rw[getD_set_ne true (fun n=>e n.symm),CX e];simp
 rw[m,h,List.filter_append,List.filter_cons]
 have k:=DD (ops:=ops) listed
 rw[h] at k
 have c:=List.pairwise_append.1 k
 have hB:=List.pairwise_cons.1 c.2.1
 have q:A.filter (fun p=>!Nat.beq p.1 i)=A:=List.filter_eq_self.2 (fun p j=>by
  have:p.1<i:=c.2.2 p j (i,o) (by simp)
  rw[CX (by omega)];rfl)
 have s:B.filter (fun p=>!Nat.beq p.1 i)=B:=List.filter_eq_self.2 (fun p j=>by
  have:i<p.1:=hB.1 p j
  rw[CX (by omega)];rfl)
 rw[q,s];simp
theorem th (hC:MO E) {Q:Exit→Act→World→Prop} {fp:Nat→Foot} {e:St} (hfw:Qs 0 ops.toList=true)
  (F:∀ (i j:Nat) (o:Oper),ops[i]?=some o→j<i→∃ a,(D4 ops.toList [])[i]?=some a∧(j ∈ a∨XV (fp j) (fp i)=true))
  (hQ:∀ a' w' J' β',Inv Z E.nt J' β' e a' w'→Q .normal a' w') :
  ∀ (d:Nat) (listed:Array Bool) {st:St} {a:Act} {w:World} {J:Bool→Nat→Prop} {β:Bm},listed.size=ops.size→(Tl ops listed).length=d →
   (∀ (j:Nat) (o:Oper),ops[j]?=some o→listed.getD j true=true→∀ k ∈ Yp o,listed.getD k false=true) →
   RunF E ops fp (Tl ops listed) st e→Inv Z E.nt J β st a w→wpAny E.P .any ops Q d listed a w:=by
 intro d
 have fin:∀ (listed:Array Bool) {st:St} {a:Act} {w:World} {J:Bool→Nat→Prop} {β:Bm},Tl ops listed=[]→RunF E ops fp (Tl ops listed) st e→Inv Z E.nt J β st a w→Region.ready .any ops listed=[]∧Q .normal a w:=by
  intro listed st a w J β hr c I
  refine⟨List.eq_nil_iff_forall_not_mem.2 (fun i hi=>?_),?_⟩
  ·obtain⟨G,o,t,_⟩:=mem_ready.1 hi
   have:(i,o) ∈ Tl ops listed:=Wu.2 ⟨t,G⟩
   rw[hr] at this;simp at this
  ·rw[hr,RunF] at c
   exact hQ _ _ J β (I.eqv c)
 induction d with
 | zero =>
  intro listed st a w J β _ l _ c I
  exact fin listed (List.length_eq_zero_iff.1 l) c I
 | succ d ih =>
  intro listed st a w J β L l hclosed c I
  refine⟨fun M=>?_,fun i hi=>?_⟩
  ·
   cases m:Tl ops listed with
   | nil=>rw[m] at l;simp at l
   | cons p r =>
    exfalso
    have hp:p ∈ Tl ops listed:=by rw[m];simp
    obtain⟨n,hl⟩:=Wu.1 hp
    have O:=DD (ops:=ops) listed
    rw[m] at O
    have S:=(List.pairwise_cons.1 O).1
    have:p.1 ∈ Region.ready .any ops listed:=mem_ready.2 ⟨hl,p.2,n,fun x z hb=>by
     rw[jf] at hb
     have u:=PI hfw (i:=p.1) (o:=p.2) (by simpa using n) x z hb
     simp at u
     have T:x.on<ops.size:=by have:=(Array.getElem?_eq_some_iff.1 n).1;omega
     cases C:listed.getD x.on true with
     | true =>
      rw[Array.getD_eq_getD_getElem?] at C ⊢
      rw[Array.getElem?_eq_getElem (by omega)] at C ⊢
      simpa using C
     | false =>
      have hm:(x.on,ops[x.on]) ∈ Tl ops listed:=Wu.2 ⟨by simp[T],C⟩
      rw[m] at hm
      rcases List.mem_cons.1 hm with D | D
      ·have:x.on=p.1:=by rw[←D]
       omega
      ·have:=S _ D
       simp at this;omega⟩
    rw[M] at this;simp at this
  ·obtain⟨hl,o,n,U⟩:=mem_ready.1 hi
   have V:(i,o) ∈ Tl ops listed:=Wu.2 ⟨n,hl⟩
   obtain⟨A,B,hAB⟩:=List.append_of_mem V
   have y:∀ k ∈ Yp o,listed.getD k false=true:=by
    intro k X
    unfold Yp at X
    obtain⟨x,z,rfl⟩:=List.mem_map.1 X
    obtain⟨G,t⟩:=List.mem_filter.1 z
    exact U x (by simpa using G) (by rw[jf];exact t)
   have O:=DD (ops:=ops) listed
   rw[hAB] at O
   have hs':=List.pairwise_append.1 O
   rw[hAB] at c
   obtain⟨q,g1,g2,g3⟩:=c.pull (fun jp Y=>by
    have u:jp.1<i:=hs'.2.2 jp Y (i,o) (by simp)
    obtain⟨an,G,t⟩:=F i jp.1 o n u
    rcases t with t | t
    ·exfalso
     have:=qp hclosed i an o G n y jp.1 t
     have hjm:jp ∈ Tl ops listed:=by rw[hAB];simp[Y]
     have h3:=(Wu.1 hjm).2
     rw[Array.getD_eq_getD_getElem?] at this h3
     cases C:listed[jp.1]? with
     | none=>rw[C] at this;simp at this
     | some b=>rw[C] at this h3;simp at this h3;rw[this] at h3;cases h3
    ·exact t)
   have hone:nT E ops o st (fun s f=>some (s,f))=some (after E o st q,q.2.2):=by rw[GZ,g1];rfl
   obtain⟨st',f,h4,h5⟩:=dW (K:=wpAny E.P .any ops Q d (listed.setIfInBounds i true)) (Q:=Q) hC I hone
   simp only[Option.some.injEq,Prod.mk.injEq] at h4
   obtain⟨rfl,rfl⟩:=h4
   have u:i<listed.size:=by rw[L];exact(Array.getElem?_eq_some_iff.1 n).1
   have:=h5 (fun a' w' J' β' I'=>ih (listed.setIfInBounds i true) (by simp[L]) (by
     rw[ny hAB];rw[hAB] at l;simp at l ⊢;omega) (fun j oj v hj k X=>?_) (by rw[ny hAB];exact g3) I')
   ·unfold wpOp
    rw[n]
    simp only
    split
    ·rename_i hw;rw[if_pos hw] at this;exact .inl this
    ·rename_i hw;rw[if_neg hw] at this;exact this
   ·by_cases D:j=i
    ·subst D
     rw[n] at v;simp at v;subst v
     exact getD_set_true (y k X)
    ·rw[getD_set_ne true (fun e'=>D e'.symm)] at hj
     exact getD_set_true (hclosed j oj v hj k X)
end
end Gx

namespace Gx
open Go
section
variable {R:Type} {r:R} {Z:Start} {E:Env}
theorem i7 (hC:MO E) (T:E.P.follows .mixedOrders=true) {roots:List Nat} {id:Nat} {ops:Array Oper} {draw:Bool} {st:St} {k:St→O R} {a:Act} {w:World} {J:Bool→Nat→Prop} {β:Bm} {Q:Exit→Act→World→Prop}
  (I:Inv Z E.nt J β st a w) (C:GS E roots ops draw st k=some r) (hQ:∀ st' d w' J' β',Inv Z E.nt J' β' st' d w'→k st'=some r→Q .normal d w'):(Code.region id ops draw).wp E.P Q a w:=by
 unfold GS at C
 have done:∀ {st':St} {tr:List Foot} {d:Act} {w':World} {J':Bool→Nat→Prop} {β':Bm},Inv Z E.nt J' β' st' d w' →
   cond (!draw||(Qs 0 ops.toList&&GR tr.reverse (D4 ops.toList []) [])) ((clean (st'.s.map (·.1)) roots st').bind k) none=some r→Q .normal d w':=by
  intro st' tr d w' J' β' I' h'
  obtain⟨_,A⟩:=uc h'
  obtain⟨st2,B,K⟩:=ub A
  obtain⟨β2,I2⟩:=nl I' B
  exact hQ _ _ _ _ _ I2 K
 cases draw with
 | false=>exact wp_region_list (dY hC _ I C (fun st' U d w' J' β' I' h'=>done I' h'))
 | true =>
  obtain⟨fs,e,A,B⟩:=nx C
  obtain⟨L,K⟩:=uc A
  simp at L
  obtain⟨D,t⟩:=L
  have v:=B.length
  refine wp_region_any T ?_
  have I':Inv Z E.nt J β st a w.drew:=I.step (Step.drew I.sim) (fun b x V M=>by rw[V] at M;cases M)
  have c:Tl ops (Array.replicate ops.size false)=sm 0 ops.toList:=by
   unfold Tl
   refine List.filter_eq_self.2 (fun p X=>?_)
   have:=(cu.1 X).2
   have m:p.1<ops.size:=by
    simp at this
    exact(Array.getElem?_eq_some_iff.1 this).1
   simp[m]
  have y:(sm 0 ops.toList).length=ops.size:=by
   have:∀ (l:List Oper) (n:Nat),(sm n l).length=l.length:=by
    intro l
    induction l with
    | nil=>intro n;rfl
    | cons o r Y=>intro n;simp[sm,Y]
   rw[this];simp
  have z:RunF E ops (fun i=>fs.getD i { r:=[],w:=none,f:=[],u:=[] }) (sm 0 ops.toList) st e:=B.runF (fun j f q=>by simp[q])
  refine th hC (fp:=fun i=>fs.getD i { r:=[],w:=none,f:=[],u:=[] }) (e:=e) D (fun i j o F G=>?_) (fun d w' J' β' Ie=>done (tr:=fs.reverse++[]) Ie A) ops.size _ (by simp) (by rw[c,y]) (fun j o F q=>?_) (by rw[c];exact z) I'
  ·have S:i<fs.length:=by rw[v];simpa using(Array.getElem?_eq_some_iff.1 F).1
   obtain⟨an,g1,g2⟩:=dg t i fs[i] (List.getElem?_eq_getElem S)
   refine⟨an,g1,?_⟩
   have q:j<fs.length:=by omega
   have:=g2 j fs[j] (by simp[q]) (by simpa using G)
   simpa[S,q] using this
  ·exfalso
   have m:j<ops.size:=(Array.getElem?_eq_some_iff.1 F).1
   simp[m] at q
end
end Gx

namespace Gx
open Go
theorem PJ (ρ:Nat→Nat):∀ c:LA,(Pm ρ c).length=c.length
 | []=>rfl
 | x::r=>by rw[Pm,List.length_cons,List.length_cons,PJ ρ r]
theorem H2 (ρ:Nat→Nat) (x:Blk):(Tj ρ x).cells.length=x.cells.length:=by
 unfold Tj;cases x.pure
 ·simp;exact PJ _ _
 ·rfl
theorem jg {ρ:Nat→Nat}:∀ {c:LA} {j:Nat} {y:AV},(Pm ρ c)[j]?=some y→∃ x,c[j]?=some x∧y=HZ ρ x
 | [],j,y,b=>by simp[Pm] at b
 | x::r,j,y,b=>by
  rw[Pm] at b
  cases j with
  | zero=>simp at b;exact⟨x,by simp,b.symm⟩
  | succ j=>obtain⟨x',d,e⟩:=jg (c:=r) (j:=j) (by simpa using b);exact⟨x',by simpa using d,e⟩
section
variable {R:Type} {r:R} {J J':Bool→Nat→Prop} {β β':Bm} {h h':Ah} {w w':World} {ids:List Nat} {ρ:Nat→Nat}
theorem Iv {g:A4}:∀ {ids:List Nat},(ids.map ρ).Nodup→∀ c y,Ai (sub g ρ ids) c=some y→∃ b x,b ∈ ids∧ρ b=c∧g b=some x∧y=Tj ρ x
 | [],_,c,y,d=>by simp[sub,Ai] at d
 | b::r,f,c,y,d=>by
  rw[List.map_cons,List.nodup_cons] at f
  rw[sub] at d
  split at d
  ·rename_i x n
   rw[Af] at d
   by_cases e:c=ρ b
   ·rw[if_pos e] at d;simp at d
    exact⟨b,x,by simp,e.symm,n,d.symm⟩
   ·rw[if_neg e] at d
    obtain⟨i,x',j,k,l,m⟩:=Iv f.2 c y d
    exact⟨i,x',by simp[j],k,l,m⟩
  ·obtain⟨i,x',j,k,l,m⟩:=Iv f.2 c y d
   exact⟨i,x',by simp[j],k,l,m⟩
theorem Tv {g:A4}:∀ {ids:List Nat},(ids.map ρ).Nodup→∀ b x,b ∈ ids→g b=some x→Ai (sub g ρ ids) (ρ b)=some (Tj ρ x)
 | [],_,b,x,d,_=>by simp at d
 | j::r,c,b,x,d,f=>by
  rw[List.map_cons,List.nodup_cons] at c
  rw[sub]
  by_cases e:b=j
  ·subst e
   rw[f]
   simp only
   rw[Af,if_pos rfl]
  ·have i:b ∈ r:=by simpa[e] using d
   have ne:ρ b≠ρ j:=fun h=>c.1 (by rw[←h];exact List.mem_map.2 ⟨b,i,rfl⟩)
   split
   ·rw[Af,if_neg ne];exact Tv c.2 b x i f
   ·exact Tv c.2 b x i f
def wE (ρ:Nat→Nat) (ids:List Nat) (c:Nat):Option Nat:=ids.find? fun b=>Nat.beq (ρ b) c
theorem wF (c:(ids.map ρ).Nodup) {b:Nat} (d:b ∈ ids):wE ρ ids (ρ b)=some b:=by
 induction ids with
 | nil=>simp at d
 | cons i r f =>
  rw[List.map_cons,List.nodup_cons] at c
  unfold wE at f ⊢
  rw[List.find?_cons]
  by_cases e:b=i
  ·subst e;simp
  ·have j:b ∈ r:=by simpa[e] using d
   have ne:ρ i≠ρ b:=fun h=>c.1 (by rw[h];exact List.mem_map.2 ⟨b,j,rfl⟩)
   rw[CX ne];exact f c.2 j
def AI (ρ:Nat→Nat) (ids:List Nat) (β:Bm):Bm:=fun c=>(wE ρ ids c).bind β
theorem Ec (c:(ids.map ρ).Nodup) {b:Nat} (d:b ∈ ids):AI ρ ids β (ρ b)=β b:=by
 unfold AI;rw[wF c d];rfl
mutual
theorem Rep.ren (hn:(ids.map ρ).Nodup):∀ {x:AV} {v:Value},(∀ b ∈ D9 x,b ∈ ids)→Rep J β h w x v→Rep J (AI ρ ids β) (sub (Ai h) ρ ids) w (HZ ρ x) v
 | .own b off n,v,hm,hr=>by
  rw[Rep] at hr
  obtain⟨x,A,cap,⟨hx,hmp⟩,h1,h2,h3⟩:=hr
  have hb:=hm b (by simp[D9])
  rw[HZ,Rep]
  refine⟨Tj ρ x,A,cap,⟨Tv hn b x hb hx,hmp⟩,h1,h2,?_⟩
  rw[H2,Ec hn hb]
  exact h3
 | .optr b off,v,hm,hr=>by
  rw[Rep] at hr
  obtain⟨x,k,o,⟨hx,hmp⟩,h1,h2⟩:=hr
  have hb:=hm b (by simp[D9])
  rw[HZ,Rep]
  refine⟨Tj ρ x,k,o,⟨Tv hn b x hb hx,hmp⟩,h1,?_⟩
  rw[Ec hn hb]
  exact h2
 | .omap b,v,hm,hr=>by
  rw[Rep] at hr
  obtain⟨x,k,⟨hx,hmp⟩,h2⟩:=hr
  have hb:=hm b (by simp[D9])
  rw[HZ,Rep]
  refine⟨Tj ρ x,k,⟨Tv hn b x hb hx,hmp⟩,?_⟩
  rw[Ec hn hb]
  exact h2
 | .agg c,v,hm,hr=>by
  rw[Rep] at hr
  obtain⟨cs,h1,h2⟩:=hr
  rw[HZ,Rep]
  exact⟨cs,h1,Reps.ren hn (by simpa[D9] using hm) h2⟩
 | .tup c,v,hm,hr=>by
  rw[Rep] at hr
  obtain⟨cs,h1,h2⟩:=hr
  rw[HZ,Rep]
  exact⟨cs,h1,Reps.ren hn (by simpa[D9] using hm) h2⟩
 | .fn f c,v,hm,hr=>by
  rw[Rep] at hr
  obtain⟨cs,h1,h2⟩:=hr
  rw[HZ,Rep]
  exact⟨cs,h1,Reps.ren hn (by simpa[D9] using hm) h2⟩
 | .pagg c o,v,hm,hr=>by show Rep J _ _ w (.pagg c o) v;rw[Rep] at hr ⊢;exact hr
 | .undef,v,hm,hr=>by show Rep J _ _ w (.undef) v;rw[Rep] at hr ⊢;exact hr
 | .imm c n sz t o,v,hm,hr=>by show Rep J _ _ w (.imm c n sz t o) v;rw[Rep] at hr ⊢;exact hr
 | .iptr c o,v,hm,hr=>by show Rep J _ _ w (.iptr c o) v;rw[Rep] at hr ⊢;exact hr
 | .int k n,v,hm,hr=>by show Rep J _ _ w (.int k n) v;rw[Rep] at hr ⊢;exact hr
 | .bool b,v,hm,hr=>by show Rep J _ _ w (.bool b) v;rw[Rep] at hr ⊢;exact hr
 | .str s,v,hm,hr=>by show Rep J _ _ w (.str s) v;rw[Rep] at hr ⊢;exact hr
 | .nsl,v,hm,hr=>by show Rep J _ _ w (.nsl) v;rw[Rep] at hr ⊢;exact hr
 | .nilptr,v,hm,hr=>by show Rep J _ _ w (.nilptr) v;rw[Rep] at hr ⊢;exact hr
 | .nilfn,v,hm,hr=>by show Rep J _ _ w (.nilfn) v;rw[Rep] at hr ⊢;exact hr
theorem Reps.ren (hn:(ids.map ρ).Nodup):∀ {c:List AV} {cs:List Value},(∀ b ∈ Fa c,b ∈ ids)→Reps J β h w c cs→Reps J (AI ρ ids β) (sub (Ai h) ρ ids) w (Pm ρ c) cs
 | [],cs,hm,hr=>by rw[Reps] at hr;rw[Pm,Reps];exact hr
 | x::r,cs,hm,hr=>by
  rw[Reps] at hr
  obtain⟨u,us,h1,h2,h3⟩:=hr
  rw[Pm,Reps]
  exact⟨u,us,h1,Rep.ren hn (fun b hb=>hm b (by simp[Fa,hb])) h2,Reps.ren hn (fun b hb=>hm b (by simp[Fa,hb])) h3⟩
end
theorem SimH.ren (S:SimH J β h w) (e:(ids.map ρ).Nodup) (B:∀ b ∈ G2 (Ai h) ids,b ∈ ids):SimH J (AI ρ ids β) (sub (Ai h) ρ ids) w:=by
 refine⟨S.jlt,S.jft,S.gl,fun c y n s C=>?_,fun c y n s C=>by
   obtain⟨b,x,f,rfl,l,rfl⟩:=Iv e c y n
   obtain⟨m,t,k,ob,D,F,A,G⟩:=S.mblk b x l s C
   have:(Tj ρ x).cells=x.cells:=by unfold Tj;rw[m];rfl
   exact⟨m,t,k,ob,by rw[Ec e f];exact D,F,by rw[ObjIs,show(Tj ρ x).sz=x.sz from rfl,this];exact A,G⟩,?_⟩
 ·obtain⟨b,x,f,rfl,l,rfl⟩:=Iv e c y n
  rcases S.blk b x l s C with⟨m,t⟩ | ⟨k,o,cs,ty,fr,m,t,D,F,A,G,U⟩
  ·refine .inl ⟨by rw[Ec e f];exact m,?_⟩
   have:=H2 ρ x;rw[t] at this;simpa using this
  ·refine .inr ⟨k,o,cs,ty,fr,by rw[Ec e f];exact m,t,D,by rw[H2];exact F,⟨fun I=>?_,fun I j q O=>?_⟩,G,U⟩
   ·have d:x.pure=true:=I
    have:(Tj ρ x).cells=x.cells:=by unfold Tj;rw[d];rfl
    rw[this];exact A.1 d
   ·have d:x.pure=false:=I
    have:(Tj ρ x).cells=Pm ρ x.cells:=by unfold Tj;rw[d];rfl
    rw[this] at O
    obtain⟨V,hq,rfl⟩:=jg O
    obtain⟨u,X,Y,ho⟩:=A.2 d j V hq
    exact⟨u,X,Rep.ren e (fun v i=>B v (VM f l d v (VN hq v i))) Y,ho⟩
 ·intro c c' y y' k o o' n K s L hs T z
  obtain⟨b,x,f,rfl,l,rfl⟩:=Iv e c y n
  obtain⟨v,x',i,rfl,M,rfl⟩:=Iv e c' y' K
  rw[Ec e f] at T
  rw[Ec e i] at z
  rw[S.sep b v x x' k o o' l M s L hs T z]
theorem ln (d:(ids.map ρ).Nodup) {k:Nat} (f:nW (AI ρ ids β) (sub (Ai h) ρ ids) k):nW β h k:=by
 obtain⟨c,y,o,i,j,l,e⟩:=f
 obtain⟨b,x,m,rfl,n,rfl⟩:=Iv d c y i
 rw[Ec d m] at e
 exact⟨b,x,o,n,j,l,e⟩
end
end Gx

namespace Gx
open Go
theorem Jm {ids:List Nat}:∀ {l:List Nat},Z9 ids l=true→∀ b ∈ l,b ∈ ids
 | [],_,b,c=>by simp at c
 | i::r,h,b,c=>by
  rw[Z9] at h
  simp at h
  rcases List.mem_cons.1 c with rfl | c
  ·exact G4.1 h.1
  ·exact Jm h.2 b c
theorem Rm {d:Nat}:∀ {l:List Nat} {base b:Nat},b ∈ l→base≤Fp d (Ar base l) b∧Fp d (Ar base l) b<base+l.length
 | [],base,b,c=>by simp at c
 | i::r,base,b,c=>by
  rw[Ar,Fp]
  cases f:Nat.beq i b with
  | true=>simp
  | false =>
   have e:=Pn f
   have j:b ∈ r:=by
    rcases List.mem_cons.1 c with h | h
    ·exact absurd h.symm e
    ·exact h
   have:=Rm (d:=d) (base:=base+1) j
   simp only[cond_false,List.length_cons]
   omega
theorem nz {free ids:List Nat} {b:Nat} (h:Wp free b=true):Rh free ids b=b:=by unfold Rh;rw[h];rfl
theorem lp {free ids:List Nat} {b:Nat} (h:Wp free b=false) (c:b ∈ ids):300000≤Rh free ids b:=by
 unfold Rh vj;rw[h]
 exact(Rm (List.mem_filter.2 ⟨c,by simp[h]⟩)).1
theorem dh {b:Nat}:dK b=true↔100000≤b∧b<200000:=by unfold dK;simp
theorem YL {free ids:List Nat} {b c:Nat} (f:b ∈ ids) (i:100000≤c∧c<200000) (d:Rh free ids b=c):b=c:=by
 cases e:Wp free b with
 | true=>rw[nz e] at d;exact d
 | false=>have:=lp e f;omega
theorem Wv {ρ:Nat→Nat} {K:List Nat}:∀ {s:D8} {i:Nat},Ds (vq ρ K s) i=if Ft K i=true then HZ ρ (Ds s i) else .undef
 | [],i=>by
  show AV.undef=if Ft K i=true then HZ ρ .undef else AV.undef
  simp[HZ]
 | (t,v)::r,i=>by
  rw[vq]
  by_cases e:t=i
  ·subst e
   cases b:Ft K t with
   | true=>simp[Ds]
   | false=>simp only[cond_false];rw[Wv];simp[b]
  ·have c:Nat.beq t i=false:=CX e
   cases b:Ft K t with
   | true=>simp only[cond_true,Ds,c,cond_false];exact Wv
   | false=>simp only[cond_false,Ds,c];exact Wv
theorem oA {g:A4} {l:List Nat} {b:Nat} (h:b ∈ Tq g l):∃ x,g b=some x∧x.dead=false:=by
 unfold Tq at h
 obtain⟨_,c⟩:=List.mem_filter.1 h
 unfold Dw at c
 cases d:g b with
 | none=>simp[d] at c
 | some x =>
  cases e:x.dead with
  | false=>exact⟨x,rfl,e⟩
  | true=>simp[d,e] at c
section
variable {Z:Start} {nt:Nat} {J:Bool→Nat→Prop} {β:Bm} {st st':St} {a:Act} {w:World}
def AV.isz:AV→Nat
 | .imm _ _ s _ _=>s
 | _=>0
theorem Iw {live:List Nat}:∀ (nils:List (Nat×Nat)) {st:St} {J:Bool→Nat→Prop} {β:Bm},Inv Z nt J β st a w→Yq live nils st=some st'→∃ J' β',Inv Z nt J' β' st' a w
 | [],st,J,β,I,f=>by simp[Yq] at f;subst f;exact⟨J,β,I⟩
 | (t,sz)::r,st,J,β,I,f=>by
  rw[Yq] at f
  cases z:Nat.ble 1000000 sz with
  | true =>
   rw[z,cond_true] at f
   split at f
   ·rename_i O l
    refine Iw r (J:=J) (β:=β) (st:={ s:=MF st.s t (.imm [] 0 (sz - 1000000) false false),h:=st.h }) ?_ f
    refine { I with ss:=⟨fun i v k=>?_,fun i m=>?_⟩ }
    ·rw[Is]
     by_cases e:i=t
     ·subst e
      have:=I.ss.slot i v k
      rw[l,Rep] at this
      subst this
      rw[if_pos rfl,Rep,RepC]
      exact⟨by simp,none,0,rfl,Nat.le_refl _,fun _=>rfl,.inl rfl⟩
     ·rw[if_neg e];exact I.ss.slot i v k
    ·rw[Is]
     by_cases e:i=t
     ·subst e
      have:=I.ss.out i m
      rw[l] at this;cases this
     ·rw[if_neg e];exact I.ss.out i m
   ·rename_i b off n O l
    obtain⟨⟨v',ups,org⟩,B,T⟩:=ub f
    by_cases C:∃ v,a.tmps[t]?=some v
    ·obtain⟨v0,D⟩:=C
     have S:=I.ss.slot t v0 D
     rw[l] at S
     obtain⟨J1,A,q,_⟩:=CY I.sim (fun b x U=>⟨x,U,rfl⟩) B S
     have I1:=I.step A (fun c x u G=>by
      exfalso
      unfold IB at B
      obtain⟨y,K,j⟩:=ub B
      obtain⟨_,j⟩:=uc j
      simp at j
      obtain⟨_,j,_⟩:=j
      subst j
      simp only[Ag,Af] at u
      unfold Dw at K
      obtain⟨y0,F,_⟩:=ub K
      by_cases e:c=b
      ·subst e;rw[G] at F;cases F
      ·rw[if_neg e,G] at u;cases u)
     refine Iw r (J:=J1) (β:=β) (st:={ s:=MF st.s t v',h:=Ag ups st.h }) ?_ T
     have L:∃ c,v'=.imm c n (v'.isz) false org:=by
      unfold IB at B
      obtain⟨y,K,j⟩:=ub B
      obtain⟨_,j⟩:=uc j
      simp at j
      obtain⟨j,_,V⟩:=j
      subst j V
      exact⟨_,rfl⟩
     refine { I1 with ss:=⟨fun i v k=>?_,fun i m=>?_⟩ }
     ·rw[Is]
      by_cases e:i=t
      ·subst e
       rw[if_pos rfl]
       rw[D] at k;simp at k;subst k
       obtain⟨c,X⟩:=L
       rw[X] at q ⊢
       rw[Rep];exact q
      ·rw[if_neg e];exact I1.ss.slot i v k
     ·rw[Is]
      by_cases e:i=t
      ·subst e
       have:=I.ss.out i m
       rw[l] at this;cases this
      ·rw[if_neg e];exact I1.ss.out i m
    ·exfalso
     have:=I.ss.out t (by
      cases h:a.tmps[t]? with
      | none=>simp at h;omega
      | some v=>exact absurd ⟨v,h⟩ C)
     rw[l] at this;cases this
   ·exact Iw r I f
  | false =>
   rw[z,cond_false] at f
   split at f
   ·rename_i O l
    cases M:Ai st.h (nid t+15) with
    | some x=>simp[M] at f
    | none =>
     simp[M] at f
     have A:=Step.newNone I.sim (d:=nid t+15) (x:=Dt sz) M rfl
     have I1:=I.step A (fun b x u G=>by
      rw[Af] at u
      by_cases e:b=nid t+15
      ·subst e;unfold nid Em;omega
      ·rw[if_neg e,G] at u;cases u)
     refine Iw r (J:=J) (β:=fun b=>if b=nid t+15 then none else β b) (st:={ s:=MF st.s t (.own (nid t+15) 0 0),h:=Da st.h (nid t+15) (Dt sz) }) ?_ f
     refine { I1 with ss:=⟨fun i v k=>?_,fun i m=>?_⟩ }
     ·rw[Is]
      by_cases e:i=t
      ·subst e
       rw[if_pos rfl,Rep]
       have:=I.ss.slot i v k
       rw[l,Rep] at this
       subst this
       exact⟨Dt sz,none,0,⟨by rw[Af,if_pos rfl],rfl⟩,rfl,Nat.le_refl _,.inl rfl⟩
      ·rw[if_neg e];exact I1.ss.slot i v k
     ·rw[Is]
      by_cases e:i=t
      ·subst e
       have:=I.ss.out i m
       rw[l] at this;cases this
      ·rw[if_neg e];exact I1.ss.out i m
   ·exact Iw r I f
theorem DE {E:Env} {live roots:List Nat} (I:Inv Z nt J β st a w) (l:O_ E live roots st=some st'):∃ J' β',Inv Z nt J' β' st' a w:=by
 unfold O_ at l
 obtain⟨s1,t,u⟩:=ub l
 obtain⟨J1,β1,I1⟩:=Iw _ I t
 obtain⟨m,n⟩:=uc u
 simp at m n
 subst n
 obtain⟨c,y,e,_⟩:=m
 have c:=Nd c
 have f:∀ b ∈ G2 (Ai s1.h) (Tq (Ai s1.h) (Re (Ai s1.h) (dI live s1.s++roots))),b ∈ Tq (Ai s1.h) (Re (Ai s1.h) (dI live s1.s++roots)):=Jm e
 refine⟨J1,AI _ _ β1,{ I1 with sim:=I1.sim.ren c f,ss:=⟨fun i v z=>?_,fun i e=>?_⟩,wr:=fun k A=>I1.wr k (ln c A),outs:=fun b x0 x j B C=>?_ }⟩
 ·rw[Wv]
  cases D:Ft live i with
  | false=>simp[Rep]
  | true =>
   simp only[if_true]
   exact Rep.ren c (fun b F=>Jm y b (d5 D b F)) (I1.ss.slot i v z)
 ·rw[Wv,I1.ss.out i e];simp[HZ]
 ·obtain⟨G,x',d,q,K,rfl⟩:=Iv c b x B
  have:=YL d ⟨I1.zge b x0 j,I1.zlt b x0 j⟩ q
  subst this
  obtain⟨⟨L,em⟩,M,O,S⟩:=I1.outs G x0 x' j K C
  refine⟨⟨?_,em⟩,M,by rw[H2];exact O,S⟩
  have:=Ec (β:=β1) c d
  rw[q] at this
  rw[this];exact L
end
end Gx

namespace Gx
open Go
section
variable {R:Type} {r:R} {Z:Start} {E:Env}
theorem oB (hC:MO E) (B:E.P.follows .mixedOrders=true) {roots:List Nat} {N:Nat}:∀ (c:Code) {H:Hint} {kn:St→O R} {kx:Nat→St→O R} {kr:St→O R} {st:St} {a:Act} {w:World} {J:Bool→Nat→Prop} {β:Bm} {Q:Exit→Act→World→Prop},
  Inv Z E.nt J β st a w→Du E roots N c H kn kx kr st=some r →
  (∀ st' d w' J' β',Inv Z E.nt J' β' st' d w'→kn st'=some r→Q .normal d w') →
  (∀ id st' d w' J' β',Inv Z E.nt J' β' st' d w'→kx id st'=some r→Q (.exit id) d w') →
  (∀ st' d w' J' β',Inv Z E.nt J' β' st' d w'→kr st'=some r→Q .ret d w')→c.wp E.P Q a w:=by
 intro c
 induction c with
 | skip=>intro H kn kx kr st a w J β Q I b e f i;exact wp_skip (e _ _ _ _ _ I b)
 | region id ops draw=>intro H kn kx kr st a w J β Q I b e f i;exact i7 hC B I b e
 | seq x y m l =>
  intro H kn kx kr st a w J β Q I b e f i
  rw[Du] at b
  refine wp_seq (m I b (fun st' d w' J' β' I' h'=>?_) (fun id st' d w' J' β' I' h'=>f id st' d w' J' β' I' h') (fun st' d w' J' β' I' h'=>i st' d w' J' β' I' h'))
  unfold tZ at h'
  cases q:H.isJoin with
  | true =>
   rw[q,cond_true,Tr] at h'
   obtain⟨s2,s,u⟩:=ub h'
   obtain⟨J2,β2,I2⟩:=DE I' s
   exact l I2 u e f i
  | false=>rw[q] at h';exact l I' h' e f i
 | cond c x y m l =>
  intro H kn kx kr st a w J β Q I b e f i
  rw[Du] at b
  split at b
  ·rename_i t C
   have A:=A1 I.ss c
   rw[C,Rep] at A
   refine wp_cond A ?_
   cases t with
   | true=>exact m I b e f i
   | false=>exact l I b e f i
  ·simp at b
 | block id c v =>
  intro H kn kx kr st a w J β Q I b e f i
  rw[Du] at b
  refine wp_block (v I b (fun st' d w' J' β' I' h'=>e _ _ _ _ _ I' h') (fun j st' d w' J' β' I' h'=>?_) (fun st' d w' J' β' I' h'=>i _ _ _ _ _ I' h'))
  cases q:Nat.beq j id with
  | true =>
   rw[q] at h'
   have:=Nat.eq_of_beq_eq_true q
   subst this
   simp only[Exit.inBlock,if_true]
   exact e _ _ _ _ _ I' h'
  | false =>
   rw[q] at h'
   simp only[Exit.inBlock]
   rw[if_neg (Pn q)]
   exact f _ _ _ _ _ _ I' h'
 | loop c v =>
  intro H kn kx kr st a w J β Q I b e f i
  rw[Du,Tr] at b
  refine wp_loop_rounds N ?_
  have key:∀ (n:Nat) {st:St} {a:Act} {w:World} {J:Bool→Nat→Prop} {β:Bm},Inv Z E.nt J β st a w→CU (O_ E H.live roots) (fun k st=>Du E roots N c H.a k kx kr st) n st=some r→Code.rounds E.P c Q n a w:=by
   intro n
   induction n with
   | zero=>intro st a w J β I h';simp[CU] at h'
   | succ n z =>
    intro st a w J β I h'
    rw[CU] at h'
    rw[rounds_succ]
    refine v I h' (fun st' d w' J' β' I' h''=>?_) (fun id st' d w' J' β' I' h''=>f _ _ _ _ _ _ I' h'') (fun st' d w' J' β' I' h''=>i _ _ _ _ _ I' h'')
    obtain⟨s2,s,u⟩:=ub h''
    obtain⟨J2,β2,I2⟩:=DE I' s
    exact z I2 u
  obtain⟨s2,s,u⟩:=ub b
  obtain⟨J2,β2,I2⟩:=DE I s
  exact key N I2 u
 | exit id=>intro H kn kx kr st a w J β Q I b e f i;exact wp_exit (f _ _ _ _ _ _ I b)
 | ret=>intro H kn kx kr st a w J β Q I b e f i;exact wp_ret (i _ _ _ _ _ I b)
 | rangeFunc=>intro H kn kx kr st a w J β Q I b;simp[Du] at b
 | scope=>intro H kn kx kr st a w J β Q I b;simp[Du] at b
 | label=>intro H kn kx kr st a w J β Q I b;simp[Du] at b
 | goto=>intro H kn kx kr st a w J β Q I b;simp[Du] at b
 | refuse=>intro H kn kx kr st a w J β Q I b;simp[Du] at b
end
end Gx

namespace Gx
open Go
structure FDone (Z:Start) (J:Bool→Nat→Prop) (β:Bm) (h:Ah) (w:World):Prop where
 sim:SimH J β h w
 os:w.os=Z.w.os
 tape:w.tape=Z.w.tape
 output:w.output=Z.w.output
 size:Z.w.heap.size≤w.heap.size
 frame:∀ k,k<Z.w.heap.size→¬ nW Z.β Z.h k→w.heap[k]?=Z.w.heap[k]?
 wr:∀ k,nW β h k→k<Z.w.heap.size→nW Z.β Z.h k
 jsub:∀ o k,Z.J o k→J o k
 jup:∀ o k,J o k→Z.J o k∨nW Z.β Z.h k∨Z.w.heap.size≤k
 sizes:∀ k,A3 Z.w k≤A3 w k
 outs:∀ b x0 x,Ai Z.h b=some x0→Ai h b=some x→x.dead=false→(β b=Z.β b∧x.mp=x0.mp)∧x.sz=x0.sz∧(x0.mp=false→x.cells.length=x0.cells.length)∧x0.dead=false
 live:∀ b x,Ai h b=some x→x.dead=false
def zW (P:Program) (f:Nat) (args:LA) (h:Ah) (res:AV) (h':Ah):Prop :=
 ∀ (J:Bool→Nat→Prop) (β:Bm) (w:World) (vs:List Value),SimH J β h w→Reps J β h w args vs →
  Calls P f vs.toArray w fun e w'=>∃ vc J' β',e=.returned vc∧FDone ⟨J,β,h,w⟩ J' β' h' w'∧Rep J' β' h' w' res vc
def oC (P:Program) (f:Nat) (t:Tw):Prop:=∀ args h res h',(t.runK args h fun v h'=>some (v,h'))=some (res,h')→zW P f args h res h'
def di (P:Program):List (Nat×Tw)→Prop
 | []=>True
 | p::r=>oC P p.1 p.2∧di P r
theorem oD {P:Program} {R:Type} {r:R}:∀ {T:List (Nat×Tw)},di P T→∀ {f:Nat} {b:LA} {h:Ah} {k:AV→Ah→O R},OX T f b h k=some r →
  ∃ c h',zW P f b h c h'∧k c h'=some r
 | [],_,f,b,h,k,d=>by simp[OX] at d
 | (g,t)::T,hT,f,b,h,k,d=>by
  rw[OX] at d
  cases e:Nat.beq g f with
  | false=>rw[e] at d;exact oD hT.2 d
  | true =>
   rw[e] at d
   have:=Nat.eq_of_beq_eq_true e
   subst this
   simp only[cond_true] at d
   rw[t.eq] at d
   obtain⟨⟨c,h'⟩,i,j⟩:=ub d
   exact⟨c,h',hT.1 b h c h' i,j⟩
section
variable {R:Type} {r:R} {Z:Start} {nt:Nat} {J:Bool→Nat→Prop} {β:Bm} {st:St} {a:Act} {w:World}
def PK (tmps:Array Value):ResultVar→Sem Value
 | .tmp t=>pure (tmps.getD t undef)
 | .cell a t=>do loadVar t (←Go.asAddr (tmps.getD a undef))
theorem wG {α β:Type} (f:α→Sem β) (xs:Array α):xs.mapM f=(List.toArray <$> xs.toList.mapM f):=by
 rw[←List.mapM_toArray]
theorem qq (fn:Func) (tmps:Array Value):results fn tmps=(do let vs ←fn.results.mapM (PK tmps);pure (if h:vs.size=1 then vs[0] else .tuple vs)):=by
 unfold results
 congr 1
def oE (l:List Value):Value:=match l with | [v]=>v | l=>.tuple l.toArray
theorem oF {P:Program} (fn:Func) (tmps:Array Value) {vs:List Value} (h:(fn.results.toList.mapM (PK tmps)).run P w=.ok vs w):(results fn tmps).run P w=.ok (oE vs) w:=by
 rw[qq,wG]
 simp only[map_eq_pure_bind,Sem.run_bind,h,Result.andThen_ok,Sem.run_pure]
 congr 1
 match vs with
 | []=>rfl
 | [v]=>rfl
 | v::u::r=>simp[oE]
theorem oG {P:Program} {t:TypeId} {v vc:Value} (h:(Instr.loadAt t v).run P w=.ok vc w):(do loadVar t (←Go.asAddr v):Sem Value).run P w=.ok vc w:=by
 unfold Instr.loadAt at h
 cases v with
 | pointer a =>
  cases a with
  | some a=>exact h
  | none=>simp[Instr.sureAddr] at h
 | _=>simp[Instr.sureAddr] at h
theorem Vp {E:Env} (S:SimH J β st.h w) (SS:SimS J β st.h w st.s a.tmps):∀ (l:List ResultVar) {b:LA} {k:LA→O R},Ir E st l b k=some r →
  ∃ vals vs,k (b.reverse++vals)=some r∧(l.mapM (PK a.tmps)).run E.P w=.ok vs w∧Reps J β st.h w vals vs
 | [],b,k,c=>⟨[],[],by simpa[Ir] using c,by simp,by rw[Reps]⟩
 | .tmp t::l,b,k,c=>by
  rw[Ir] at c
  obtain⟨vals,vs,d,e,f⟩:=Vp S SS l c
  refine⟨Ds st.s t::vals,a.tmps.getD t undef::vs,by simpa using d,?_,by rw[Reps];exact⟨_,_,rfl,A1 SS (.tmp t),f⟩⟩
  simp only[List.mapM_cons,PK,Sem.run_bind,Sem.run_pure,Result.andThen_ok,e]
 | .cell ad t::l,b,k,c=>by
  rw[Ir] at c
  obtain⟨v,vc,i,d,e⟩:=XY S (fun _ _ h=>h) c (A1 SS (.tmp ad))
  obtain⟨vals,vs,f,j,m⟩:=Vp S SS l i
  refine⟨v::vals,vc::vs,by simpa using f,?_,by rw[Reps];exact⟨_,_,rfl,e,m⟩⟩
  have:(PK a.tmps (.cell ad t)).run E.P w=.ok vc w:=oG d
  simp only[List.mapM_cons,Sem.run_bind,this,Sem.run_pure,Result.andThen_ok,j]
theorem qr {i:Nat} {m:Nat×Nat} {v v':AV} {ups:De} {vc:Value} {h:Ah} (S:SimH J β h w) (d:yS (Ai h) i m v=some (v',ups)) (f:Rep J β h w v vc) :
  ∃ J' β',Step J β h w J' β' (Ag ups h) w∧Rep J' β' (Ag ups h) w v' vc∧(∀ b x,Ai (Ag ups h) b=some x→Ai h b=none→Em≤b):=by
 have old:∀ {ups:De},(∀ b,Az ups b=true→∃ x,Ai h b=some x)→∀ b x,Ai (Ag ups h) b=some x→Ai h b=none→Em≤b:=by
  intro ups D b x j q
  cases u:Az ups b with
  | true=>obtain⟨y,F⟩:=D b u;rw[F] at q;cases q
  | false=>rw[Bw _ _ _ u,q] at j;cases j
 unfold yS at d
 cases z:Nat.beq m.1 0 with
 | true =>
  rw[z] at d;simp at d
  obtain⟨rfl,rfl⟩:=d
  exact⟨J,β,Step.refl S,f,old (by simp[Az])⟩
 | false =>
  rw[z,cond_false] at d
  cases B:Nat.beq m.1 1 with
  | true =>
   rw[B,cond_true] at d
   split at d
   ·simp at d;obtain⟨rfl,rfl⟩:=d
    rw[Rep] at f;subst f
    refine⟨J,β,Step.refl S,?_,old (by simp[Az])⟩
    rw[Rep,RepC]
    exact⟨by simp,none,0,rfl,Nat.le_refl _,by simp,.inl rfl⟩
   ·simp at d;obtain⟨rfl,rfl⟩:=d
    refine⟨J,β,Step.refl S,?_,old (by simp[Az])⟩
    rw[Rep,RepC] at f ⊢
    obtain⟨G,A,cap,I,K,X,L⟩:=f
    exact⟨G,A,cap,I,K,by simp,L⟩
   ·obtain⟨⟨M,O,T⟩,hq,l⟩:=ub d
    simp at l;obtain⟨rfl,rfl⟩:=l
    obtain⟨J',A,hA,_⟩:=CY S (Looks.s fun _ _ h=>h) hq f
    refine⟨J',β,A,?_,old (ja hq)⟩
    unfold IB at hq
    obtain⟨x,j,k⟩:=ub hq
    obtain⟨_,C⟩:=uc k
    simp at C
    obtain⟨rfl,rfl,rfl⟩:=C
    rw[Rep];exact hA
   ·simp at d
  | false =>
   rw[B,cond_false] at d
   cases l:Nat.beq m.1 2 with
   | true =>
    rw[l,cond_true] at d
    split at d
    ·obtain⟨q,k⟩:=qX d
     simp at k;obtain⟨rfl,rfl⟩:=k
     have t:Ai h (nid 90000+i)=none:=by cases j:Ai h (nid 90000+i)<;>simp_all
     have A:=Step.newNone S (x:=Dt m.2) t rfl
     refine⟨J,fun b=>if b=nid 90000+i then none else β b,A,?_,fun b x j U=>?_⟩
     ·rw[Rep] at f;subst f;rw[Rep]
      exact⟨Dt m.2,none,0,⟨by simp only[Ag];rw[Af,if_pos rfl],rfl⟩,rfl,Nat.le_refl _,.inl rfl⟩
     ·simp only[Ag] at j
      rw[Af] at j
      by_cases e:b=nid 90000+i
      ·subst e;unfold nid Em;omega
      ·rw[if_neg e,U] at j;cases j
    ·simp at d;obtain⟨rfl,rfl⟩:=d
     exact⟨J,β,Step.refl S,f,old (by simp[Az])⟩
   | false =>
    rw[l,cond_false] at d
    split at d
    ·rename_i c
     obtain⟨⟨M,O,T⟩,hq,k⟩:=ub d
     simp at k;obtain⟨rfl,rfl⟩:=k
     rw[Rep] at f
     obtain⟨cs,rfl,V⟩:=f
     obtain⟨J',A,hA,n,_⟩:=Li S (Looks.s fun _ _ h=>h) hq V
     refine⟨J',β,A,?_,old (Ri hq)⟩
     rw[Rep]
     exact⟨cs,rfl,n.symm,hA⟩
    ·simp at d;obtain⟨rfl,rfl⟩:=d
     exact⟨J,β,Step.refl S,f,old (by simp[Az])⟩
    ·simp at d
theorem YM {s:D8}:∀ (vals:LA) {i:Nat} {ms:List (Nat×Nat)} {h h':Ah} {vals':LA} {vs:List Value} {J:Bool→Nat→Prop} {β:Bm},
  Inv Z nt J β { s:=s,h:=h } a w→nU h i ms vals=some (vals',h')→Reps J β h w vals vs →
  ∃ J' β',Inv Z nt J' β' { s:=s,h:=h' } a w∧Reps J' β' h' w vals' vs∧∀ x v,Rep J β h w x v→Rep J' β' h' w x v
 | [],i,ms,h,h',vals',vs,J,β,I,b,d=>by
  simp[nU] at b;obtain⟨rfl,rfl⟩:=b
  exact⟨J,β,I,d,fun _ _ h=>h⟩
 | v::r,i,ms,h,h',vals',vs,J,β,I,b,d=>by
  rw[nU] at b
  obtain⟨⟨v1,u1⟩,l,m⟩:=ub b
  obtain⟨⟨t,y⟩,n,j⟩:=ub m
  simp at j;obtain⟨rfl,rfl⟩:=j
  rw[Reps] at d
  obtain⟨u,q,rfl,e,f⟩:=d
  obtain⟨J1,β1,A,hA,c⟩:=qr I.sim l e
  have I1:=I.step A c
  obtain⟨J2,β2,I2,hB,k⟩:=YM r I1 n (Reps.ext A.ext f)
  refine⟨J2,β2,I2,?_,fun x v h=>k x v (Rep.ext A.ext h)⟩
  rw[Reps]
  exact⟨u,q,rfl,k _ _ hA,hB⟩
theorem i8 {E:Env} {fn:Func} {modes:List (Nat×Nat)} {outs:List Nat} {k:AV→Ah→O R} (I:Inv Z nt J β st a w) (z:P0 E fn modes outs k st=some r) :
  ∃ f h' vc J' β',k f h'=some r∧(results fn a.tmps).run E.P w=.ok vc w∧FDone Z J' β' h' w∧Rep J' β' h' w f vc:=by
 unfold P0 at z
 obtain⟨vals,vs,A,F,G⟩:=Vp I.sim I.ss _ z
 simp only[List.reverse_nil,List.nil_append] at A
 obtain⟨⟨vals',h'⟩,K,L⟩:=ub A
 obtain⟨J1,β1,I1,hR,_⟩:=YM (s:=st.s) vals I K G
 obtain⟨B,M⟩:=uc L
 simp at B
 obtain⟨e,i,S,_⟩:=B
 have e:=Nd e
 have j:=Jm S
 have i:=Jm i
 refine⟨_,_,oE vs,J1,AI _ _ β1,M,oF fn a.tmps F,?_,Rep.ren e i ?_⟩
 ·exact⟨I1.sim.ren e j,I1.os,I1.tape,I1.output,I1.size,I1.frame,fun k T=>I1.wr k (ln e T),I1.jsub,I1.jup,I1.sizes,fun b x0 x m n U=>by
   obtain⟨C,x',d,q,t,rfl⟩:=Iv e b x n
   have:=YL d ⟨I1.zge b x0 m,I1.zlt b x0 m⟩ q
   subst this
   obtain⟨⟨V,em⟩,X,Y,e4⟩:=I1.outs C x0 x' m t U
   refine⟨⟨?_,em⟩,X,by rw[H2];exact Y,e4⟩
   have:=Ec (β:=β1) e d
   rw[q] at this
   rw[this];exact V,fun b x n=>by
   obtain⟨C,x',d,q,t,rfl⟩:=Iv e b x n
   obtain⟨x2,y,h8⟩:=oA d
   rw[t] at y;simp at y;subst y;exact h8⟩
 ·match vals',vs,hR with
  | [],vs,hR=>rw[Reps] at hR;subst hR;simp only[oE,yT];rw[Rep];exact⟨[],rfl,by rw[Reps]⟩
  | [v],vs,hR =>
   rw[Reps] at hR
   obtain⟨u,us,rfl,D,c⟩:=hR
   rw[Reps] at c;subst c
   exact D
  | v::v2::l,vs,hR =>
   have hR':=hR
   rw[Reps] at hR
   obtain⟨u,us,rfl,D,c⟩:=hR
   rw[Reps] at c
   obtain⟨u2,us2,rfl,_,_⟩:=c
   simp only[oE,yT]
   rw[Rep]
   exact⟨_,rfl,hR'⟩
end
end Gx

namespace Gx
open Go
section
variable {J J':Bool→Nat→Prop} {β:Bm} {h:Ah} {w:World}
mutual
theorem Rep.noOrg:∀ {x:AV} {v:Value},Vj x=false→Rep J β h w x v→Rep (fun _=>J false) β h w x v
 | .own ..,v,_,hr=>by rw[Rep] at hr ⊢;exact hr
 | .optr ..,v,_,hr=>by rw[Rep] at hr ⊢;exact hr
 | .omap ..,v,_,hr=>by rw[Rep] at hr ⊢;exact hr
 | .pagg c o,v,ho,hr=>by
  rw[Vj] at ho;subst ho
  rw[Rep] at hr ⊢;exact hr
 | .agg c,v,ho,hr=>by
  rw[Vj] at ho
  rw[Rep] at hr ⊢
  obtain⟨cs,h1,h2⟩:=hr
  exact⟨cs,h1,Reps.noOrg ho h2⟩
 | .tup c,v,ho,hr=>by
  rw[Vj] at ho
  rw[Rep] at hr ⊢
  obtain⟨cs,h1,h2⟩:=hr
  exact⟨cs,h1,Reps.noOrg ho h2⟩
 | .fn f c,v,ho,hr=>by
  rw[Vj] at ho
  rw[Rep] at hr ⊢
  obtain⟨cs,h1,h2⟩:=hr
  exact⟨cs,h1,Reps.noOrg ho h2⟩
 | .undef,_,_,_=>by rw[Rep];trivial
 | .imm c n sz t o,v,ho,hr=>by
  rw[Vj] at ho;subst ho
  rw[Rep] at hr ⊢;exact hr
 | .iptr c o,v,ho,hr=>by
  rw[Vj] at ho;subst ho
  rw[Rep] at hr ⊢;exact hr
 | .int ..,v,_,hr=>by rw[Rep] at hr ⊢;exact hr
 | .bool _,v,_,hr=>by rw[Rep] at hr ⊢;exact hr
 | .str _,v,_,hr=>by rw[Rep] at hr ⊢;exact hr
 | .nsl,v,_,hr=>by rw[Rep] at hr ⊢;exact hr
 | .nilptr,v,_,hr=>by rw[Rep] at hr ⊢;exact hr
 | .nilfn,v,_,hr=>by rw[Rep] at hr ⊢;exact hr
theorem Reps.noOrg:∀ {c:List AV} {cs:List Value},N0 c=false→Reps J β h w c cs→Reps (fun _=>J false) β h w c cs
 | [],_,_,hr=>by rw[Reps] at hr ⊢;exact hr
 | x::r,cs,ho,hr=>by
  rw[N0] at ho
  simp at ho
  rw[Reps] at hr ⊢
  obtain⟨u,us,h1,h2,h3⟩:=hr
  exact⟨u,us,h1,Rep.noOrg ho.1 h2,Reps.noOrg ho.2 h3⟩
end
theorem dj:∀ {c:LA} {j:Nat} {x:AV},N0 c=false→c[j]?=some x→Vj x=false
 | [],j,x,_,b=>by simp at b
 | y::r,j,x,d,b=>by
  rw[N0] at d
  simp at d
  cases j with
  | zero=>simp at b;subst b;exact d.1
  | succ j=>exact dj d.2 (by simpa using b)
theorem dk:∀ {h:Ah} {b:Nat} {x:Blk},OY h=false→Ai h b=some x→x.taint=false∧(x.pure=false→N0 x.cells=false)
 | [],b,x,_,c=>by simp[Ai] at c
 | (i,y)::r,b,x,d,c=>by
  rw[OY] at d
  simp at d
  rw[Ai] at c
  cases e:Nat.beq i b with
  | true =>
   rw[e] at c;simp at c;subst c
   refine⟨d.1.1,fun f=>?_⟩
   have:=d.1.2
   rw[f] at this;simpa using this
  | false=>rw[e] at c;exact dk d.2 (by simpa using c)
theorem SimH.noOrg (S:SimH J β h w) (z:OY h=false):SimH (fun _=>J false) β h w:=by
 refine⟨fun _ k d=>S.jlt _ k d,fun k d=>d,S.gl.to (fun _ h=>h) (fun _ _=>rfl),fun b x e i l=>?_,fun b x e i l=>by
   obtain⟨m,n,k,ob,q,A,B,C⟩:=S.mblk b x e i l
   exact⟨m,n,k,ob,q,A,B,fun _ D=>C false D⟩,S.sep⟩
 obtain⟨v,F⟩:=dk z e
 rcases S.blk b x e i l with s | ⟨k,o,cs,ty,fr,s,G,I,K,y,L,M⟩
 ·exact .inl s
 ·refine .inr ⟨k,o,cs,ty,fr,s,G,I,K,⟨fun f=>?_,fun f j c d=>?_⟩,fun t _=>L t _,fun t=>?_⟩
  ·have:=y.1 f;rw[v] at this;exact this
  ·obtain⟨u,m,n,q⟩:=y.2 f j c d
   exact⟨u,m,Rep.noOrg (dj (F f) d) n,q⟩
  ·have:=M t;rw[v] at this;exact this
theorem Ext.grow (hJ:∀ o k,J o k→J' o k):Ext J β h w J' β h w:=⟨hJ,fun _ _ _=>rfl,fun b x c=>⟨x,⟨c,rfl⟩,by cases d:x.dead<;>simp⟩,fun _ _ _ _=>Nat.le_refl _⟩
theorem SimH.grow (S:SimH J β h w) (hJ:∀ o k,J o k→J' o k) (i:∀ o k,J' o k→k<w.heap.size) (j:∀ k,J' false k→J' true k)
  (c:∀ b x k o,Ai h b=some x→x.dead=false→x.sealed=false→β b=some (k,o)→∀ g,¬ J' g k):SimH J' β h w:=by
 refine⟨i,j,S.gl.to (hJ false) (fun _ _=>rfl),fun b x d e l=>?_,fun b x d e l=>by
   obtain⟨s,n,k,ob,q,t,u,C⟩:=S.mblk b x d e l
   exact⟨s,n,k,ob,q,t,u,c b x k 0 d e n q⟩,S.sep⟩
 rcases S.blk b x d e l with f | ⟨k,o,cs,ty,fr,f,v,y,z,A,D,B⟩
 ·exact .inl f
 ·exact .inr ⟨k,o,cs,ty,fr,f,v,y,z,A.ext (Ext.grow hJ),fun m=>c b x k o d e m f,fun m=>hJ _ _ (B m)⟩
def zD (β:Bm) (h:Ah) (fz:List Nat) (k:Nat):Prop:=∃ b x o,b ∈ fz∧Ai h b=some x∧x.dead=false∧x.sealed=false∧β b=some (k,o)
def JS (J:Bool→Nat→Prop) (β:Bm) (h:Ah) (fz:List Nat):Bool→Nat→Prop:=fun o k=>J o k∨(o=true∧zD β h fz k)
theorem dl {g:A4} {b off n:Nat} {x:Blk} {vc:Value} {fz:List Nat} (S:SimH J β h w) (v:Looks g h) (c:Dw g b=some x) (y:x.pure=true) (z:x.sealed=false→b ∈ fz) (t:Rep J β h w (.own b off n) vc) :
  Rep (JS J β h fz) β h w (.imm ((x.cells.drop off).take (n*x.sz)) n x.sz false (!x.sealed||x.taint)) vc:=by
 unfold Dw at c
 obtain⟨x0,m,c⟩:=ub c
 obtain⟨q,c⟩:=qX c
 simp at c;subst c
 have j:=v b _ m
 rw[Rep]
 have key:=(se (J':=fun o k=>o≠x0.taint∨JS J β h fz (!x0.sealed||x0.taint) k) S j q y t (fun k o s=>.inr ?_) (fun o k f=>?_) false (!x0.sealed||x0.taint)).2 (by simp)
 ·exact RepC.keep (fun k i=>by rcases i with i | i;exact absurd rfl i;exact i) (fun _ _=>rfl) key
 ·cases l:x0.sealed with
  | false =>
   simp only[Bool.not_false,Bool.true_or]
   exact .inr ⟨rfl,b,x0,o,z l,j,q,l,s⟩
  | true =>
   simp only[Bool.not_true,Bool.false_or]
   rcases S.blk b x0 j q (vt j t) with⟨d,_⟩ | ⟨B,o',cs,ty,fr,d,C,D,F,G,I,A⟩
   ·rw[s] at d;cases d
   ·rw[s] at d;simp at d;obtain⟨rfl,rfl⟩:=d
    exact .inl (A l)
 ·by_cases e:o=x0.taint
  ·subst e
   right
   cases l:x0.sealed with
   | false =>
    simp only[Bool.not_false,Bool.true_or]
    left
    cases u:x0.taint with
    | false=>rw[u] at f;exact S.jft k f
    | true=>rw[u] at f;exact f
   | true=>simp only[Bool.not_true,Bool.false_or];exact .inl f
  ·exact .inl e
theorem JS.mono (S:SimH J β h w) {fz:List Nat} {a b:Bool} (k:Nat) (c:JS J β h fz a k):JS J β h fz (a||b) k:=by
 cases a
 ·cases b
  ·exact c
  ·rcases c with c | ⟨d,_⟩
   ·exact .inl (S.jft k c)
   ·cases d
 ·exact c
theorem i_ {g:A4} {v v':AV} {o:Bool} {vc:Value} {fz:List Nat} (S:SimH J β h w) (q:Looks g h) (d:Ym g v=some (v',o)) (s:∀ b off n x,v=.own b off n→g b=some x→x.sealed=false→b ∈ fz) (f:Rep J β h w v vc) :
  RepC (JS J β h fz o) w v' vc:=by
 cases v
 case own b off n =>
  rw[Ym] at d
  obtain⟨x,e,u⟩:=ub d
  obtain⟨y,m⟩:=uc u
  simp at m
  obtain⟨rfl,rfl⟩:=m
  have:=dl S q e y (fun z=>by
   unfold Dw at e
   obtain⟨x0,i,e⟩:=ub e
   obtain⟨K,e⟩:=qX e
   simp at e;subst e
   exact s b off n x0 rfl i z) f
  rw[Rep] at this;exact this
 case imm c n sz t org =>
  simp[Ym] at d;obtain⟨rfl,rfl⟩:=d
  rw[Rep,RepC] at f
  rw[RepC]
  obtain⟨B,A,cap,C,D,L,j⟩:=f
  refine⟨B,A,cap,C,D,by simp,?_⟩
  rcases j with j | ⟨a,F,G,I⟩
  ·exact .inl j
  ·exact .inr ⟨a,F,.inl G,RepCs.keep (fun k l=>.inl l) (fun _ _=>rfl) (fun _=>rfl) I⟩
 case iptr c org =>
  simp[Ym] at d;obtain⟨rfl,rfl⟩:=d
  rw[Rep] at f
  exact RepC.keep (fun k l=>.inl l) (fun _ _=>rfl) f
 all_goals first
  | (simp[Ym] at d;done)
  | (simp[Ym] at d;obtain⟨rfl,rfl⟩:=d;rw[Rep] at f;rw[RepC];exact f)
theorem DF {g:A4} {fz:List Nat} (S:SimH J β h w) (t:Looks g h):∀ {c c':LA} {o:Bool} {cs:List Value},CP g c=some (c',o)→(∀ b ∈ Gf g c,b ∈ fz)→Reps J β h w c cs →
  cs.length=c'.length∧∀ (j:Nat) (x:AV),c'[j]?=some x→∃ u,cs[j]?=some u∧RepC (JS J β h fz o) w x u
 | [],c',o,cs,d,l,f=>by
  simp[CP] at d;obtain⟨rfl,rfl⟩:=d
  rw[Reps] at f;subst f
  exact⟨rfl,fun j x i=>by simp at i⟩
 | v::r,c',o,cs,d,l,f=>by
  rw[CP] at d
  obtain⟨⟨v1,o1⟩,y,d⟩:=ub d
  obtain⟨⟨M,o2⟩,z,d⟩:=ub d
  simp at d;obtain⟨rfl,rfl⟩:=d
  rw[Reps] at f
  obtain⟨u,O,rfl,A,B⟩:=f
  have m:∀ b ∈ Gf g r,b ∈ fz:=fun b q=>l b (by
   cases v<;>simp only[Gf]<;>try exact q
   split
   ·rename_i x _;cases x.sealed<;>simp[q]
   ·exact q)
  have a1:=i_ (fz:=fz) S t y (fun b off n x e C D=>l b (by subst e;simp[Gf,C,D])) A
  obtain⟨F,G⟩:=DF S t z m B
  refine⟨by simp[F],fun j x i=>?_⟩
  cases j with
  | zero=>simp at i;subst i;exact⟨u,by simp,RepC.keep (fun k s=>JS.mono S k s) (fun _ _=>rfl) a1⟩
  | succ j =>
   obtain⟨I,K,L⟩:=G j x (by simpa using i)
   exact⟨I,by simpa using K,RepC.keep (fun k s=>by rw[Bool.or_comm];exact JS.mono S k s) (fun _ _=>rfl) L⟩
theorem ia {g:A4} {v v':AV} {q:Bool} {vc:Value} {fz:List Nat} (S:SimH J β h w) (C:Looks g h) (e:lS g v=some (v',q)) (D:∀ b ∈ Wm g v,b ∈ fz) (i:Rep J β h w v vc) :
  Rep (JS J β h fz) β h w v' vc∧D9 v'=[]:=by
 unfold lS at e
 split at e
 ·rename_i b off n
  obtain⟨x,d,f⟩:=ub e
  obtain⟨F,m⟩:=uc f
  simp at m
  obtain⟨rfl,_⟩:=m
  exact⟨dl S C d F (fun y=>by
   unfold Dw at d
   obtain⟨x0,s,d⟩:=ub d
   obtain⟨z,d⟩:=qX d
   simp at d;subst d
   exact D b (by simp[Wm,s,y])) i,by simp[D9]⟩
 ·simp at e;obtain⟨rfl,_⟩:=e
  refine⟨?_,by simp[D9]⟩
  rw[Rep,RepC] at i ⊢
  obtain⟨G,A,cap,I,U,e4,K⟩:=i
  refine⟨G,A,cap,I,U,by simp,?_⟩
  rcases K with K | ⟨a,V,X,Y⟩
  ·exact .inl K
  ·exact .inr ⟨a,V,.inl X,RepCs.keep (fun k hk=>.inl hk) (fun _ _=>rfl) (fun _=>rfl) Y⟩
 ·rename_i b off
  obtain⟨x,d,f⟩:=ub e
  obtain⟨F,m⟩:=uc f
  simp at m
  obtain⟨rfl,_⟩:=m
  unfold Dw at d
  obtain⟨x0,s,d⟩:=ub d
  obtain⟨z,d⟩:=qX d
  simp at d;subst d
  have L:=C b _ s
  refine⟨?_,by simp[D9]⟩
  rw[Rep] at i
  obtain⟨x1,k,o,⟨M,gm⟩,g2,t⟩:=i
  rw[L] at M;simp at M;subst M
  rcases t with t | t
  ·simp[z] at t
  ·rcases S.blk b x0 L z gm with⟨f,_⟩ | ⟨k',o',cs,ty,fr,f,m,h3,h4,h5,h6,h7⟩
   ·rw[t] at f;cases f
   ·rw[t] at f;simp at f;obtain⟨rfl,rfl⟩:=f
    have O:∀ B,J x0.taint B→JS J β h fz (!x0.sealed||x0.taint) B:=by
     intro B l
     left
     cases y:x0.sealed with
     | false =>
      simp only[Bool.not_false,Bool.true_or]
      cases T:x0.taint with
      | false=>rw[T] at l;exact S.jft B l
      | true=>rw[T] at l;exact l
     | true=>simp only[Bool.not_true,Bool.false_or];exact l
    rw[Rep,RepC]
    refine⟨_,g2,?_,?_⟩
    ·cases y:x0.sealed with
     | false =>
      simp only[Bool.not_false,Bool.true_or]
      exact .inr ⟨rfl,b,x0,o,D b (by simp[Wm,s,y]),L,z,y,t⟩
     | true =>
      simp only[Bool.not_true,Bool.false_or]
      exact .inl (h7 y)
    ·refine RepCs.keep O (fun _ _=>rfl) (fun j=>?_) ((h5.1 F).drop off)
     rw[Addr.add_mid,Oh m,Nat.add_assoc]
 ·rename_i c
  obtain⟨⟨c1,o1⟩,f,m⟩:=ub e
  simp at m;obtain⟨rfl,_⟩:=m
  rw[Rep] at i
  obtain⟨cs,rfl,i⟩:=i
  obtain⟨b1,b2⟩:=DF (fz:=fz) S C f (by simpa[Wm] using D) i
  refine⟨?_,by simp[D9]⟩
  rw[Rep]
  refine⟨cs,rfl,b1,?_⟩
  rw[Bi]
  intro j x l
  obtain⟨u,G,I⟩:=b2 j x l
  exact⟨u,by simpa using G,I⟩
 ·simp at e;obtain⟨rfl,_⟩:=e
  exact⟨Rep.ext (Ext.grow fun _ _ l=>.inl l) i,by simp[D9,Fa]⟩
 ·simp at e
 ·simp at e
 ·simp at e
 ·simp at e
 ·simp at e;obtain⟨rfl,_⟩:=e
  refine⟨Rep.ext (Ext.grow fun _ _ l=>.inl l) i,?_⟩
  cases v<;>first | rfl | simp_all
theorem Rn {g:A4} {fz:List Nat} (S:SimH J β h w) (n:Looks g h):∀ {f:LA} {ms:List Bool} {args':LA} {im e:List Nat} {vs:List Value},
  Wn g ms f=some (args',im,e)→(∀ b ∈ e,b ∈ fz)→Reps J β h w f vs→Reps (JS J β h fz) β h w args' vs∧∀ b ∈ Fa args',b ∈ im
 | [],ms,args',im,e,vs,d,m,i=>by
  simp[Wn] at d;obtain⟨rfl,rfl,rfl⟩:=d
  rw[Reps] at i;subst i
  exact⟨by rw[Reps],by simp[Fa]⟩
 | v::r,ms,args',im,e,vs,d,m,i=>by
  rw[Wn] at d
  rw[Reps] at i
  obtain⟨u,x,rfl,j,k⟩:=i
  cases y:ms.headD false with
  | true =>
   rw[y,cond_true] at d
   obtain⟨⟨a2,i2,z⟩,q,l⟩:=ub d
   simp at l;obtain⟨rfl,rfl,rfl⟩:=l
   obtain⟨s,t⟩:=Rn S n q m k
   refine⟨by rw[Reps];exact⟨u,x,rfl,Rep.ext (Ext.grow fun _ _ A=>.inl A) j,s⟩,fun b c=>?_⟩
   rw[Fa] at c
   rcases List.mem_append.1 c with c | c
   ·exact List.mem_append.2 (.inl c)
   ·exact List.mem_append.2 (.inr (t b c))
  | false =>
   rw[y,cond_false] at d
   obtain⟨⟨v1,F⟩,B,d⟩:=ub d
   obtain⟨⟨a2,i2,z⟩,q,l⟩:=ub d
   simp at l;obtain⟨rfl,rfl,rfl⟩:=l
   obtain⟨C,D⟩:=ia S n B (fun b c=>m b (List.mem_append.2 (.inl c))) j
   obtain⟨s,t⟩:=Rn S n q (fun b c=>m b (List.mem_append.2 (.inr c))) k
   refine⟨by rw[Reps];exact⟨u,x,rfl,C,s⟩,fun b c=>?_⟩
   rw[Fa,D] at c
   exact t b (by simpa using c)
end
end Gx

namespace Gx
open Go
theorem jh {g g':A4} {ρ:Nat→Nat}:∀ {ids:List Nat},(∀ b ∈ ids,g b=g' b)→sub g ρ ids=sub g' ρ ids
 | [],_=>rfl
 | b::r,h=>by
  rw[sub,sub,h b (by simp),jh (fun c d=>h c (by simp[d]))]
theorem DG {g:A4}:∀ {l:List Nat},CS g l=true→∀ b ∈ l,∃ x,g b=some x∧x.dead=false
 | [],_,b,c=>by simp at c
 | i::r,h,b,c=>by
  rw[CS] at h
  simp at h
  rcases List.mem_cons.1 c with rfl | c
  ·cases d:g b with
   | none=>rw[d] at h;simp at h
   | some x=>rw[d] at h;exact⟨x,rfl,by simpa using h.1⟩
  ·exact DG h.2 b c
theorem sn:∀ {l m:List Nat},nS l m=true→∀ b ∈ l,b ∉ m
 | [],m,_,b,c=>by simp at c
 | i::r,m,h,b,c=>by
  rw[nS] at h
  simp at h
  rcases List.mem_cons.1 c with rfl | c
  ·intro d;have:=G4.2 d;rw[this] at h;simp at h
  ·exact sn h.2 b c
theorem Ww {d:Nat}:∀ {l:List (Nat×Nat)} {b:Nat},b ∈ l.map (·.1)→Fp d l b ∈ l.map (·.2)
 | [],b,c=>by simp at c
 | (i,x)::r,b,c=>by
  rw[Fp]
  cases e:Nat.beq i b with
  | true=>simp
  | false =>
   have f:b ∈ r.map (·.1):=by
    rw[List.map_cons] at c
    rcases List.mem_cons.1 c with h | h
    ·exact absurd h.symm (Pn e)
    ·exact h
   simp only[cond_false,List.map_cons]
   exact List.mem_cons_of_mem _ (Ww f)
theorem P5 {d:Nat}:∀ {l m:List (Nat×Nat)} {b:Nat},Fp d (l++m) b=if b ∈ l.map (·.1) then Fp d l b else Fp d m b
 | [],m,b=>by simp
 | (i,x)::r,m,b=>by
  rw[List.cons_append,Fp,Fp,P5]
  cases e:Nat.beq i b with
  | true=>have:=Nat.eq_of_beq_eq_true e;subst this;simp
  | false =>
   have:=Pn e
   simp only[cond_false,List.map_cons,List.mem_cons]
   by_cases c:b ∈ r.map (·.1)
   ·rw[if_pos c,if_pos (.inr c)]
   ·rw[if_neg c,if_neg (by rintro(h | h);exact this h.symm;exact c h)]
theorem Gh:∀ {base:Nat} {l:List Nat},(Ar base l).map (·.1)=l
 | _,[]=>rfl
 | base,i::r=>by rw[Ar,List.map_cons,Gh]
theorem dm {d d':Nat}:∀ {l:List Nat} {base b:Nat},b ∈ l→Fp d' ((Ar base l).map fun p=>(p.2,p.1)) (Fp d (Ar base l) b)=b
 | [],base,b,c=>by simp at c
 | i::r,base,b,c=>by
  rw[Ar,Fp,List.map_cons,Fp]
  cases e:Nat.beq i b with
  | true=>have:=Nat.eq_of_beq_eq_true e;subst this;simp
  | false =>
   have f:b ∈ r:=by
    rcases List.mem_cons.1 c with h | h
    ·exact absurd h.symm (Pn e)
    ·exact h
   simp only[cond_false]
   have j:=Rm (d:=d) (base:=base+1) f
   rw[CX (show base≠Fp d (Ar (base+1) r) b by omega)]
   exact dm f
theorem Ng:∀ {base:Nat} {l:List Nat} {c:Nat},c ∈ (Ar base l).map (·.2)→base≤c∧c<base+l.length
 | _,[],c,b=>by simp[Ar] at b
 | base,i::r,c,b=>by
  rw[Ar,List.map_cons] at b
  rcases List.mem_cons.1 b with h | h
  ·simp at h;subst h;simp
  ·have:=Ng h;simp only[List.length_cons];omega
theorem Ro:∀ {base:Nat} {l:List Nat},((Ar base l).map (·.2)).Nodup
 | _,[]=>by simp[Ar]
 | base,i::r=>by
  rw[Ar,List.map_cons,List.nodup_cons]
  exact⟨fun h=>by have:=Ng h;simp at this;omega,Ro⟩
theorem DH:∀ {base:Nat} {l:List Nat} {b:Nat},b ∈ l→(b,Fp 0 (Ar base l) b) ∈ Ar base l
 | _,[],b,c=>by simp at c
 | base,i::r,b,c=>by
  rw[Ar,Fp]
  cases d:Nat.beq i b with
  | true=>have:=Nat.eq_of_beq_eq_true d;subst this;simp
  | false =>
   have e:b ∈ r:=by
    rcases List.mem_cons.1 c with h | h
    ·exact absurd h.symm (Pn d)
    ·exact h
   simp only[cond_false]
   exact List.mem_cons_of_mem _ (DH e)
def qs (x:Blk):Blk:={ x with dead:=true,pure:=true,cells:=[] }
theorem H3:∀ {ups:De} {h:Ah} {b:Nat} {o:Option Blk},(ups.map (·.1)).Nodup→(b,o) ∈ ups→Ai (Ag ups h) b=match o with | some x=>some x | none=>(Ai h b).map qs
 | [],h,b,o,_,k=>by simp at k
 | (i,y)::r,h,b,o,d,k=>by
  rw[List.map_cons,List.nodup_cons] at d
  rcases List.mem_cons.1 k with l | c
  ·simp at l
   obtain⟨rfl,rfl⟩:=l
   have f:Az r b=false:=by
    have:∀ {r:De},b ∉ r.map (·.1)→Az r b=false:=by
     intro r
     induction r with
     | nil=>intro _;rfl
     | cons p r m =>
      intro h
      simp only[List.map_cons,List.mem_cons,not_or] at h
      rw[Az,CX (fun e=>h.1 e.symm)]
      exact m h.2
    exact this d.1
   cases o with
   | some x=>rw[Ag,Bw _ _ _ f,Af,if_pos rfl]
   | none =>
    rw[Ag,Bw _ _ _ f]
    cases n:Ai h b with
    | none=>simp[n]
    | some x=>simp only[Option.map_some];rw[Af,if_pos rfl];rfl
  ·have j:b≠i:=fun e=>by subst e;exact d.1 (List.mem_map.2 ⟨_,c,rfl⟩)
   cases y with
   | some x =>
    rw[Ag,H3 d.2 c]
    cases o with
    | some _=>rfl
    | none=>simp only;rw[Af,if_neg j]
   | none =>
    rw[Ag,H3 d.2 c]
    cases o with
    | some _=>rfl
    | none =>
     simp only
     split
     ·rw[Af,if_neg j]
     ·rfl
theorem VP:∀ {ups:De} {b:Nat},Az ups b=true↔b ∈ ups.map (·.1)
 | [],b=>by simp[Az]
 | (i,y)::r,b=>by
  rw[Az,List.map_cons,List.mem_cons,←VP]
  cases c:Nat.beq i b with
  | true=>have:=Nat.eq_of_beq_eq_true c;subst this;simp
  | false=>have:=Pn c;simp;intro e;exact absurd e.symm this
theorem dn {β:Bm} {h:Ah} {ρ:Nat→Nat} {ids:List Nat} (d:(ids.map ρ).Nodup) {k:Nat} (i:nW (AI ρ ids β) (sub (Ai h) ρ ids) k) :
  ∃ b x o,b ∈ ids∧Ai h b=some x∧x.dead=false∧x.sealed=false∧β b=some (k,o):=by
 obtain⟨c,y,o,j,l,m,e⟩:=i
 obtain⟨b,x,f,rfl,n,rfl⟩:=Iv d c y j
 rw[Ec d f] at e
 exact⟨b,x,o,f,n,l,m,e⟩
theorem SimH.unJ {J:Bool→Nat→Prop} {β:Bm} {h:Ah} {w:World} (S:SimH J β h w) {b:Nat} {x:Blk} {k o:Nat} (e:Ai h b=some x) (f:x.dead=false) (l:x.sealed=false) (d:β b=some (k,o)):∀ g,¬ J g k:=by
 cases i:x.mp with
 | false =>
  rcases S.blk b x e f i with⟨c,_⟩ | ⟨m,o2,cs,ty,fr,c,j,q,s,t,n,u⟩
  ·rw[d] at c;cases c
  ·rw[d] at c;simp at c;obtain⟨rfl,rfl⟩:=c
   exact n l
 | true =>
  obtain⟨_,_,m,ob,c,_,_,j⟩:=S.mblk b x e f i
  rw[d] at c;simp at c;obtain⟨rfl,_⟩:=c
  exact j
theorem SimH.seJ {J:Bool→Nat→Prop} {β:Bm} {h:Ah} {w:World} (S:SimH J β h w) {b:Nat} {x:Blk} {k o:Nat} (d:Ai h b=some x) (e:x.dead=false) (f:x.sealed=true) (i:β b=some (k,o)):J x.taint k:=by
 cases j:x.mp with
 | false =>
  rcases S.blk b x d e j with⟨c,_⟩ | ⟨m,o2,cs,ty,fr,c,n,q,s,t,u,l⟩
  ·rw[i] at c;cases c
  ·rw[i] at c;simp at c;obtain⟨rfl,rfl⟩:=c
   exact l f
 | true =>
  have:=(S.mblk b x d e j).2.1
  rw[f] at this;cases this
theorem Step.merge {J J0 J1:Bool→Nat→Prop} {β β1:Bm} {h O H:Ah} {w w':World} {D ids:List Nat} (S:SimH J β h w) (S1:SimH J0 β1 O w')
  (hH:∀ b,b ∉ D→Ai H b=Ai h b)
  (hD:∀ b x,b ∈ D→Ai H b=some x→x.dead=false→Ai O b=some x)
  (hD1:∀ b x,Ai O b=some x→b ∈ D∧Ai H b=some x)
  (T:∀ b x,b ∈ D→b ∉ ids→Ai h b≠some x)
  (U:∀ b x,b ∈ ids→Ai h b=some x→∃ x',(Ai H b=some x'∧x'.mp=x.mp)∧(x'.dead=true∨(x.dead=false∧β1 b=β b∧x'.sz=x.sz∧(x.mp=false→x'.cells.length=x.cells.length))))
  (u:∀ b ∈ ids,b ∈ D)
  (os:w'.os=w.os) (tape:w'.tape=w.tape) (output:w'.output=w.output) (size:w.heap.size≤w'.heap.size)
  (frame:∀ k,k<w.heap.size→(¬ ∃ b x o,b ∈ ids∧Ai h b=some x∧x.dead=false∧x.sealed=false∧β b=some (k,o))→w'.heap[k]?=w.heap[k]?)
  (wr:∀ k,nW β1 O k→k<w.heap.size→∃ b x o,b ∈ ids∧Ai h b=some x∧x.dead=false∧x.sealed=false∧β b=some (k,o))
  (jup:∀ o k,J0 o k→J o k∨(∃ b x o,b ∈ ids∧Ai h b=some x∧x.dead=false∧x.sealed=false∧β b=some (k,o))∨w.heap.size≤k)
  (sizes:∀ k,A3 w k≤A3 w' k) :
  Step J β h w (fun o k=>J o k∨J0 o k) (fun b=>if b ∈ D then β1 b else β b) H w'∧Ext J0 β1 O w' (fun o k=>J o k∨J0 o k) (fun b=>if b ∈ D then β1 b else β b) H w':=by
 have E0:Ext J0 β1 O w' (fun o k=>J o k∨J0 o k) (fun b=>if b ∈ D then β1 b else β b) H w':=by
  refine⟨fun _ _ c=>.inr c,fun _ _ _=>rfl,fun b x d=>?_,fun _ _ _ _=>Nat.le_refl _⟩
  obtain⟨q,t⟩:=hD1 b x d
  refine⟨x,⟨t,rfl⟩,?_⟩
  cases f:x.dead
  ·exact .inr ⟨rfl,by simp[q],rfl,fun _=>rfl⟩
  ·exact .inl rfl
 have keepJ:∀ o k,J o k→w'.heap[k]?=w.heap[k]?:=by
  intro o k c
  refine frame k (S.jlt o k c) ?_
  rintro⟨b,x,o',_,d,f,l,m⟩
  exact S.unJ d f l m o c
 have E:Ext J β h w (fun o k=>J o k∨J0 o k) (fun b=>if b ∈ D then β1 b else β b) H w':=by
  refine⟨fun _ _ c=>.inl c,keepJ,fun b x d=>?_,fun b k o _=>sizes k⟩
  by_cases hi:b ∈ ids
  ·obtain⟨x',q,t⟩:=U b x hi d
   refine⟨x',q,?_⟩
   simp only[u b hi,if_true]
   exact t
  ·have V:b ∉ D:=fun f=>T b x f hi d
   refine⟨x,⟨by rw[hH b V];exact d,rfl⟩,?_⟩
   cases f:x.dead
   ·exact .inr ⟨rfl,by simp[V],rfl,fun _=>rfl⟩
   ·exact .inl rfl
 have out:∀ {b x},b ∉ D→Ai H b=some x→Ai h b=some x:=fun d s=>by rw[←hH _ d];exact s
 refine⟨⟨E,⟨?_,?_,S.gl.ext E,fun b x s f K=>?_,fun b x s f K=>by
   by_cases d:b ∈ D
   ·have q:=hD b x d s f
    have M:=S1.mblk b x q f K
    refine M.keep (by simp[d]) (fun _ _ _=>rfl) (fun g k o m c=>?_)
    rcases c with c | c
    ·exfalso
     by_cases z:k<w.heap.size
     ·obtain⟨A,x',o',j,n,i,v,e⟩:=wr k ⟨b,x,o,q,f,M.2.1,m⟩ z
      exact S.unJ n i v e g c
     ·exact z (S.jlt g k c)
    ·exact c
   ·have q:=out d s
    have M:=S.mblk b x q f K
    have y:∀ k o,β b=some (k,o)→¬ ∃ b x o,b ∈ ids∧Ai h b=some x∧x.dead=false∧x.sealed=false∧β b=some (k,o):=by
     rintro k o t ⟨A,x',o',j,n,i,v,e⟩
     have:=S.sep b A x x' k o o' q n f i M.2.1 t e
     subst this
     exact d (u b j)
    refine M.keep (by simp[d]) (fun k o m=>frame k (O9 S q f m) (y k o m)) (fun g k o m c=>?_)
    rcases c with c | c
    ·exact c
    ·rcases jup g k c with c | c | c
     ·exact c
     ·exact absurd c (y k o m)
     ·have:=O9 S q f m;omega,?_⟩,os,tape,output,size,?_,?_,?_⟩,E0⟩
 ·rintro o k (c | c)
  ·exact Nat.lt_of_lt_of_le (S.jlt o k c) size
  ·exact S1.jlt o k c
 ·rintro k (c | c)
  ·exact .inl (S.jft k c)
  ·exact .inr (S1.jft k c)
 ·by_cases d:b ∈ D
  ·have q:=hD b x d s f
   rcases S1.blk b x q f K with⟨t,I⟩ | ⟨k,o,cs,ty,fr,t,I,h5,h6,h7,Y,h9⟩
   ·exact .inl ⟨by simp[d,t],I⟩
   ·refine .inr ⟨k,o,cs,ty,fr,by simp[d,t],I,h5,h6,h7.ext E0,fun l g c=>?_,fun l=>.inr (h9 l)⟩
    rcases c with c | c
    ·by_cases z:k<w.heap.size
     ·obtain⟨A,x',o',j,n,i,v,e⟩:=wr k ⟨b,x,o,q,f,l,t⟩ z
      exact S.unJ n i v e g c
     ·exact z (S.jlt g k c)
    ·exact Y l g c
  ·have q:=out d s
   rcases S.blk b x q f K with⟨t,I⟩ | ⟨k,o,cs,ty,fr,t,I,h5,h6,h7,Y,h9⟩
   ·exact .inl ⟨by simp[d,t],I⟩
   ·have z:=Ys I
    have y:x.sealed=false→¬ ∃ b x o,b ∈ ids∧Ai h b=some x∧x.dead=false∧x.sealed=false∧β b=some (k,o):=by
     rintro l ⟨A,x',o',j,n,i,v,e⟩
     have:=S.sep b A x x' k o o' q n f i l t e
     subst this
     exact d (u b j)
    have same:w'.heap[k]?=w.heap[k]?:=by
     cases l:x.sealed with
     | false=>exact frame k z (y l)
     | true=>exact keepJ _ k (h9 l)
    refine .inr ⟨k,o,cs,ty,fr,by simp[d,t],by rw[same];exact I,h5,h6,h7.ext E,fun l g c=>?_,fun l=>.inl (h9 l)⟩
    rcases c with c | c
    ·exact Y l g c
    ·rcases jup g k c with c | c | c
     ·exact Y l g c
     ·exact y l c
     ·omega
 ·intro b A x x' k o o' s n f i l m e
  by_cases d:b ∈ D<;>by_cases j:A ∈ D
  ·simp[d] at m;simp[j] at e
   exact S1.sep b A x x' k o o' (hD b x d s f) (hD A x' j n i) f i l m e
  ·exfalso
   simp[d] at m;simp[j] at e
   have q:=out j n
   have z:=O9 S q i e
   obtain⟨X,x2,o2,L,B,C,G,F⟩:=wr k ⟨b,x,o,hD b x d s f,f,l,m⟩ z
   have:=S.sep X A x2 x' k o2 o' B q C i G F e
   subst this
   exact j (u _ L)
  ·exfalso
   simp[d] at m;simp[j] at e
   have q:=out d s
   have t:=hD A x' j n i
   have z:=O9 S q f m
   have y:¬ ∃ b x o,b ∈ ids∧Ai h b=some x∧x.dead=false∧x.sealed=false∧β b=some (k,o):=by
    rintro⟨X,x2,o2,L,B,C,G,F⟩
    have:=S.sep b X x x2 k o o2 q B f C l m F
    subst this
    exact d (u _ L)
   cases v:x'.sealed with
   | false=>exact y (wr k ⟨A,x',o',t,i,v,e⟩ z)
   | true =>
    rcases jup _ k (S1.seJ t i v e) with c | c | c
    ·exact S.unJ q f l m _ c
    ·exact y c
    ·omega
  ·simp[d] at m;simp[j] at e
   exact S.sep b A x x' k o o' (out d s) (out j n) f i l m e
 ·intro k z K
  exact frame k z (fun ⟨b,x,o,_,s,f,l,m⟩=>K ⟨b,x,o,s,f,l,m⟩)
 ·rintro k ⟨b,x,o,s,f,l,m⟩ z
  by_cases d:b ∈ D
  ·simp[d] at m
   obtain⟨X,x2,o2,_,B,C,G,F⟩:=wr k ⟨b,x,o,hD b x d s f,f,l,m⟩ z
   exact⟨X,x2,o2,B,C,G,F⟩
  ·simp[d] at m
   exact⟨b,x,o,out d s,f,l,m⟩
 ·rintro o k (c | c)
  ·exact .inl c
  ·rcases jup o k c with c | ⟨b,x,o2,_,s,f,l,m⟩ | c
   ·exact .inl c
   ·exact .inr (.inl ⟨b,x,o2,s,f,l,m⟩)
   ·exact .inr (.inr c)
end Gx

namespace Gx
open Go
theorem qt {l:List Nat}:lT l=true↔l=[]:=by cases l<;>simp[lT]
theorem Y0 {α β:Type} {f:α→β}:∀ {l:List α},(l.map f).Nodup→l.Nodup
 | [],_=>List.nodup_nil
 | a::r,h=>by
  rw[List.map_cons,List.nodup_cons] at h
  exact List.nodup_cons.2 ⟨fun b=>h.1 (List.mem_map.2 ⟨a,b,rfl⟩),Y0 h.2⟩
theorem Y1 {α:Type} {p:α→Bool}:∀ {l:List α},l.Nodup→(l.filter p).Nodup
 | [],_=>List.nodup_nil
 | a::r,h=>by
  rw[List.nodup_cons] at h
  rw[List.filter_cons]
  split
  ·exact List.nodup_cons.2 ⟨fun b=>h.1 (List.mem_filter.1 b).1,Y1 h.2⟩
  ·exact Y1 h.2
theorem PL {base:Nat} {l:List Nat} {p:Nat×Nat} (b:p ∈ Ar base l):p.1 ∈ l:=by
 have:p.1 ∈ (Ar base l).map (·.1):=List.mem_map.2 ⟨p,b,rfl⟩
 rw[Gh] at this;exact this
theorem sr {σ:Nat→Nat}:∀ {l:List Nat} {a b:Nat},(l.map σ).Nodup→a ∈ l→b ∈ l→σ a=σ b→a=b
 | [],a,b,_,f,_,_=>by simp at f
 | i::r,a,b,e,f,k,j=>by
  rw[List.map_cons,List.nodup_cons] at e
  rcases List.mem_cons.1 f with c | c<;>rcases List.mem_cons.1 k with d | d
  ·rw[c,d]
  ·subst c;exact absurd (List.mem_map.2 ⟨b,d,j.symm⟩) e.1
  ·subst d;exact absurd (List.mem_map.2 ⟨a,c,j⟩) e.1
  ·exact sr e.2 c d j
theorem wH {E:Env} (hT:di E.P E.tbl):MO E:=by
 intro R r k J β h w g d f args vs S hl hh hv
 unfold j7 at hh
 obtain⟨⟨args',im,fz⟩,B,h1⟩:=ub hh
 simp only at h1
 obtain⟨n,h2⟩:=uc h1
 simp only[Bool.and_eq_true] at n
 obtain⟨T,X,U,Y,s,_⟩:=n
 generalize hids:Re g im=ids at *
 generalize hρ:Fp 0 (Ar 100000 ids)=ρ at *
 have T:=DG T
 have X:=Jm X
 have Y:=sn Y
 have s:=Nd s
 have hg:∀ b ∈ ids,g b=Ai h b:=fun b j=>by obtain⟨x,m,_⟩:=T b j;rw[m,hl b x m]
 rw[Tu (g:=Ai h) hg] at U
 have U:=Jm U
 rw[jh (g':=Ai h) hg] at h2
 obtain⟨hA,hB⟩:=Rn (fz:=fz) S hl B (fun _ h=>h) hv
 have aliveH:∀ b ∈ ids,∃ x,Ai h b=some x∧x.dead=false:=fun b j=>by obtain⟨x,m,C⟩:=T b j;exact⟨x,hl b x m,C⟩
 have SJ:SimH (JS J β h fz) (AI ρ ids β) (sub (Ai h) ρ ids) w:=by
  refine(S.ren s U).grow (fun o k t=>.inl t) ?_ ?_ ?_
  ·rintro o k (t | ⟨_,b,x,o',_,m,C,_,hβ⟩)
   ·exact S.jlt o k t
   ·exact O9 S m C hβ
  ·rintro k (t | ⟨h0,_⟩)
   ·exact .inl (S.jft k t)
   ·cases h0
  ·intro c y k o hy C hs hβ q t
   obtain⟨b,x,j,rfl,m,rfl⟩:=Iv s c y hy
   rw[Ec s j] at hβ
   rcases t with t | ⟨_,b',x',o',hb',hx',hd',hs',hβ'⟩
   ·exact S.unJ m C hs hβ _ t
   ·have:=S.sep b b' x x' k o o' m hx' C hd' hs hβ hβ'
    subst this
    exact Y b hb' j
 have RJ:Reps (JS J β h fz) (AI ρ ids β) (sub (Ai h) ρ ids) w (Pm ρ args') vs:=Reps.ren s (fun b j=>X b (hB b j)) hA
 obtain⟨rv,rh,hF,h3⟩:=oD hT h2
 have hcall:=hF _ _ w vs SJ RJ
 obtain⟨z,h4⟩:=qX h3
 obtain⟨hc2,h5⟩:=uc h4
 simp only[Bool.and_eq_true] at hc2
 obtain⟨G,V,hrv,v,I,u⟩:=hc2
 generalize hall:Re (Ai rh) (D9 rv++(Ar 100000 ids).map (·.2))=all at *
 generalize K:all.filter (fun b=>!Ft ((Ar 100000 ids).map (·.2)) b)=new at *
 generalize hσ:Fp 0 ((Ar 100000 ids).map (fun p=>(p.2,p.1))++Ar (nid d) new)=σ at *
 have G:=DG G
 have hrv:=Jm hrv
 have v:=Jm v
 have I:=Jm I
 have u:=Nd u
 have V:new.length≤16:=by simpa using V
 refine⟨_,_,h5,fun hfree=>Calls.mono hcall ?_⟩
 rintro e w' ⟨vc,J',β',rfl,F,hR⟩
 refine⟨vc,rfl,?_⟩
 have back:∀ b ∈ ids,σ (ρ b)=b:=by
  intro b j
  rw[←hσ,P5,if_pos,←hρ]
  ·exact dm j
  ·rw[List.map_map]
   have:=Ww (d:=0) (l:=Ar 100000 ids) (b:=b) (by rw[Gh];exact j)
   rw[hρ] at this
   exact this
 have ρall:∀ b ∈ ids,ρ b ∈ all:=by
  intro b j
  refine v _ ?_
  have:=Ww (d:=0) (l:=Ar 100000 ids) (b:=b) (by rw[Gh];exact j)
  rw[hρ] at this
  exact this
 have σout:∀ c ∈ all,c ∈ (Ar 100000 ids).map (·.2)→σ c ∈ ids:=by
  intro c _ n
  rw[←hσ,P5,if_pos (by rw[List.map_map];exact n)]
  have:=Ww (d:=0) (l:=(Ar 100000 ids).map (fun p=>(p.2,p.1))) (b:=c) (by rw[List.map_map];exact n)
  rw[List.map_map] at this
  have e:(Ar 100000 ids).map ((fun x=>x.2)∘fun p=>(p.2,p.1))=ids:=Gh
  rw[e] at this
  exact this
 have newmem:∀ c ∈ new,c ∈ all∧c ∉ (Ar 100000 ids).map (·.2):=by
  intro c n
  rw[←K] at n
  obtain⟨L,h7⟩:=List.mem_filter.1 n
  refine⟨L,fun A=>?_⟩
  rw[G4.2 A] at h7;simp at h7
 have σnew:∀ c ∈ new,σ c=Fp 0 (Ar (nid d) new) c:=by
  intro c n
  rw[←hσ,P5,if_neg]
  rw[List.map_map];exact(newmem c n).2
 have allcases:∀ c ∈ all,c ∈ (Ar 100000 ids).map (·.2)∨c ∈ new:=by
  intro c n
  by_cases A:c ∈ (Ar 100000 ids).map (·.2)
  ·exact .inl A
  ·refine .inr ?_
   rw[←K]
   refine List.mem_filter.2 ⟨n,?_⟩
   cases hq:Ft ((Ar 100000 ids).map (·.2)) c with
   | false=>rfl
   | true=>exact absurd (G4.1 hq) A
 generalize O:((Ar 100000 ids).map fun p=>(p.1,(Ai rh p.2).map (Tj σ)))++(Ar (nid d) new).map (fun p=>(p.2,(Ai rh p.1).map (Tj σ)))=ups at *
 have keys:ups.map (·.1)=ids++(Ar (nid d) new).map (·.2):=by
  rw[←O,List.map_append,List.map_map,List.map_map]
  congr 1
  exact Gh
 have newFree:∀ c ∈ (Ar (nid d) new).map (·.2),Ai h c=none:=by
  intro c n
  refine hfree c (VP.2 (by rw[keys];exact List.mem_append.2 (.inr n))) ?_
  have:=Ng n
  unfold AA
  simp;omega
 have keysN:(ups.map (·.1)).Nodup:=by
  rw[keys,List.nodup_append]
  refine⟨Y0 s,Ro,fun a ha b j e=>?_⟩
  subst e
  obtain⟨x,m,_⟩:=aliveH a ha
  rw[newFree a j] at m;cases m
 have upsOld:∀ b ∈ ids,(b,(Ai rh (ρ b)).map (Tj σ)) ∈ ups:=by
  intro b j
  rw[←O]
  refine List.mem_append.2 (.inl (List.mem_map.2 ⟨(b,ρ b),?_,rfl⟩))
  rw[←hρ];exact DH j
 have upsNew:∀ c ∈ new,(σ c,(Ai rh c).map (Tj σ)) ∈ ups:=by
  intro c n
  rw[←O]
  refine List.mem_append.2 (.inr (List.mem_map.2 ⟨(c,σ c),?_,rfl⟩))
  rw[σnew c n];exact DH n
 have J0:∃ J0:Bool→Nat→Prop,SimH J0 β' rh w'∧Rep J0 β' rh w' rv vc∧∀ o k,J0 o k→J o k∨nW (AI ρ ids β) (sub (Ai h) ρ ids) k∨w.heap.size≤k:=by
  cases he:lT fz with
  | true =>
   have:=qt.1 he
   subst this
   refine⟨J',F.sim,hR,fun o k t=>?_⟩
   rcases F.jup o k t with(t | ⟨_,b,x,o',j,_⟩) | t
   ·exact .inl t
   ·simp at j
   ·exact .inr t
  | false =>
   rw[he] at z
   simp at z
   refine⟨fun _=>J' false,F.sim.noOrg z.2,Rep.noOrg z.1 hR,fun o k t=>?_⟩
   rcases F.jup false k t with(L | ⟨h0,_⟩) | L
   ·left
    cases o
    ·exact L
    ·exact S.jft k L
   ·cases h0
   ·exact .inr L
 obtain⟨J0,S0,R0,jup0⟩:=J0
 have S1:=S0.ren u I
 have R1:=Rep.ren u hrv R0
 have M:=Step.merge (J:=J) (J0:=J0) (J1:=J0) (H:=Ag ups h) (D:=ids++(Ar (nid d) new).map (·.2)) (ids:=ids) S S1
  (fun b j=>Bw _ _ _ (by
   cases hi:Az ups b with
   | false=>rfl
   | true=>exact absurd (by rw[←keys];exact VP.1 hi) j))
  (fun b x j m C=>by
   rcases List.mem_append.1 j with j | j
   ·rw[H3 keysN (upsOld b j)] at m
    cases hq:Ai rh (ρ b) with
    | none =>
     rw[hq] at m;simp at m
     obtain⟨y,_,rfl⟩:=m
     simp[qs] at C
    | some y =>
     rw[hq] at m;simp at m;subst m
     have:=Tv (g:=Ai rh) u (ρ b) y (ρall b j) hq
     rw[back b j] at this
     exact this
   ·obtain⟨c,n,rfl⟩:∃ c ∈ new,σ c=b:=by
     obtain⟨p,B,rfl⟩:=List.mem_map.1 j
     have hp1:p.1 ∈ new:=PL B
     refine⟨p.1,hp1,?_⟩
     rw[σnew _ hp1]
     have:∀ {base:Nat} {l:List Nat} {p:Nat×Nat},l.Nodup→p ∈ Ar base l→Fp 0 (Ar base l) p.1=p.2:=by
      intro base l
      induction l generalizing base with
      | nil=>intro p _ B;simp[Ar] at B
      | cons i r ih =>
       intro p hn B
       rw[List.nodup_cons] at hn
       rw[Ar] at B ⊢
       rw[Fp]
       rcases List.mem_cons.1 B with rfl | B
       ·simp
       ·have:p.1 ∈ r:=PL B
        rw[CX (fun e=>hn.1 (by rw[e];exact this))]
        exact ih hn.2 B
     refine this ?_ B
     rw[←K]
     exact Y1 (Y0 u)
    rw[H3 keysN (upsNew c n)] at m
    obtain⟨y,hy,_⟩:=G c n
    rw[hy] at m;simp at m;subst m
    exact Tv (g:=Ai rh) u c y (newmem c n).1 hy)
  (fun b x j=>by
   obtain⟨c,y,n,rfl,hy,rfl⟩:=Iv u b x j
   rcases allcases c n with A | A
   ·have L:=σout c n A
    have h7:ρ (σ c)=c:=by
     have:(all.map σ).Nodup:=u
     have e1:=back (σ c) L
     have e2:=ρall (σ c) L
     exact sr this e2 n e1
    refine⟨List.mem_append.2 (.inl L),?_⟩
    rw[H3 keysN (upsOld (σ c) L),h7,hy];rfl
   ·refine⟨List.mem_append.2 (.inr ?_),?_⟩
    ·rw[σnew c A]
     exact Ww (by rw[Gh];exact A)
    ·rw[H3 keysN (upsNew c A),hy];rfl)
  (fun b x j hni m=>by
   rcases List.mem_append.1 j with j | j
   ·exact hni j
   ·rw[newFree b j] at m;cases m)
  (fun b x j m=>by
   rw[H3 keysN (upsOld b j)]
   cases hq:Ai rh (ρ b) with
   | none=>exact⟨qs x,⟨by simp[m],rfl⟩,.inl rfl⟩
   | some y =>
    cases C:y.dead with
    | true=>have:=F.live _ _ hq;rw[C] at this;cases this
    | false =>
     have e0:=Tv (g:=Ai h) s b x j m
     obtain⟨⟨e1,em⟩,e2,e3,e4⟩:=F.outs (ρ b) _ y e0 hq C
     refine⟨Tj σ y,⟨by simp,em⟩,.inr ?_⟩
     refine⟨e4,?_,e2,fun hmx=>?_⟩
     ·have:=Ec (β:=β') u (ρall b j)
      rw[back b j] at this
      rw[this,e1]
      exact Ec s j
     ·rw[H2,e3 hmx,H2])
  (fun b j=>List.mem_append.2 (.inl j))
  F.os F.tape F.output F.size
  (fun k hk A=>F.frame k hk (fun hm'=>A (dn s hm')))
  (fun k A hk=>dn s (F.wr k (ln u A) hk))
  (fun o k t=>by
   rcases jup0 o k t with t | t | t
   ·exact .inl t
   ·exact .inr (.inl (dn s t))
   ·exact .inr (.inr t))
  F.sizes
 exact⟨_,_,M.1,Rep.ext M.2 R1⟩
theorem oH {P:Program} {muts:Nat→List Bool} {T:List (Nat×Tw)} {q:Hints} {N f:Nat} {d:LA} {h:Ah} {n:AV} {h':Ah} (hT:di P T) (K:P.follows .mixedOrders=true)
  (u:AB P muts T q N f d h (fun v h'=>some (v,h'))=some (n,h')):zW P f d h n h':=by
 unfold AB at u
 split at u
 ·simp at u
 ·rename_i fn L
  split at u
  ·simp at u
  ·rename_i c V
   simp only at u
   obtain⟨z,X⟩:=uc u
   simp only[Bool.and_eq_true] at z
   obtain⟨t,k⟩:=z
   have t:d.length≤fn.ntmps:=by simpa using t
   intro J β w vs S U
   have Y:vs.length=d.length:=((Bs).1 U).1
   refine calls_of_wp L V ?_
   have roots:∀ {h:Ah} {b:Nat} {x:Blk},cr h=true→Ai h b=some x→dK b=true:=by
    intro h
    induction h with
    | nil=>intro b x _ e;simp[Ai] at e
    | cons p r M =>
     intro b x C e
     obtain⟨i,y⟩:=p
     rw[cr] at C
     simp at C
     rw[Ai] at e
     cases m:Nat.beq i b with
     | true=>have:=Nat.eq_of_beq_eq_true m;subst this;exact C.1
     | false=>rw[m] at e;exact M C.2 (by simpa using e)
   have sgetI:∀ {d:LA} {j i:Nat},Ds (j9 j d) i=if j≤i then (d[i - j]?).getD .undef else .undef:=by
    intro d
    induction d with
    | nil=>intro j i;simp[j9,Ds]
    | cons v r M =>
     intro j i
     rw[j9,Ds]
     cases m:Nat.beq j i with
     | true=>have:=Nat.eq_of_beq_eq_true m;subst this;simp
     | false =>
      have:=Pn m
      simp only[cond_false]
      rw[M]
      by_cases A:j+1≤i
      ·rw[if_pos A,if_pos (by omega),show i - j=(i - (j+1))+1 by omega];simp
      ·rw[if_neg A]
       by_cases l:j≤i
       ·omega
       ·rw[if_neg l]
   have I:Inv ⟨J,β,h,w⟩ fn.ntmps J β { s:=j9 0 d,h:=h } { tmps:=vs.toArray++Array.replicate (fn.ntmps - vs.toArray.size) undef,defers:=[] } w:=by
    refine⟨S,⟨fun i v m=>?_,fun i m=>?_⟩,?_,rfl,rfl,rfl,rfl,Nat.le_refl _,fun _ _ _=>rfl,fun _ K _=>K,fun _ _ O=>O,fun _ _ O=>.inl O,fun _=>Nat.le_refl _,?_,?_,?_⟩
    ·rw[sgetI,if_pos (Nat.zero_le _)]
     by_cases B:i<d.length
     ·have l:d[i - 0]?=some d[i]:=by simp[B]
      rw[l]
      have D:vs[i]?=some v:=by
       rw[Array.getElem?_append_left (by simp;omega)] at m
       simpa using m
      exact((Bs).1 U).2 i _ _ (by simp[B]) D
     ·have l:d[i - 0]?=none:=by simp;omega
      rw[l];simp[Rep]
    ·simp at m
     rw[sgetI,if_pos (Nat.zero_le _)]
     have l:d[i - 0]?=none:=by simp;omega
     rw[l];rfl
    ·simp;omega
    ·intro b x0 e;exact(dh.1 (roots k e)).2
    ·intro b x0 e;exact(dh.1 (roots k e)).1
    ·intro b x0 x e F hd
     change Ai h b=some x0 at e
     change Ai h b=some x at F
     rw[e] at F;simp at F;subst F
     exact⟨⟨rfl,rfl⟩,rfl,fun _=>rfl,hd⟩
   have fin:∀ st' G w' J' β',Inv ⟨J,β,h,w⟩ fn.ntmps J' β' st' G w'→P0 { P:=P,nt:=fn.ntmps,muts:=muts,nils:=q.nils,free:=q.free,cob:=q.cob,tbl:=T } fn q.modes (h.map (·.1)) (fun v h'=>some (v,h')) st'=some (n,h') →
     G.defers=[]∧∃ v,(results fn G.tmps).run P w'=.ok v w'∧∃ vc J' β',Ending.returned v=.returned vc∧FDone ⟨J,β,h,w⟩ J' β' h' w'∧Rep J' β' h' w' n vc:=by
    intro st' G w' J' β' I' l
    obtain⟨res2,h2',vc,J2,β2,D,h4,h5,h6⟩:=i8 I' l
    simp at D
    obtain⟨rfl,rfl⟩:=D
    exact⟨I'.defers,vc,h4,vc,J2,β2,rfl,h5,h6⟩
   exact oB (E:={ P:=P,nt:=fn.ntmps,muts:=muts,nils:=q.nils,free:=q.free,cob:=q.cob,tbl:=T }) (wH hT) K c I X fin (fun _ _ _ _ _ _ _ l=>by simp at l) fin
end Gx

namespace Gx
open Go
section
variable {R R':Type}
theorem qu (E:Env) (ops:Array Oper) (o:Oper) (st:St) (k:St→Foot→O R) (g:R→Option R'):(nT E ops o st k).bind g=nT E ops o st fun st f=>(k st f).bind g:=by
 rw[GZ,GZ,Option.bind_assoc]
theorem lt (ops:Array Oper) (o:Oper) (st:St) (k:St→O R) (g:R→Option R'):(VC ops o st k).bind g=VC ops o st fun st=>(k st).bind g:=by
 unfold VC
 split
 ·rfl
 ·split
  ·rfl
  ·split
   ·rw[Al]
   ·rfl
theorem dp (E:Env) (ops:Array Oper) (g:R→Option R'):∀ (l:List Oper) (st:St) (tr:List Foot) (k:St→List Foot→O R),(dH E ops l st tr k).bind g=dH E ops l st tr fun st tr=>(k st tr).bind g
 | [],st,tr,k=>rfl
 | o::r,st,tr,k=>by
  rw[dH,dH,lt]
  congr 1;funext st
  rw[qu]
  congr 1;funext st f
  exact dp E ops g r st (f::tr) k
theorem ib (E:Env) (roots:List Nat) (ops:Array Oper) (draw:Bool) (st:St) (k:St→O R) (g:R→Option R'):(GS E roots ops draw st k).bind g=GS E roots ops draw st fun st=>(k st).bind g:=by
 unfold GS
 rw[dp]
 congr 1;funext st tr
 rw[Al,Option.bind_assoc];rfl
theorem qv (E:Env) (roots:List Nat) (H:Hint) (f:St→O R) (g:R→Option R') (st:St):(tZ E roots H f st).bind g=tZ E roots H (fun st=>(f st).bind g) st:=by
 unfold tZ
 rw[Al,Option.bind_assoc,Tr,Tr]
theorem YN (cn:St→Option St) (b:(St→O R)→St→O R) (c:(St→Option R')→St→Option R') (g:R→Option R') (d:∀ k st,(b k st).bind g=c (fun st=>(k st).bind g) st):∀ n st,(CU cn b n st).bind g=CU cn c n st
 | 0,st=>rfl
 | n+1,st=>by
  rw[CU,CU,d]
  congr 1;funext st
  rw[Option.bind_assoc]
  congr 1;funext st
  exact YN cn b c g d n st
theorem oI (E:Env) (roots:List Nat) (N:Nat) (g:R→Option R'):∀ (c:Code) (H:Hint) (k:St→O R) (x:Nat→St→O R) (r:St→O R) (st:St),
  (Du E roots N c H k x r st).bind g=Du E roots N c H (fun st=>(k st).bind g) (fun j st=>(x j st).bind g) (fun st=>(r st).bind g) st:=by
 intro c
 induction c with
 | skip=>intro H k x r st;rfl
 | region id ops draw=>intro H k x r st;exact ib ..
 | seq a b d e =>
  intro H k x r st
  rw[Du,Du,d]
  congr 1;funext st
  rw[qv]
  congr 1;funext st
  exact e ..
 | cond c a b d e =>
  intro H k x r st
  rw[Du,Du]
  split
  ·rw[Al,d,e]
  ·rfl
 | block id c f =>
  intro H k x r st
  rw[Du,Du,f]
  simp only[Al]
 | loop c f =>
  intro H k x r st
  rw[Du,Du,Option.bind_assoc,Tr,Tr]
  congr 1;funext st
  exact YN _ _ _ g (fun k st=>f ..) N st
 | exit id=>intro H k x r st;rfl
 | ret=>intro H k x r st;rfl
 | rangeFunc=>intro H k x r st;rfl
 | scope=>intro H k x r st;rfl
 | label=>intro H k x r st;rfl
 | goto=>intro H k x r st;rfl
 | refuse=>intro H k x r st;rfl
theorem Vq (E:Env) (st:St) (g:R→Option R'):∀ (l:List ResultVar) (b:LA) (k:LA→O R),(Ir E st l b k).bind g=Ir E st l b fun l=>(k l).bind g
 | [],b,k=>rfl
 | .tmp t::r,b,k=>by rw[Ir,Ir];exact Vq E st g r _ k
 | .cell a t::r,b,k=>by
  rw[Ir,Ir,Yy,Yy (R:=R'),Option.bind_assoc]
  congr 1;funext v
  exact Vq E st g r _ k
theorem ic (E:Env) (fn:Func) (modes:List (Nat×Nat)) (outs:List Nat) (k:AV→Ah→O R) (g:R→Option R') (st:St):(P0 E fn modes outs k st).bind g=P0 E fn modes outs (fun v h=>(k v h).bind g) st:=by
 unfold P0
 rw[Vq]
 congr 1;funext l
 rw[Option.bind_assoc]
 congr 1;funext q
 rw[Al];rfl
theorem qw (P:Program) (muts:Nat→List Bool) (T:List (Nat×Tw)) (c:Hints) (N f:Nat) (b:LA) (h:Ah) (k:AV→Ah→O R) :
  AB P muts T c N f b h k=(AB P muts T c N f b h fun v h=>some (v,h)).bind fun p=>k p.1 p.2:=by
 unfold AB
 split
 ·rfl
 ·split
  ·rfl
  ·simp only
   rw[Al,oI]
   simp only[ic]
   rfl
structure Cut (R:Type) where
 c:Code
 H:Hint
 k:St→O R
 x:Nat→St→O R
 r:St→O R
noncomputable def yW (E:Env) (roots:List Nat) (N:Nat):List Nat→Code→Hint→(St→O R)→(Nat→St→O R)→(St→O R)→List (St→O R)→Cut R
 | [],c,H,k,x,r,_=>⟨c,H,k,x,r⟩
 | d::p,.seq a b,H,k,x,r,ks=>cond (Nat.beq d 0) (yW E roots N p a H.a (tZ E roots H fun st=>Du E roots N b H.b k x r st) x r ks) (yW E roots N p b H.b k x r ks)
 | d::p,.cond _ a b,H,k,x,r,ks=>cond (Nat.beq d 0) (yW E roots N p a H.a k x r ks) (yW E roots N p b H.b k x r ks)
 | _::p,.block id c,H,k,x,r,ks=>yW E roots N p c H.a k (fun j st=>cond (Nat.beq j id) (k st) (x j st)) r ks
 | _::p,.loop c,H,_,x,r,q::ks=>yW E roots N p c H.a (fun st=>(O_ E H.live roots st).bind q) x r ks
 | _::_,c,H,k,x,r,_=>⟨c,H,k,x,r⟩
def oJ:Code→Code
 | .loop c=>c
 | c=>c
structure CutB (R:Type) where
 E:Env
 roots:List Nat
 N:Nat
 c:Cut R
noncomputable def Dx (q:CutB R) (st:St):O R:=Du q.E q.roots q.N q.c.c q.c.H q.c.k q.c.x q.c.r st
noncomputable def wI (q:CutB R) (st:St):O R:=vr true (fun st=>Du q.E q.roots q.N q.c.c q.c.H q.c.k q.c.x q.c.r st) st
theorem Bh (q:CutB R) (st:St):wI q st=Dx q st:=by unfold wI;rw[Tr];rfl
noncomputable def A5 (q:CutB R) (n:Nat) (st:St):O R:=CU (O_ q.E q.c.H.live q.roots) (fun k st=>Du q.E q.roots q.N (oJ q.c.c) q.c.H.a k q.c.x q.c.r st) n st
noncomputable def yB (q:CutB R) (st:St):O R:=vr true (CU (O_ q.E q.c.H.live q.roots) (fun k st=>Du q.E q.roots q.N (oJ q.c.c) q.c.H.a k q.c.x q.c.r st) q.N) st
theorem Aw (q:CutB R) (st:St):yB q st=A5 q q.N st:=by unfold yB;rw[Tr];rfl
def yX (fn:Func):Code:=match fn.body with | some c=>c | none=>.skip
def yC:List (Nat×List Bool)→Nat→List Bool
 | [],_=>[]
 | (i,l)::r,f=>cond (Nat.beq i f) l (yC r f)
end
end Gx

namespace Gx
open Go
abbrev KF (R:Type):=AV→Ah→Option R
abbrev D7:=List (Nat×Tw)
abbrev hL:Hint:=.leaf
abbrev hS (a b:Hint):Hint:=.node [] a b
abbrev hP (l:List Nat) (a:Hint):Hint:=.node l a .leaf
abbrev hJ (l:List Nat) (a b:Hint):Hint:=.join l a b
def xY (P:Program) (muts:Nat→List Bool) (nt:Nat) (hs:Hints) (T:List (Nat×Tw)):Env:={ P,nt,muts,nils:=hs.nils,free:=hs.free,cob:=hs.cob,tbl:=T }
noncomputable def zq {R:Type} (P:Program) (muts:Nat→List Bool) (fn:Func) (hs:Hints) (T:List (Nat×Tw)) (roots:List Nat) (N:Nat) (F:KF R) (p:List Nat) (ks:List (St→O R)):CutB R :=
 ⟨xY P muts fn.ntmps hs T,roots,N,yW (xY P muts fn.ntmps hs T) roots N p (yX fn) hs.H (P0 (xY P muts fn.ntmps hs T) fn hs.modes roots F) (fun _ _=>none) (P0 (xY P muts fn.ntmps hs T) fn hs.modes roots F) ks⟩
def iv (n:Int):AV:=.int .i64 n
def op (k:Nat):AV:=.optr (300000+k) 0
def zl:Nat→List Blk→Ah
 | _,[]=>[]
 | i,b::r=>(i,b)::zl (i+1) r
def hq (l:List Blk):Ah:=zl 300000 l
def bQ (sz:Nat) (c:LA):Blk:=⟨false,false,true,false,sz,c,false,none⟩
def bN (sz:Nat) (c:LA):Blk:=⟨false,false,false,false,sz,c,false,none⟩
def bP (t:Bool) (sz:Nat) (c:LA):Blk:=⟨false,false,true,t,sz,c,false,none⟩
def F3 {R:Type} (kd:IntKind) (c:LA) (k:Int→O R):O R:=(c.head?).bind fun x=>(XQ kd x).bind k
def Pa {R:Type} (c:LA) (k:Bool→O R):O R:=(c.head?).bind fun x=>(asBool x).bind k
def Ip {R:Type} (sz:Nat) (c:LA) (k:LA→Nat→O R):O R:=(c.head?).bind fun x=>(xU sz x).bind fun p=>k p.1 p.2
def qy (k:IntKind) (a b:Int):Int:=k.wrap ((BitVec.ofInt k.bits a &&& BitVec.ofInt k.bits b).toNat:Int)
def Kx (k:IntKind) (a b:Int):Int:=k.wrap ((BitVec.ofInt k.bits a ||| BitVec.ofInt k.bits b).toNat:Int)
def C2 (s:List UInt8):LA:=s.map fun b=>.int .u8 (b.toNat:Int)
def yY (P:Program) (muts:Nat→List Bool) (N f:Nat) (run:(R:Type)→Nat→LA→Ah→KF R→O R):Prop:=∀ {R Q:Type} (args:LA) (h:Ah) (k:KF R) (j:KF Q),
 (∃ T hs,di P T∧run R N args h k=AB P muts T hs N f args h k∧run Q N args h j=AB P muts T hs N f args h j)∨(run R N args h k=none∧run Q N args h j=none)
theorem Ax {P:Program} {muts:Nat→List Bool} {T:List (Nat×Tw)} {d:Hints} {N f:Nat} {c:LA} {h:Ah} {R Q:Type} {k:KF R} {j:KF Q} {a:O R} {b:Option Q} {p:Prop}
  (e:AB P muts T d N f c h k=a) (i:AB P muts T d N f c h j=b) (hT:di P T):(∃ T d,di P T∧a=AB P muts T d N f c h k∧b=AB P muts T d N f c h j)∨p:=.inl ⟨T,d,hT,e.symm,i.symm⟩
theorem A2 {R Q:Type} {p:Prop}:p∨((none:O R)=none∧(none:Option Q)=none):=.inr ⟨rfl,rfl⟩
def Ay {P:Program} {muts:Nat→List Bool} {N f:Nat} {run:(R:Type)→Nat→LA→Ah→KF R→O R} (H:yY P muts N f run):Tw:=⟨fun {R} args h k=>run R N args h k,fun args h k=>by
 rcases H args h k (fun v h=>some (v,h)) with⟨T,hs,_,e1,e2⟩ | ⟨e1,e2⟩
 ·rw[e1,e2];exact qw ..
 ·rw[e1,e2];rfl⟩
theorem z6 {P:Program} {muts:Nat→List Bool} {N f:Nat} {run:(R:Type)→Nat→LA→Ah→KF R→O R} (H:yY P muts N f run) (e:P.follows .mixedOrders=true):oC P f (Ay H):=by
 intro b h i h' c
 change run _ N b h _=_ at c
 rcases H b h (fun v h=>some (v,h)) (fun v h=>some (v,h)) with⟨T,j,hT,d,_⟩ | ⟨d,_⟩
 ·rw[d] at c;exact oH hT e c
 ·rw[d] at c;cases c
theorem E9 {α δ:Type} (f:α→δ) {a b:α} (c:a=b):f a=f b:=by rw[c]
theorem ti {α β δ:Type} (f:α→β→δ) {a c:α} {b d:β} (e:a=c) (i:b=d):f a b=f c d:=by rw[e,i]
theorem zr {α β γ δ:Type} (f:α→β→γ→δ) {a d:α} {b e:β} {c c':γ} (i:a=d) (j:b=e) (k:c=c'):f a b c=f d e c':=by rw[i,j,k]
end Gx

namespace Gx
open Go Go.RowKit
theorem G' {P:Program} {f:Nat} {t:Tw} (i:oC P f t) {W:World} {avs:LA} {vs:List Value} (m:Reps (fun _ k=>k<W.heap.size) (fun _=>none) [] W avs vs)
  (d:(t.runK avs [] fun v h=>some (v,h))=some (.bool true,[])) (j:GlobOk (fun _ k=>k<W.heap.size) W):Calls P f vs.toArray W fun e w'=>e=.returned (.bool true)∧Below W.heap.size W w':=by
 have S:SimH (fun _ k=>k<W.heap.size) (fun _=>none) [] W:=⟨fun _ _ h=>h,fun _ h=>h,j,fun b x c=>by simp[Ai] at c,fun b x c=>by simp[Ai] at c,fun b q x x' k o o' c=>by simp[Ai] at c⟩
 refine Calls.mono (i avs [] _ _ d _ _ W vs S m) ?_
 rintro e w' ⟨vc,J',β',rfl,F,l⟩
 rw[Rep] at l;subst l
 refine⟨rfl,F.os,F.tape,F.output,F.size,fun k n=>F.frame k n ?_⟩
 rintro⟨b,x,o,c,_⟩
 change Ai [] b=some x at c
 simp[Ai] at c
structure Opens (P:Program) (t:TypeId) {α:Type} (e:α→List AV) (n:Nat):Prop where
 size:P.cellsOf t=n
 pos:0<n
 len:∀ a,(e a).length=n
 read:∀ {H:Type} (enc:TypeId×Value→H) (W:World) (fuel:Nat) (cs:List Value) (d:DataW H) (ps:List MemPlace),DataW.trod enc P W 0 (fun _=>true) true fuel t cs=some (d,ps) →
  cs.length=n∧∃ a,RepCs (fun k=>k<W.heap.size) W (e a) (fun j=>cs[j]?) 0
theorem tj {P:Program} {t:TypeId} {k:IntKind} (c:P.underlying t=some (.int k)) (e:P.cellsOf t=1):Opens P t (α:={ n:Int // (Lit.int k n).wf=true }) (fun n=>[.int k n.1]) 1:=by
 refine⟨e,by omega,fun _=>rfl,fun enc W b cs d ps h=>?_⟩
 obtain⟨n,rfl,_,f⟩:=DataW.trod_int c h
 exact⟨rfl,⟨n,f⟩,by simp[RepCs,RepC]⟩
theorem qz {P:Program} {t:TypeId} (e:P.underlying t=some .bool) (f:P.cellsOf t=1):Opens P t (α:=Bool) (fun b=>[.bool b]) 1:=by
 refine⟨f,by omega,fun _=>rfl,fun enc W c cs d ps h=>?_⟩
 obtain⟨b,rfl,_⟩:=DataW.trod_bool e h
 exact⟨rfl,b,by simp[RepCs,RepC]⟩
theorem YO {α β:Type} {e:α→List β} {n:Nat} (d:0<n) (b:∀ a,(e a).length=n):∀ (l:List α) (j:Nat),(l.flatMap e)[j]?=(l[j/n]?).bind fun a=>(e a)[j%n]?
 | [],j=>by simp
 | a::r,j=>by
  rw[List.flatMap_cons]
  by_cases c:j<n
  ·rw[List.getElem?_append_left (by rw[b];exact c),Nat.div_eq_of_lt c,Nat.mod_eq_of_lt c];simp
  ·rw[List.getElem?_append_right (by rw[b];omega),b,YO d b r (j - n)]
   have f:j/n=(j - n)/n+1:=by
    have:=Nat.add_div_right (j - n) d
    rw[show j - n+n=j by omega] at this;exact this
   have i:j%n=(j - n)%n:=by
    have:=Nat.add_mod_right (j - n) n
    rw[show j - n+n=j by omega] at this;exact this
   rw[f,i];simp
theorem YP {α β:Type} {e:α→List β} {n:Nat} (b:∀ a,(e a).length=n):∀ (l:List α),(l.flatMap e).length=l.length*n
 | []=>by simp
 | a::r=>by rw[List.flatMap_cons,List.length_append,b,YP b r,List.length_cons,Nat.succ_mul];omega
theorem oK {α β:Type} {f:α→Option β}:∀ {l:List α} {r:List β},l.mapM f=some r→r.length=l.length∧∀ (i:Nat) (a:α),l[i]?=some a→f a=r[i]?
 | [],r,h=>by simp at h;subst h;simp
 | x::l,r,h=>by
  rw[List.mapM_cons] at h
  cases b:f x with
  | none=>simp[b] at h
  | some y =>
   cases c:l.mapM f with
   | none=>simp[b,c] at h
   | some ys =>
    simp[b,c] at h
    subst h
    obtain⟨e,j⟩:=oK c
    refine⟨by simp[e],fun i a d=>?_⟩
    cases i with
    | zero=>simp at d;subst d;simpa using b
    | succ i=>simpa using j i a (by simpa using d)
theorem oL {P:Program} {t D:TypeId} {α:Type} {e:α→LA} {n:Nat} (X:P.underlying t=some (.slice D)) (Y:P.cellsOf t=1) (s:Opens P D e n) :
  Opens P t (α:={ l:List α // l.length≤maxLen }) (fun l=>[.imm (l.1.flatMap e) l.1.length n false false]) 1:=by
 refine⟨Y,by omega,fun _=>rfl,fun enc W b cs d ps h=>?_⟩
 cases b with
 | zero=>simp[DataW.trod] at h
 | succ b =>
  unfold DataW.trod at h
  simp only[X] at h
  split at h
  all_goals first | (rename_i c;simp at c;done) | (rename_i c _;simp at c;done) | (rename_i c _ _;simp at c;done) | skip
  ·refine⟨rfl,⟨[],by simp⟩,?_⟩
   simp[RepCs,RepC]
  ·rename_i e' a len cap c
   simp at c;subst c
   split at h
   ·rename_i v
    obtain⟨hb,hlc,hcm⟩:=v
    refine⟨rfl,?_⟩
    cases K:(List.range len).mapM (fun i=>(W.cells? 0 (a.add (i*P.cellsOf D)) (P.cellsOf D)).bind (DataW.trod enc P W 0 (fun _=>true) true b D)) with
    | none=>rw[K] at h;simp at h
    | some dC =>
     obtain⟨h1,T⟩:=oK K
     rw[s.size] at T
     have each:∀ i:Nat,i<len→∃ x:α,∃ cs,W.cells? 0 (a.add (i*n)) n=some cs∧RepCs (fun k=>k<W.heap.size) W (e x) (fun j=>cs[j]?) 0:=by
      intro i U
      have F:=T i i (by simp[U])
      rw[List.getElem?_eq_getElem (by rw[h1];simpa using U)] at F
      cases f:W.cells? 0 (a.add (i*n)) n with
      | none=>rw[f] at F;simp at F
      | some cs =>
       rw[f] at F
       obtain⟨_,x,c⟩:=s.read enc W b cs _ _ F
       exact⟨x,cs,rfl,c⟩
     have build:∀ m,m≤len→∃ l:List α,l.length=m∧∀ i x,l[i]?=some x→∃ cs,W.cells? 0 (a.add (i*n)) n=some cs∧RepCs (fun k=>k<W.heap.size) W (e x) (fun j=>cs[j]?) 0:=by
      intro m
      induction m with
      | zero=>intro _;exact⟨[],rfl,by simp⟩
      | succ m ih =>
       intro K
       obtain⟨l,I,z⟩:=ih (by omega)
       obtain⟨x,cs,L,M⟩:=each m (by omega)
       refine⟨l++[x],by simp[I],fun i y B=>?_⟩
       rw[List.getElem?_append] at B
       split at B
       ·exact z i y B
       ·have:i=m:=by
         have:=(List.getElem?_eq_some_iff.1 B).1
         simp at this;omega
        subst this
        simp[I] at B;subst B
        exact⟨cs,L,M⟩
     obtain⟨l,I,z⟩:=build len (Nat.le_refl _)
     refine⟨⟨l,by omega⟩,?_⟩
     simp only[RepCs,RepC,and_true]
     refine⟨_,rfl,?_,some a,cap,by rw[I],by omega,by simp,?_⟩
     ·exact YP s.len l
     ·by_cases h0:l.length=0
      ·exact .inl h0
      ·right
       refine⟨a,rfl,?_,?_⟩
       ·obtain⟨x,cs,c,_⟩:=each 0 (by omega)
        have:=World.cells?_block c s.pos
        rwa [Na] at this
       ·rw[Bi]
        intro j x C
        rw[YO s.pos s.len] at C
        cases hq:l[j/n]? with
        | none=>rw[hq] at C;simp at C
        | some y =>
         rw[hq] at C
         simp at C
         obtain⟨cs,f,q⟩:=z (j/n) y hq
         rw[Bi] at q
         obtain⟨u,G,O⟩:=q (j%n) x C
         refine⟨u,?_,O⟩
         obtain⟨_,V,A⟩:=World.cells?_some f
         have S:j%n<n:=Nat.mod_lt _ s.pos
         have:=A (j%n) S
         rw[Addr.add_add,show j/n*n+j%n=j by rw[Nat.mul_comm];exact Nat.div_add_mod j n] at this
         simp only[Nat.zero_add] at G ⊢
         rw[this];exact G
   ·simp at h
  ·simp at h
end Gx

namespace Gx
open Go Go.RowKit
theorem rA {J:Bool→Nat→Prop} {β:Bm} {w w':World} (S:SimH J β [] w) (B:Below w.heap.size w w'):SimH J β [] w' :=
 ⟨fun o k h=>Nat.lt_of_lt_of_le (S.jlt o k h) B.size,S.jft,S.gl.to (fun _ h=>h) (fun k d=>B.block k (S.jlt _ k d)),fun b x c=>by simp[Ai] at c,fun b x c=>by simp[Ai] at c,fun b e x x' k o o' c=>by simp[Ai] at c⟩
theorem HA {P:Program} {f:Nat} {c:LA} {d:AV}
  (l:∀ (J:Bool→Nat→Prop) (β:Bm) (w:World) (vs:List Value),GlobOk J w→Reps J β [] w c vs→Calls P f vs.toArray w fun e w'=>∃ vc,e=.returned vc∧Below w.heap.size w w'∧∀ J β w,Rep J β [] w d vc):zW P f c [] d []:=by
 intro J β w vs S m
 refine(l J β w vs S.gl m).mono ?_
 rintro e w' ⟨vc,rfl,B,n⟩
 refine⟨vc,J,β,rfl,⟨rA S B,B.os,B.tape,B.output,B.size,fun k j _=>B.block k j,?_,fun _ _ h=>h,fun _ _ h=>.inl h,fun k=>?_,fun b x0 x i=>by simp[Ai] at i,fun b x i=>by simp[Ai] at i⟩,n _ _ _⟩
 ·rintro k ⟨b,x,o,i,_⟩;simp[Ai] at i
 ·by_cases j:k<w.heap.size
  ·simp[A3,B.block k j]
  ·simp[A3,Array.getElem?_eq_none (Nat.le_of_not_lt j)]
theorem dq {J:Bool→Nat→Prop} {β:Bm} {h:Ah} {w:World} {x:AV} {vs:List Value} (H:Reps J β h w [x] vs):∃ u,vs=[u]∧Rep J β h w x u:=by
 rw[Reps] at H
 obtain⟨u,d,rfl,c,b⟩:=H
 rw[Reps] at b;subst b
 exact⟨u,rfl,c⟩
theorem oM {J:Bool→Nat→Prop} {β:Bm} {h:Ah} {w:World} {x y:AV} {vs:List Value} (H:Reps J β h w [x,y] vs):∃ u v,vs=[u,v]∧Rep J β h w x u∧Rep J β h w y v:=by
 rw[Reps] at H
 obtain⟨u,e,rfl,b,c⟩:=H
 obtain⟨v,rfl,d⟩:=dq c
 exact⟨u,v,rfl,b,d⟩
theorem GlobOk.tab {J:Bool→Nat→Prop} {w:World} (h:GlobOk J w) {P:Program} {g:Nat} {name:String} {k:IntKind} {zs:List Int} (b:(g,zs.map fun z=>Value.int k z) ∈ sd) (c:P.globalNamed name=some g):Lib.TabIs P w name k zs:=by
 obtain⟨ty,fr,d⟩:=(h.1 _ b).2
 unfold Lib.TabIs World.var?
 rw[c]
 simp only[Option.bind_some]
 rw[d]
theorem wJ {W:World} {P:Program} {g:Nat} {name:String} {k:IntKind} {zs:List Int} (h:Lib.TabIs P W name k zs) (b:P.globalNamed name=some g):∃ ty fr,W.heap[g]?=some (.cells (zs.map fun z=>Value.int k z).toArray ty fr):=by
 unfold Lib.TabIs World.var? at h
 rw[b] at h
 simp only[Option.bind_some] at h
 split at h
 ·rename_i cs ty fr c
  simp at h;subst h
  exact⟨ty,fr,c⟩
 ·cases h
theorem GlobOk.int {J:Bool→Nat→Prop} {w:World} (h:GlobOk J w) {g:Nat} (b:g ∈ qV):∃ m,w.cell? ⟨g,0,none⟩=some (.int .i64 m):=(h.2 g b).2
theorem wK {W:World} {g i:Nat} {v:Value} (h:W.cell? ⟨g,i,none⟩=some v):g<W.heap.size:=by
 rcases Nat.lt_or_ge g W.heap.size with b | b
 ·exact b
 ·simp[World.cell?,Array.getElem?_eq_none b] at h
end Gx

namespace Gx
open Go
theorem am {a b:Bool} (c:a=true) (d:b=true):(a&&b)=true:=by rw[c,d];rfl
theorem lu {P:Program} (M:laidOutB P=true) (O:mapsRowed P=true) (S:(P.stops==[])=true) (T:(P.stopKnobs==[])=true) (b:P.stopsHeard=true) (d:P.mayEnter=true) {f:FuncId} {fn:Func} {s:ChangeSpec} {c:OpenClaim} (e:(c.inPlace==P.inPlace f)=true) (i:(c.unfollowed==P.unfollowed f)=true) (j:(c.recurses==P.recurses f)=true) (l:(c.named==P.varsNamed f)=true)
  (m:(c.lifted==P.liftsFinal)=true) (n:(P.make==some c.make)=true) (q:(c.plainKeys==P.plainKeys)=true)
  (U:c.wf (OpenSpec.ofChange s)=true) (V:fn.params.all (P.readableRec ·)=true) (X:namedTie P c.named s.vars=true) (Y:(c.stops==[])=true) (h8:(c.knobs==[])=true)
  (u:(c.maps==(fn.params.toList++s.plain.varTypes P).any (P.mapsRec ·))=true) (v:(c.ifaces==(fn.params.toList++s.plain.varTypes P).any (P.ifacesRec ·))=true) (x:(c.mapsOut==P.mapsAmong fn.resultTypes.toList)=true)
  (y:(c.loops==(fn.params.toList++s.plain.varTypes P).any (P.loopsFrom ·))=true) (z:(c.wideKeys==(fn.params.toList++s.plain.varTypes P++fn.resultTypes.toList).any (P.wideKeysFrom ·))=true)
  (A:s.vars.all (P.varReadable ·)=true) (B:fn.resultTypes.all (fun t=>P.readableRec t&&decide (t<P.types.size))=true) (C:(c.ifacesOut==fn.resultTypes.toList.any (P.ifacesRec ·))=true) (D:(c.loopsOut==fn.resultTypes.toList.any (P.loopsFrom ·))=true)
  (F:c.shortTexts.isNone=true) (G:(c.kinds==(if c.domain.isEmpty then [] else fn.params.toList.map fun t=>match P.underlying t with | some (.int k)=>some k | _=>none))=true) (I:(c.pinned==c.pinnedBy)=true)
  (K:(c.veiled==(fn.params.toList++s.plain.varTypes P++fn.resultTypes.toList).any (P.veiledRec ·))=true) (L:c.veiledFits P fn.params.toList (fn.params.toList++s.plain.varTypes P++fn.resultTypes.toList)=true):joinedFacts P f fn s c=true:=by
 unfold joinedFacts
 exact am (am (am (am (am (am (am (am (am (am (am (am (am (am (am (am (am (am (am (am (am (am (am (am (am (am (am (am (am (am (am U M) O) V) X) Y) S) h8) T) e) i) j) l) u) v) x) y) z) A) B) C) D) q) F) b) d) m) n) G) I) K) L
end Gx

namespace Go.Proofs.YtjmfofdghmlldaaGreatDoor
open Go.ChangeShapes Go.WideShapes Go.ChangeAt Go.RowKit
theorem xZ:ownKnob Tryz.prog.godebug=none:=by kernel_rfl
theorem Ll:laidOutB Tryz.prog=true:=by kernel_rfl
theorem z7 : Tryz.prog.globalNamed "internal/strconv.uint64pow10" = some 3 := by kernel_rfl
theorem zt:(Tryz.prog.globals[3]?).map (·.type)=some 333:=by kernel_rfl
theorem z8:Tryz.prog.underlying 333=some (.array 20 114):=by kernel_rfl
theorem z_:Tryz.prog.underlying 114=some (.int .u64):=by kernel_rfl
theorem za:Tryz.prog.cellsOf 333=20:=by kernel_rfl
theorem zb:Tryz.prog.cellsOf 114=1:=by kernel_rfl
def zE:List Int:=(List.range 20).map fun i=>((10 ^ i:Nat):Int)
theorem tm {H:Type}:(Rows.laid_internal_strconv_uint64pow10:DataW H)=Lib.tabData .u64 zE:=rfl
theorem lv {W:World} (hL:laidMetH Tryz.prog Rows.numtextNativeRow.laid W) (c:W.ShapedOpen Tryz.prog):Gx.GlobOk (fun _ k=>k<W.heap.size) W:=by
 have s : Lib.TabIs Tryz.prog W "internal/strconv.uint64pow10" .u64 zE := by
  have d:laidMet Tryz.prog Rows.numtextNativeRow.laid W:=hL
  obtain⟨ps,⟨D,t0,cs0,F,G,I,u,v,x,y,⟨K,t1,cs1,L,M,O,z,A,B,C,⟨S,t2,cs2,T,U,V,e,f,i,b,_,_⟩,_⟩,_⟩,_⟩:=d
  obtain rfl:=Option.some.inj (z7.symm.trans e)
  obtain rfl:=Option.some.inj (zt.symm.trans f)
  unfold Lib.TabIs
  rw[tm] at b
  rw[i,←Lib.cells_of_tab z8 z_ zb za b]
 obtain⟨ty,fr,j⟩:=Gx.wJ s z7
 obtain⟨m,l⟩:=cell_of_shapedOpen_int (P:=Tryz.prog) (g:=0) (t:=3) (zero:=#[.int .i64 0]) c (of_decide_eq_true (by kernel_rfl)) (by kernel_rfl) rfl (by kernel_rfl) (by kernel_rfl) Tryz.underlying3
 refine⟨fun p n=>?_,fun g q=>?_⟩
 ·simp only[Gx.sd,List.mem_singleton] at n
  subst n
  refine⟨?_,ty,fr,?_⟩
  ·show 3<W.heap.size
   rcases Nat.lt_or_ge 3 W.heap.size with h | h
   ·exact h
   ·rw[Array.getElem?_eq_none h] at j;cases j
  ·rw[j];rfl
 ·simp only[Gx.qV,List.mem_singleton] at q
  subst q
  exact⟨Gx.wK l,m,l⟩
noncomputable def lw (os:Os):World:=World.doorLaid Tryz.prog 3000 os
theorem PM (os:Os) (b:Array Value):laidMetH Tryz.prog Rows.numtextNativeRow.laid ((lw os).forCall (fun _ _=>0) ⟨#[],b,[]⟩).memory :=
 laidMet_of_run' 8 (by kernel_rfl) (by kernel_rfl)
theorem su:mapsRowed Tryz.prog=true:=by kernel_rfl
theorem mA:(Tryz.prog.stops==[])=true:=by kernel_rfl
theorem mB:(Tryz.prog.stopKnobs==[])=true:=by kernel_rfl
theorem mC:Tryz.prog.stopsHeard=true:=by kernel_rfl
theorem mD:Tryz.prog.mayEnter=true:=by kernel_rfl
theorem mE:(Rows.numtextNativeRow.lifted==Tryz.prog.liftsFinal)=true:=by kernel_rfl
theorem sv:(Tryz.prog.make==some Rows.numtextNativeRow.make)=true:=by kernel_rfl
theorem sw:(Rows.numtextNativeRow.plainKeys==Tryz.prog.plainKeys)=true:=by kernel_rfl
end Go.Proofs.YtjmfofdghmlldaaGreatDoor

namespace Gx
open Go
theorem wrap_u8 (a:Nat):IntKind.wrap .u8 (a:Int)=((a%256:Nat):Int):=by rw[IntKind.wrap_u8];omega
theorem wrap_u32 (a:Nat) (h:a<4294967296):IntKind.wrap .u32 (a:Int)=(a:Int):=IntWalk.u32_in _ (by omega)
theorem tn (a:Nat):IntKind.wrap .u32 (a:Int)=((a%4294967296:Nat):Int):=by rw[IntKind.wrap_u32];omega
theorem wrap_i64 (a:Int) (h:-9223372036854775808≤a∧a≤9223372036854775807):IntKind.wrap .i64 a=a:=IntWalk.i64_in _ h
theorem wrap_u64 (a:Nat) (h:a<18446744073709551616):IntKind.wrap .u64 (a:Int)=(a:Int):=IntWalk.u64_in _ (by omega)
theorem HB (w a:Nat):BitVec.ofInt w (a:Int)=BitVec.ofNat w a:=by simp
theorem rB {k:IntKind} (d:k.signed=false) {a b:Nat} (e:a<2 ^ k.bits) (c:b<2 ^ k.bits):qy k a b=((a &&& b:Nat):Int):=by
 unfold qy
 rw[HB,HB]
 have f:(BitVec.ofNat k.bits a &&& BitVec.ofNat k.bits b).toNat=a &&& b:=by
  rw[BitVec.toNat_and,BitVec.toNat_ofNat,BitVec.toNat_ofNat,Nat.mod_eq_of_lt e,Nat.mod_eq_of_lt c]
 rw[f]
 have i:a &&& b<2 ^ k.bits:=Nat.and_lt_two_pow _ c
 unfold IntKind.wrap
 simp only[d,Bool.false_and,Bool.false_eq_true,if_false]
 have:(2 ^ k.bits:Int)=((2 ^ k.bits:Nat):Int):=by simp
 rw[this,←Int.natCast_emod,Nat.mod_eq_of_lt i]
theorem ji {k:IntKind} (e:k.signed=false) {a b:Nat} (c:a<2 ^ k.bits) (d:b<2 ^ k.bits):Kx k a b=((a ||| b:Nat):Int):=by
 unfold Kx
 rw[HB,HB]
 have f:(BitVec.ofNat k.bits a ||| BitVec.ofNat k.bits b).toNat=a ||| b:=by
  rw[BitVec.toNat_or,BitVec.toNat_ofNat,BitVec.toNat_ofNat,Nat.mod_eq_of_lt c,Nat.mod_eq_of_lt d]
 rw[f]
 have i:a ||| b<2 ^ k.bits:=Nat.or_lt_two_pow c d
 unfold IntKind.wrap
 simp only[e,Bool.false_and,Bool.false_eq_true,if_false]
 have:(2 ^ k.bits:Int)=((2 ^ k.bits:Nat):Int):=by simp
 rw[this,←Int.natCast_emod,Nat.mod_eq_of_lt i]
theorem Lm (a k:Nat):Int.fdiv (a:Int) (2 ^ k)=((a/2 ^ k:Nat):Int):=by
 have:(2 ^ k:Int)=((2 ^ k:Nat):Int):=by simp
 rw[this,Int.fdiv_eq_ediv_of_nonneg (a:Int) (Int.natCast_nonneg (2 ^ k))]
 rfl
theorem Rp {R:Type} {k:IntKind} {n:Int} {r:LA} {f:Int→O R}:F3 k (.int k n::r) f=f n:=by simp[F3,XQ,Lh]
theorem Ak {i n:Nat} (h:i<n):Ao (i:Int) n=true:=by simp[Ao];omega
end Gx

namespace Gx
open Go Go.RowKit
section
variable {P:Program} {W:World} {H:Type} {enc:TypeId×Value→H} {β:Bm} {h:Ah}
theorem x9 {k:IntKind} {n:Int}:Rep (fun _ k=>k<W.heap.size) β h W (.int k n) (.int k n):=by rw[Rep]
theorem PN:Reps (fun _ k=>k<W.heap.size) β h W [] []:=by rw[Reps]
theorem Qu {x:AV} {xs:LA} {v:Value} {vs:List Value} (b:Rep (fun _ k=>k<W.heap.size) β h W x v) (c:Reps (fun _ k=>k<W.heap.size) β h W xs vs):Reps (fun _ k=>k<W.heap.size) β h W (x::xs) (v::vs):=by
 rw[Reps];exact⟨v,vs,rfl,b,c⟩
end
end Gx

namespace Gx
open Go Go.RowKit
theorem Opens.map {P:Program} {t:TypeId} {α β:Type} {e:α→LA} {n:Nat} (h:Opens P t e n) (f:β→LA) (g:α→β) (i:∀ a,e a=f (g a)) (j:∀ b,(f b).length=n):Opens P t f n:=by
 refine⟨h.size,h.pos,j,fun enc W c cs d ps k=>?_⟩
 obtain⟨l,a,m⟩:=h.read enc W c cs d ps k
 exact⟨l,g a,by rw[←i];exact m⟩
structure OpensF (P:Program) (fs:List Field) (off:Nat) {α:Type} (e:α→List AV) (n:Nat):Prop where
 len:∀ a,(e a).length=n
 read:∀ {H:Type} (enc:TypeId×Value→H) (W:World) (fuel:Nat) (cs:List Value),(∀ (i:Nat) (f:Field),fs[i]?=some f→∃ d ps,DataW.trod enc P W 0 (fun _=>true) true fuel f.type ((cs.drop f.offset).take (P.cellsOf f.type))=some (d,ps)) →
  ∃ a,RepCs (fun k=>k<W.heap.size) W (e a) (fun j=>cs[j]?) off
theorem dr {P:Program} {off:Nat}:OpensF P [] off (α:=Unit) (fun _=>[]) 0:=⟨fun _=>rfl,fun _ _ _ _ _=>⟨(),by simp[RepCs]⟩⟩
theorem Tx {P:Program} {f:Field} {fs:List Field} {off:Nat} {α β:Type} {e:α→LA} {n:Nat} {v:β→LA} {m:Nat} (B:f.offset=off) (k:Opens P f.type e n) (y:OpensF P fs (off+n) v m) :
  OpensF P (f::fs) off (α:=α×β) (fun p=>e p.1++v p.2) (n+m):=by
 refine⟨fun p=>by rw[List.length_append,k.len,y.len],fun enc W c cs h=>?_⟩
 obtain⟨d,ps,C⟩:=h 0 f rfl
 obtain⟨F,a,z⟩:=k.read enc W c _ _ _ C
 obtain⟨b,A⟩:=y.read enc W c cs fun i g D=>h (i+1) g (by simpa using D)
 refine⟨(a,b),?_⟩
 rw[Bi] at z A ⊢
 intro j x s
 by_cases q:j<n
 ·rw[List.getElem?_append_left (by rw[k.len];exact q)] at s
  obtain⟨u,l,t⟩:=z j x s
  refine⟨u,?_,t⟩
  simp only[Nat.zero_add] at l
  rw[k.size,List.getElem?_take_of_lt q,List.getElem?_drop,B] at l
  exact l
 ·rw[List.getElem?_append_right (by rw[k.len];omega),k.len] at s
  obtain⟨u,l,t⟩:=A (j - n) x s
  refine⟨u,?_,t⟩
  rw[show off+n+(j - n)=off+j by omega] at l
  exact l
theorem PO {P:Program} {t:TypeId} {fs:Array Field} {α:Type} {e:α→LA} {n:Nat} (m:P.underlying t=some (.struct fs)) (j:P.cellsOf t=n) (q:0<n) (h:OpensF P fs.toList 0 e n):Opens P t e n:=by
 refine⟨j,q,h.len,fun enc W k cs d ps s=>?_⟩
 obtain⟨xs,g,_,_,u,b,v⟩:=DataW.trod_struct m s
 refine⟨by rw[u,j],?_⟩
 exact h.read enc W g cs fun i f x=>by
  have l:fs[i]?=some f:=by simpa using x
  have:=v i f l
  have c:i<xs.length:=by
   rw[b];exact(Array.getElem?_eq_some_iff.1 l).1
  rw[List.getElem?_eq_getElem c] at this
  exact⟨_,_,this⟩
end Gx

namespace Gx
open Go Go.RowKit
section
variable {P:Program} {W:World} {H:Type} {enc:TypeId×Value→H} {β:Bm} {h:Ah}
theorem Jn {t:TypeId} {fs:Array Field} {b:Nat} {r:Reach} {v:Value} (c:P.underlying t=some (.struct fs)) (h:Value.okWide P W r b t v):∃ cs,v=.agg cs:=by
 unfold Value.okWide at h
 rw[c] at h
 obtain⟨cs,h,_⟩:=h
 exact⟨cs,h⟩
theorem wL {J:Nat→Prop}:∀ {x:AV} {u:Value},RepC J W x u→Rep (fun _=>J) β h W x u
 | .int ..,_,h=>by rw[Rep];rw[RepC] at h;exact h
 | .bool _,_,h=>by rw[Rep];rw[RepC] at h;exact h
 | .str _,_,h=>by rw[Rep];rw[RepC] at h;exact h
 | .nsl,_,h=>by rw[Rep];rw[RepC] at h;exact h
 | .imm ..,_,h=>by rw[Rep];exact h
 | .iptr ..,_,h=>by rw[Rep];exact h
 | .nilptr,_,h=>by rw[Rep];rw[RepC] at h;exact h
 | .nilfn,_,h=>by rw[Rep];rw[RepC] at h;exact h
 | .fn f [],_,h=>by
  rw[Rep];rw[RepC] at h
  exact⟨[],by simpa using h,by rw[Reps]⟩
 | .fn _ (_::_),_,h=>by simp[RepC] at h
 | .pagg ..,_,h=>by simp[RepC] at h
 | .agg _,_,h=>by simp[RepC] at h
 | .tup _,_,h=>by simp[RepC] at h
 | .own ..,_,h=>by simp[RepC] at h
 | .omap _,_,h=>by simp[RepC] at h
 | .optr ..,_,h=>by simp[RepC] at h
 | .undef,_,h=>by simp[RepC] at h
theorem sx {J:Nat→Prop}:∀ {c:LA} {cs:List Value} {rd:Nat→Option Value} {i:Nat},cs.length=c.length→(∀ j,cs[j]?=rd (i+j))→RepCs J W c rd i→Reps (fun _=>J) β h W c cs
 | [],cs,_,_,b,_,_=>by rw[Reps];simpa using b
 | x::r,[],_,_,b,_,_=>by simp at b
 | x::r,u::l,rd,i,b,f,e=>by
  rw[RepCs] at e
  obtain⟨⟨n,d,m⟩,e⟩:=e
  have k:=f 0
  simp only[List.getElem?_cons_zero,Nat.add_zero] at k
  rw[←k] at d
  cases d
  rw[Reps]
  refine⟨u,l,rfl,wL m,sx (by simpa using b) (fun j=>?_) e⟩
  have:=f (j+1)
  rw[List.getElem?_cons_succ] at this
  rw[this];congr 1;omega
theorem sy {c:LA} {v:Value} (b:Rep (fun _ k=>k<W.heap.size) β h W (.pagg c false) v):Rep (fun _ k=>k<W.heap.size) β h W (.agg c) v:=by
 rw[Rep] at b
 obtain⟨cs,d,e,f⟩:=b
 rw[Rep]
 exact⟨cs,d,sx e (fun j=>by rw[Nat.zero_add]) f⟩
end
end Gx

namespace Gx
open Go Go.Proofs
open IntKind (wrap)
set_option maxRecDepth 100000
noncomputable section
variable {R:Type} (N:Nat)
def muts:Nat→List Bool:=yC [(66,[false,true]),(97,[true,false]),(98,[true,false,false]),(100,[true,false,false,false,false]),(101,[true,false,false,false]),(102,[true,false,false,false]),(111,[true]),(113,[true,false]),(116,[true]),(132,[false,true]),(157,[true,false]),(158,[true,false]),(159,[true,false,false,false]),(160,[true,false,false,false,false,false,false,false]),(161,[true,false,false,false,false,false]),(163,[true,false,false]),(164,[true,false,false]),(165,[true,false,false]),(166,[true,false,false]),(167,[true,false,false]),(171,[true]),(172,[true]),(173,[true]),(174,[true]),(175,[true]),(176,[true]),(177,[true]),(178,[true]),(181,[false,true]),(182,[false,true,true,true,true,true,true,true,true]),(184,[false,true]),(185,[false,true,true,true,true,true,true,true,true]),(191,[true]),(204,[true,false]),(205,[true]),(214,[true]),(225,[true,false,false,false,false,false]),(227,[true,false,false,false,false,false]),(228,[true,false,false]),(233,[true,false,false]),(234,[true,false,false,false,false]),(235,[true,false,false,false,false]),(236,[true,false,false,false]),(237,[true,false,true]),(238,[false,true,true,true,true,true,true,true,true]),(239,[false,true,true,true,true,true,true,true,true]),(240,[true,false,false]),(242,[true,false,false]),(243,[false,true,true,true,true,true,true,true,true]),(244,[true,false]),(245,[false,true,true,true,true,true,true,true,true]),(246,[false,true,true,true,true,true,true,true,true]),(247,[false,true,true,true,true,true,true,true,true]),(249,[true,false]),(254,[false,true]),(271,[true,false]),(277,[true,false]),(314,[false,true,true,true,true,true,true,true,true])]
def Ty {R:Type}:=@zq R Tryz.prog muts
abbrev Cy {R:Type}:=@AB R Tryz.prog muts
abbrev Ap:=@yY Tryz.prog muts
theorem follows:Tryz.prog.follows .mixedOrders=true:=by kernel_rfl
theorem Cz {N f:Nat} {run:(R:Type)→Nat→LA→Ah→KF R→O R} (H:Ap N f run):oC Tryz.prog f (Ay H):=z6 H follows
def Cl:Hints:={ H:=hL }
def Ln:Hints:={ H:=hL,modes:=[(3,0)] }
def wM:Hints:={ H:=hL,modes:=[(3,0),(0,0)] }
def YQ:Hints:={ H:=(hS hL (hS hL (hS (hS (hP [0,3] hL) hL) hL))),nils:=[(2,1)],modes:=[(2,1)] }
def wN:Hints:={ H:=hL,nils:=[(2,1)],modes:=[(2,1)] }
def jj:Hints:={ H:=(hS hL (hS hL (hS hL (hS (hS hL (hS (hP [0,1,5] hL) hL)) hL)))) }
def zF:Hints:={ H:=hL,modes:=[(3,0),(3,0),(0,0)] }
end
end Gx

namespace Gx
def val:List Nat→Nat
 | []=>0
 | x::r=>x+4294967296*val r
def Ad (l:List Nat):Prop:=∀ x ∈ l,x<4294967296
def oN:Nat→Nat→List Nat
 | 0,_=>[]
 | f+1,n=>if n=0 then [] else n%4294967296::oN f (n/4294967296)
def Ae (n:Nat):List Nat:=oN n n
theorem tA:∀ (f n:Nat),n≤f→∀ g,n≤g→oN f n=oN g n
 | 0,n,h,g,_=>by
  have:n=0:=by omega
  subst this;cases g<;>simp[oN]
 | f+1,n,h,g,c=>by
  by_cases b:n=0
  ·subst b;cases g<;>simp[oN]
  ·cases g with
   | zero=>omega
   | succ g=>simp only[oN,b,if_false];rw[tA f _ (by omega) g (by omega)]
theorem Bt:Ae 0=[]:=rfl
theorem Tz {n:Nat} (h:n≠0):Ae n=n%4294967296::Ae (n/4294967296):=by
 unfold Ae
 cases n with
 | zero=>omega
 | succ n=>simp only[oN,h,if_false];rw[tA n _ (by omega) ((n+1)/4294967296) (by omega)]
theorem Ac:∀ n,val (Ae n)=n:=by
 intro n
 induction n using Nat.strongRecOn with
 | _ n b =>
  by_cases h:n=0
  ·subst h;rfl
  ·rw[Tz h,val,b _ (by omega)];omega
theorem Aa:∀ n,Ad (Ae n):=by
 intro n
 induction n using Nat.strongRecOn with
 | _ n c =>
  by_cases h:n=0
  ·subst h;intro x b;simp[Bt] at b
  ·rw[Tz h];intro x b
   simp at b
   rcases b with rfl | b
   ·omega
   ·exact c _ (by omega) x b
theorem Nh:Ad []:=by intro x b;simp at b
theorem B6 {x:Nat} {r:List Nat}:Ad (x::r)↔x<4294967296∧Ad r:=by simp[Ad]
theorem PP {a b:List Nat}:Ad (a++b)↔Ad a∧Ad b:=by simp[Ad,or_imp,forall_and]
theorem Bn {a:List Nat} (h:Ad a) (n:Nat):Ad (a.take n):=fun x b=>h x (List.mem_of_mem_take b)
theorem Y2 {a:List Nat} (h:Ad a) (n:Nat):Ad (a.drop n):=fun x b=>h x (List.mem_of_mem_drop b)
theorem At {a:List Nat} (h:Ad a) {i:Nat} (b:i<a.length):a[i]<4294967296:=h _ (List.getElem_mem b)
theorem Br {a:List Nat} (h:Ad a) {v:Nat} (d:v<4294967296) (i:Nat):Ad (a.set i v):=fun x c=>by
 rcases List.mem_or_eq_of_mem_set c with b | b
 ·exact h x b
 ·omega
theorem Bq (n:Nat):Ad (List.replicate n 0):=fun x b=>by simp at b;omega
theorem Kk:∀ (a b:List Nat),val (a++b)=val a+4294967296 ^ a.length*val b
 | [],b=>by simp[val]
 | x::r,b=>by
  simp only[List.cons_append,val,List.length_cons,Kk r b,Nat.pow_succ]
  rw[Nat.mul_add,←Nat.add_assoc,←Nat.mul_assoc];congr 2;rw[Nat.mul_comm]
theorem Cm:∀ n,val (List.replicate n 0)=0
 | 0=>rfl
 | n+1=>by rw[List.replicate_succ,val,Cm n]
theorem Bb:∀ {a:List Nat},Ad a→val a<4294967296 ^ a.length
 | [],_=>by simp[val]
 | x::r,h=>by
  have b:=B6.1 h
  have c:=Bb b.2
  rw[val,List.length_cons,Nat.pow_succ]
  omega
theorem rC (a:List Nat) (x:Nat):val (a++[x])=val a+4294967296 ^ a.length*x:=by rw[Kk];simp[val]
theorem MT {n:Nat} (h:n≠0):Ae n≠[]:=by rw[Tz h];simp
theorem dt {n:Nat}:Ae n=[]↔n=0:=by
 constructor
 ·intro h;by_cases b:n=0;exact b;exact absurd h (MT b)
 ·intro h;rw[h];rfl
theorem A0 {n:Nat}:(Ae n).length=0↔n=0:=by rw[List.length_eq_zero_iff,dt]
theorem Au:∀ {l:List Nat},Ad l→l=Ae (val l)++List.replicate (l.length - (Ae (val l)).length) 0∧(Ae (val l)).length≤l.length
 | [],_=>by simp[val,Bt]
 | x::r,h=>by
  have d:=B6.1 h
  obtain⟨b,e⟩:=Au d.2
  rw[val]
  by_cases c:x+4294967296*val r=0
  ·have f:x=0:=by omega
   have i:val r=0:=by omega
   rw[c,Bt]
   rw[i,Bt] at b
   simp at b
   subst f
   refine⟨?_,by simp⟩
   rw[List.nil_append,List.length_nil,Nat.sub_zero,List.length_cons,List.replicate_succ,←b]
  ·rw[Tz c,show(x+4294967296*val r)%4294967296=x by omega,show(x+4294967296*val r)/4294967296=val r by omega]
   refine⟨?_,by simp;exact e⟩
   rw[List.cons_append,List.length_cons,List.length_cons,Nat.add_sub_add_right,←b]
theorem du:∀ (n:Nat) (h:Ae n≠[]),(Ae n).getLast h≠0:=by
 intro n
 induction n using Nat.strongRecOn with
 | _ n d =>
  intro h
  have f:n≠0:=fun e=>h (by rw[e];rfl)
  have e:=Tz f
  by_cases c:n/4294967296=0
  ·rw[c,Bt] at e
   have:n<4294967296:=by omega
   simp[e];omega
  ·have b:=MT c
   have:=d _ (by omega) b
   have i:(Ae n).getLast h=(Ae (n/4294967296)).getLast b:=by
    simp only[e];rw[List.getLast_cons b]
   rw[i];exact this
theorem yZ:∀ {l:List Nat},Ad l→(∀ h:l≠[],l.getLast h≠0)→Ae (val l)=l:=by
 intro l h i
 obtain⟨b,j⟩:=Au h
 by_cases d:l.length - (Ae (val l)).length=0
 ·rw[d] at b;simpa using b.symm
 ·exfalso
  obtain⟨k,d⟩:=Nat.exists_eq_succ_of_ne_zero d
  rw[d,List.replicate_succ',←List.append_assoc] at b
  have c:l≠[]:=by intro e;rw[e] at b;simp at b
  apply i c
  have f:l.getLast?=some 0:=by rw[b,List.getLast?_append];rfl
  rw[List.getLast?_eq_some_getLast c] at f
  simpa using f
theorem Bj {n k:Nat} (h:n<4294967296 ^ k):(Ae n).length≤k:=by
  induction k generalizing n with
  | zero => have : n = 0 := by simpa using h
            subst this;simp[Bt]
  | succ k c =>
    by_cases b:n=0
    · subst b;simp[Bt]
    · rw[Tz b,List.length_cons]
      have:n/4294967296<4294967296 ^ k:=by
        rw[Nat.pow_succ] at h
        exact Nat.div_lt_of_lt_mul (by rw[Nat.mul_comm];exact h)
      have:=c this
      omega
theorem An {a b:Nat} (h:a≤b):(Ae a).length≤(Ae b).length:=by
 apply Bj
 have:=Bb (Aa b)
 rw[Ac] at this
 omega
end Gx

namespace Gx
theorem jk {U V U3 V2 P d:Nat} (hV:V2*P≤V) (hU:U<(U3+1)*P) (h:U3<d*V2) (b:0<V):U/V<d:=by
 rw[Nat.div_lt_iff_lt_mul b]
 have e:(U3+1)*P≤d*V2*P:=Nat.mul_le_mul_right _ h
 have c:d*(V2*P)≤d*V:=Nat.mul_le_mul_left _ hV
 rw[←Nat.mul_assoc] at c
 omega
theorem jl {U V U3 V2 P d:Nat} (hV:V<(V2+1)*P) (hU:U3*P≤U) (h:d*V2≤U3) (c:d≤V2+1) (b:0<V):d≤U/V+1:=by
 cases d with
 | zero=>exact Nat.zero_le _
 | succ d =>
  have:d≤U/V:=by
   rw[Nat.le_div_iff_mul_le b]
   have e:(d+1)*V2*P≤U3*P:=Nat.mul_le_mul_right _ h
   have f:d*V≤d*((V2+1)*P):=Nat.mul_le_mul_left _ (by omega)
   have i:d*((V2+1)*P)≤(d+1)*V2*P:=by
    rw[←Nat.mul_assoc]
    apply Nat.mul_le_mul_right
    rw[Nat.mul_add,Nat.add_mul];omega
   omega
  omega
theorem oO {a b u v s t x y:Nat} (e:x+v*b=u*a) (f:y+s*a=t*b) (c:u*t=v*s+1):Nat.gcd x y=Nat.gcd a b:=by
 have i:t*x+v*y=a:=by
  have d:t*x+t*v*b=t*u*a:=by rw[←Nat.mul_assoc t u a |>.symm,Nat.mul_assoc t v b,←Nat.mul_add,e]
  have j:v*y+v*s*a=v*t*b:=by rw[Nat.mul_assoc,Nat.mul_assoc,←Nat.mul_add,f]
  have k:t*u*a=v*s*a+a:=by rw[Nat.mul_comm t u,c,Nat.add_mul,Nat.one_mul]
  have l:t*v*b=v*t*b:=by rw[Nat.mul_comm t v]
  omega
 have m:s*x+u*y=b:=by
  have d:s*x+s*v*b=s*u*a:=by rw[Nat.mul_assoc,Nat.mul_assoc,←Nat.mul_add,e]
  have j:u*y+u*s*a=u*t*b:=by rw[Nat.mul_assoc,Nat.mul_assoc,←Nat.mul_add,f]
  have k:u*t*b=v*s*b+b:=by rw[c,Nat.add_mul,Nat.one_mul]
  have l:s*u*a=u*s*a:=by rw[Nat.mul_comm s u]
  have n:s*v*b=v*s*b:=by rw[Nat.mul_comm s v]
  omega
 apply Nat.dvd_antisymm
 ·apply Nat.dvd_gcd
  ·rw[←i];exact Nat.dvd_add (Nat.dvd_mul_left_of_dvd (Nat.gcd_dvd_left x y) t) (Nat.dvd_mul_left_of_dvd (Nat.gcd_dvd_right x y) v)
  ·rw[←m];exact Nat.dvd_add (Nat.dvd_mul_left_of_dvd (Nat.gcd_dvd_left x y) s) (Nat.dvd_mul_left_of_dvd (Nat.gcd_dvd_right x y) u)
 ·apply Nat.dvd_gcd
  ·have d:Nat.gcd a b∣x+v*b:=by rw[e];exact Nat.dvd_mul_left_of_dvd (Nat.gcd_dvd_left a b) u
   exact(Nat.dvd_add_left (Nat.dvd_mul_left_of_dvd (Nat.gcd_dvd_right a b) v)).1 d
  ·have d:Nat.gcd a b∣y+s*a:=by rw[f];exact Nat.dvd_mul_left_of_dvd (Nat.gcd_dvd_right a b) t
   exact(Nat.dvd_add_left (Nat.dvd_mul_left_of_dvd (Nat.gcd_dvd_left a b) s)).1 d
theorem T0 {a b x y P u v w:Nat} (c:x*P≤a) (e:b<(y+1)*P) (d:u*x=w+v*y) (f:v≤w):v*b≤u*a:=by
 have i:u*(x*P)≤u*a:=Nat.mul_le_mul_left _ c
 have j:v*b≤v*((y+1)*P):=Nat.mul_le_mul_left _ (by omega)
 have k:v*((y+1)*P)≤u*(x*P):=by
  rw[←Nat.mul_assoc,←Nat.mul_assoc]
  apply Nat.mul_le_mul_right
  rw[d,Nat.mul_add];omega
 omega
end Gx

namespace Gx
open Go
section
variable {R:Type}
def Ab (l:List Nat):LA:=l.map fun n:Nat=>.int .u32 (n:Int)
theorem Ni (x:Nat) (l:List Nat):Ab (x::l)=.int .u32 (x:Int)::Ab l:=rfl
theorem A9 (l:List Nat):(Ab l).length=l.length:=by simp[Ab]
theorem tp (l:List Nat) (n:Nat):(Ab l).drop n=Ab (l.drop n):=by simp[Ab,List.map_drop]
theorem Nj (l:List Nat) (n:Nat):(Ab l).take n=Ab (l.take n):=by simp[Ab,List.map_take]
theorem PQ (l:List Nat) (j:Nat) (v:Nat):List.set (Ab l) j (.int .u32 (v:Int))=Ab (l.set j v):=by simp[Ab,List.map_set]
theorem Bx (n:Nat):List.replicate n (AV.int .u32 0)=Ab (List.replicate n 0):=by simp[Ab]
theorem oP {l:List Nat} {i:Nat} (h:i<l.length) {f:Int→O R}:F3 .u32 (List.drop i (Ab l)) f=f (l[i]:Nat):=by
 rw[tp,List.drop_eq_getElem_cons h,Ni,Rp]
theorem T1:∀ l:List Nat,Ck (Ab l)=true
 | []=>rfl
 | x::r=>by rw[Ni,Ck];exact T1 r
theorem Vr (a b:Nat):(a:Int)+(b:Int)=((a+b:Nat):Int):=by omega
theorem dv (a b:Nat):(a:Int)*(b:Int)=((a*b:Nat):Int):=by simp
theorem Ex {a:Nat} (h:a<18446744073709551616):IntKind.wrap .u64 (a:Int)=(a:Int):=wrap_u64 a h
theorem tB {a:Nat} (h:a<4294967296):IntKind.wrap .u32 (a:Int)=(a:Int):=wrap_u32 a h
theorem MU (a:Nat):IntKind.wrap .u32 (a:Int)=((a%4294967296:Nat):Int):=tn a
theorem DI (a:Int):IntKind.wrap .u64 a=a%18446744073709551616:=IntKind.wrap_u64 a
theorem VQ {a b:Nat} (c:a<18446744073709551616) (d:b≤a):IntKind.wrap .u64 ((a:Int) - (b:Int))=((a - b:Nat):Int):=by rw[DI];omega
theorem wO {a b:Nat} (h:a<b) (c:b≤18446744073709551616):IntKind.wrap .u64 ((a:Int) - (b:Int))=((18446744073709551616+a - b:Nat):Int):=by rw[DI];omega
theorem VR (a:Nat):Int.fdiv (a:Int) (2 ^ 32)=((a/4294967296:Nat):Int):=Lm a 32
theorem zG (a:Nat):Int.fdiv (a:Int) (2 ^ 63)=((a/9223372036854775808:Nat):Int):=Lm a 63
theorem i64 {a:Int} (h:-9223372036854775808≤a∧a≤9223372036854775807):IntKind.wrap .i64 a=a:=wrap_i64 a h
theorem rD {a b:Nat} (c:a<18446744073709551616) (d:b<18446744073709551616):Kx .u64 (a:Int) (b:Int)=((a ||| b:Nat):Int):=ji rfl c d
theorem VS {a b k:Nat} (h:b<2 ^ k):a*2 ^ k ||| b=a*2 ^ k+b:=by
 rw[←Nat.shiftLeft_eq,Nat.shiftLeft_add_eq_or_of_lt h]
end
end Gx

namespace Gx
open Go Go.Proofs Go.RowKit Go.ChangeShapes
open Go.Proofs.YtjmfofdghmlldaaGreatDoor (Rows.uptoBulk Rows.uptoBulkAll)
theorem y4 {H:Type} (d:DataW H):1≤Rows.uptoBulk d:=by
 cases d with
 | lit l=>cases l<;>simp[Rows.uptoBulk]
 | _=>simp[Rows.uptoBulk]
theorem wQ {H:Type} (l:List (DataW H)):l.length≤Rows.uptoBulkAll l:=by
 induction l with
 | nil=>simp[Rows.uptoBulkAll]
 | cons x r b=>have:=y4 x;simp only[Rows.uptoBulkAll,List.length_cons];omega
theorem wR {n:Int} (h:(Lit.int .u32 n).wf=true):0≤n∧n<4294967296:=by
 simp only[Lit.wf,Bool.and_eq_true,decide_eq_true_eq,show IntKind.u32.min=0 from rfl,show IntKind.u32.max=4294967295 from rfl] at h;omega
theorem y5 {n:Int} (h:(Lit.int .i64 n).wf=true):-9223372036854775808≤n∧n≤9223372036854775807:=by
 simp only[Lit.wf,Bool.and_eq_true,decide_eq_true_eq,show IntKind.i64.min=-9223372036854775808 from rfl,show IntKind.i64.max=9223372036854775807 from rfl] at h;omega
section
variable {W:World} {H:Type} {enc:TypeId×Value→H} {β:Bm} {h:Ah}
theorem dw {P:Program} {t f:TypeId} (i:P.underlying t=some (.slice f)) {b:Nat} {cs:List Value} {x:DataW H×List MemPlace} {sp:Nat→Bool} {c:Bool} (j:DataW.trod enc P W 0 sp c b t cs=some x) {a:Option Addr} {len cap:Nat} (d:cs[0]?=some (.slice a len cap)):len+1≤Rows.uptoBulk x.1:=by
 rcases DataW.trod_slice i j with⟨rfl,rfl⟩ | ⟨k,len',cap',dC,Tl,n,_,rfl,rfl,_,_,_,e,_,_⟩
 ·simp at d
  obtain⟨_,rfl,_⟩:=d
  simp[Rows.uptoBulk]
 ·simp at d
  obtain⟨_,rfl,_⟩:=d
  have:=wQ (dC.map (·.1))
  simp only[Rows.uptoBulk]
  rw[List.length_map] at this
  omega
theorem rE:Opens Tryz.prog 97 (α:={ n:Nat // n<4294967296 }) (fun n=>[.int .u32 (n.1:Int)]) 1 :=
 (tj Tryz.underlying97 (by kernel_rfl)).map _ (fun n=>⟨n.1.toNat,by have:=wR n.2;omega⟩) (fun n=>by have:=wR n.2;simp;omega) (fun _=>rfl)
theorem jm:∀ l:List { n:Nat // n<4294967296 },l.flatMap (fun n=>[AV.int .u32 (n.1:Int)])=Ab (l.map (·.1))
 | []=>rfl
 | a::r=>by rw[List.flatMap_cons,jm r];rfl
theorem YR:Opens Tryz.prog 22 (α:={ l:List Nat // Ad l }) (fun l=>[.imm (Ab l.1) l.1.length 1 false false]) 1 :=
 (oL Tryz.underlying22 (by kernel_rfl) rE).map _ (fun l=>⟨l.1.map (·.1),fun x b=>by obtain⟨y,_,rfl⟩:=List.mem_map.1 b;exact y.2⟩) (fun l=>by show [AV.imm (l.1.flatMap (fun n=>[AV.int .u32 (n.1:Int)])) l.1.length 1 false false]=[AV.imm (Ab (l.1.map (·.1))) (l.1.map (·.1)).length 1 false false];rw[jm,List.length_map]) (fun _=>rfl)
theorem tq:Opens Tryz.prog 24 (α:=Bool×{ l:List Nat // Ad l }×Unit) (fun p=>[.bool p.1,.imm (Ab p.2.1.1) p.2.1.1.length 1 false false]) 2:=(PO Tryz.underlying24 (by kernel_rfl) (by decide) (Tx rfl (qz Tryz.underlying4 (by kernel_rfl)) (Tx rfl YR dr))).map _ (fun p=>p) (fun _=>rfl) (fun _=>rfl)
theorem yz:Opens Tryz.prog 26 (α:=(Bool×{ l:List Nat // Ad l }×Unit)×{ l:List Nat // Ad l }×Unit) (fun p=>[.bool p.1.1,.imm (Ab p.1.2.1.1) p.1.2.1.1.length 1 false false,.imm (Ab p.2.1.1) p.2.1.1.length 1 false false]) 3:=(PO Tryz.underlying26 (by kernel_rfl) (by decide) (Tx rfl tq (Tx rfl YR dr))).map _ (fun p=>p) (fun _=>rfl) (fun _=>rfl)
theorem MV {W:World} {e:LA} {cs:List Value} (f:RepCs (fun k=>k<W.heap.size) W e (fun j=>cs[j]?) 0) {j:Nat} {c:LA} {n sz:Nat} {t o:Bool} (i:e[j]?=some (.imm c n sz t o)):∃ a cap,cs[j]?=some (.slice a n cap):=by
 obtain⟨u,b,d⟩:=Bi.1 f j _ i
 rw[RepC] at d
 obtain⟨_,A,cap,rfl,_⟩:=d
 rw[Nat.zero_add] at b
 exact⟨A,cap,b⟩
theorem oQ {b:Nat} {cs:List Value} {x:DataW H×List MemPlace} {sp:Nat→Bool} {c:Bool} (d:DataW.trod enc Tryz.prog W 0 sp c b 24 cs=some x) {a:Option Addr} {len cap:Nat} (e:cs[1]?=some (.slice a len cap)):len≤Rows.uptoBulk x.1:=by
 obtain⟨y0,y1,n,rfl,i,j,f⟩:=trod_struct2 Tryz.underlying24 d
 have c1:Tryz.prog.cellsOf 22=1:=by kernel_rfl
 have:=dw (t:=22) Tryz.underlying22 f (a:=a) (len:=len) (cap:=cap) (by
  show(List.take (Tryz.prog.cellsOf 22) (cs.drop 1))[0]?=_
  rw[c1,List.getElem?_take_of_lt (by omega),List.getElem?_drop];exact e)
 simp only[Rows.uptoBulk,Rows.uptoBulkAll]
 omega
theorem wT {c:Nat} {cs:List Value} {x:DataW H×List MemPlace} {sp:Nat→Bool} {d:Bool} (f:DataW.trod enc Tryz.prog W 0 sp d c 26 cs=some x) {a b:Option Addr} {len cap len2 cap2:Nat} (i:cs[1]?=some (.slice a len cap)) (e:cs[2]?=some (.slice b len2 cap2)):len+len2≤Rows.uptoBulk x.1:=by
 obtain⟨y0,y1,n,rfl,m,j,k⟩:=trod_struct2 Tryz.underlying26 f
 have c1:Tryz.prog.cellsOf 22=1:=by kernel_rfl
 have l:Tryz.prog.cellsOf 24=2:=by kernel_rfl
 have q:=dw (t:=22) Tryz.underlying22 k (a:=b) (len:=len2) (cap:=cap2) (by
  show(List.take (Tryz.prog.cellsOf 22) (cs.drop 2))[0]?=_
  rw[c1,List.getElem?_take_of_lt (by omega),List.getElem?_drop];exact e)
 have s:=oQ (a:=a) (len:=len) (cap:=cap) j (by
  show(List.take (Tryz.prog.cellsOf 24) (cs.drop 0))[1]?=_
  rw[l,List.getElem?_take_of_lt (by omega),List.getElem?_drop];exact i)
 simp only[Rows.uptoBulk,Rows.uptoBulkAll]
 omega
theorem oR {v:Value} {d:DataW H} {p:List MemPlace} (f:∃ cs,v=.agg cs) (i:DataW.Trod enc Tryz.prog W 0 (fun _=>true) true 24 v d p) :
  ∃ (neg:Bool) (l1:List Nat),Ad l1∧l1.length≤Rows.uptoBulk d∧Rep (fun _ k=>k<W.heap.size) β h W (.agg [.bool neg,.imm (Ab l1) l1.length 1 false false]) v:=by
 obtain⟨cs,rfl⟩:=f
 obtain⟨b,c⟩:=i
 obtain⟨l,⟨n,l1,_⟩,e⟩:=tq.read enc W b _ _ _ c
 obtain⟨a,cap,m⟩:=MV (j:=1) e rfl
 refine⟨n,l1.1,l1.2,oQ c m,sy ?_⟩
 rw[Rep]
 exact⟨cs.toList,rfl,l,e⟩
theorem dx {v:Value} {d:DataW H} {p:List MemPlace} (i:∃ cs,v=.agg cs) (l:DataW.Trod enc Tryz.prog W 0 (fun _=>true) true 26 v d p) :
  ∃ (neg:Bool) (l1 l2:List Nat),Ad l1∧Ad l2∧l1.length+l2.length≤Rows.uptoBulk d∧Rep (fun _ k=>k<W.heap.size) β h W (.agg [.bool neg,.imm (Ab l1) l1.length 1 false false,.imm (Ab l2) l2.length 1 false false]) v:=by
 obtain⟨cs,rfl⟩:=i
 obtain⟨b,f⟩:=l
 obtain⟨m,⟨⟨n,l1,_⟩,l2,_⟩,c⟩:=yz.read enc W b _ _ _ f
 obtain⟨a,cap,q⟩:=MV (j:=1) c rfl
 obtain⟨a2,cap2,e⟩:=MV (j:=2) c rfl
 refine⟨n,l1.1,l2.1,l1.2,l2.2,wT f q e,sy ?_⟩
 rw[Rep]
 exact⟨cs.toList,rfl,m,c⟩
end
end Gx

namespace Gx
open Go
def Be (c:UInt8):Bool:=decide (48≤c.toNat)&&decide (c.toNat≤57)
def B7 (s:List UInt8):Nat:=s.foldl (fun a c=>10*a+(c.toNat - 48)) 0
def MW (s:List UInt8):Bool:=s.all Be&&!s.isEmpty
def Do (s:List UInt8):Bool:=MW s&&(s==[48]||s.head? != some 48)
abbrev En:=Lib.decDigits
theorem tt (s:List UInt8):∀ a,s.foldl (fun a c=>10*a+(c.toNat - 48)) a=a*10 ^ s.length+B7 s:=by
 unfold B7
 induction s with
 | nil=>intro a;simp
 | cons c r b =>
  intro a
  rw[List.foldl_cons,List.foldl_cons,b,b (10*0+_),List.length_cons,Nat.pow_succ,Nat.add_mul,Nat.add_mul]
  have:10*a*10 ^ r.length=a*(10 ^ r.length*10):=by rw[Nat.mul_comm 10 a,Nat.mul_assoc,Nat.mul_comm 10]
  rw[this];omega
theorem Oi (a b:List UInt8):B7 (a++b)=B7 a*10 ^ b.length+B7 b:=by
 have:=tt b (B7 a)
 unfold B7 at *
 rw[List.foldl_append];exact this
theorem jn (a:List UInt8) (c:UInt8):B7 (a++[c])=10*B7 a+(c.toNat - 48):=by rw[Oi];simp[B7];omega
theorem Qv (c:UInt8) (r:List UInt8):B7 (c::r)=(c.toNat - 48)*10 ^ r.length+B7 r:=by
 have:=Oi [c] r
 simpa[B7] using this
theorem PR {s:List UInt8} (h:s.all Be=true):B7 s<10 ^ s.length:=by
 induction s with
 | nil=>simp[B7]
 | cons c r b =>
  simp only[List.all_cons,Bool.and_eq_true] at h
  have d:=b h.2
  have e:c.toNat≤57:=by have:=h.1;simp[Be] at this;omega
  rw[Qv,List.length_cons,Nat.pow_succ]
  have:(c.toNat - 48)*10 ^ r.length≤9*10 ^ r.length:=Nat.mul_le_mul_right _ (by omega)
  omega
theorem MX (k:Nat) (s:List UInt8):B7 (List.replicate k 48++s)=B7 s:=by
 rw[Oi]
 have:B7 (List.replicate k 48)=0:=by
  induction k with
  | zero=>rfl
  | succ k b=>rw[List.replicate_succ,Qv,b];simp
 rw[this];simp
theorem C5 {u:Nat} (h:u<10):En u=[UInt8.ofNat (48+u)]:=by rw[En,Lib.decDigits,dif_pos h]
theorem N5 {u:Nat} (h:10≤u):En u=En (u/10)++[UInt8.ofNat (48+u%10)]:=by
 rw[En,Lib.decDigits,dif_neg (by omega)]
theorem HC {k:Nat} (h:k<10):Be (UInt8.ofNat (48+k))=true∧(UInt8.ofNat (48+k)).toNat=48+k:=by
 have:(UInt8.ofNat (48+k)).toNat=48+k:=by simp;omega
 exact⟨by simp[Be,this];omega,this⟩
theorem Jo:∀ u,(En u).all Be=true:=by
 intro u
 induction u using Nat.strongRecOn with
 | ind u b =>
  by_cases h:u<10
  ·rw[C5 h];simpa using(HC h).1
  ·rw[N5 (by omega),List.all_append,b (u/10) (by omega)]
   simpa using(HC (k:=u%10) (by omega)).1
theorem Rq (u:Nat):En u≠[]:=by
 by_cases h:u<10
 ·rw[C5 h];simp
 ·rw[N5 (by omega)];simp
theorem Jp:∀ u,B7 (En u)=u:=by
 intro u
 induction u using Nat.strongRecOn with
 | ind u b =>
  by_cases h:u<10
  ·rw[C5 h];simp only[B7,List.foldl_cons,List.foldl_nil,(HC h).2];omega
  ·rw[N5 (by omega),jn,b (u/10) (by omega),(HC (k:=u%10) (by omega)).2];omega
theorem PS:∀ u,0<u→(En u).head?≠some 48:=by
 intro u
 induction u using Nat.strongRecOn with
 | ind u d =>
  intro f
  by_cases h:u<10
  ·rw[C5 h]
   intro e
   simp at e
   have:=congrArg UInt8.toNat e
   simp at this;omega
  ·rw[N5 (by omega)]
   have:=d (u/10) (by omega) (by omega)
   cases b:En (u/10) with
   | nil=>exact absurd b (Rq _)
   | cons c r=>rw[b] at this;simpa using this
theorem HD (u:Nat):Do (En u)=true:=by
 have b:=Jo u
 have d:=Rq u
 rcases Nat.eq_zero_or_pos u with h | h
 ·subst h;rw[C5 (by omega)];decide
 ·have e:=PS u h
  simp only[Do,MW,b,Bool.true_and,Bool.and_eq_true,Bool.or_eq_true,bne_iff_ne]
  refine⟨?_,.inr e⟩
  cases f:En u with
  | nil=>exact absurd f d
  | cons c r=>rfl
theorem oS {c:UInt8} (h:Be c=true):c=UInt8.ofNat (48+(c.toNat - 48)):=by
 simp[Be] at h
 have:48+(c.toNat - 48)=c.toNat:=by omega
 rw[this];simp
theorem wU {s:List UInt8} (h:Do s=true):En (B7 s)=s:=by
 have key:∀ (n:Nat) (s:List UInt8),s.length=n→s.all Be=true→s≠[]→(s.length=1∨s.head?≠some 48)→En (B7 s)=s:=by
  intro n
  induction n with
  | zero=>intro s m _ d;exact absurd (List.length_eq_zero_iff.1 m) d
  | succ n u =>
   intro s m i d j
   obtain⟨r,c,rfl⟩:∃ r c,s=r++[c]:=⟨s.dropLast,s.getLast d,(List.dropLast_concat_getLast d).symm⟩
   simp only[List.all_append,List.all_cons,List.all_nil,Bool.and_true,Bool.and_eq_true] at i
   have v:c.toNat - 48<10:=by have:=i.2;simp[Be] at this;omega
   rw[jn]
   cases r with
   | nil =>
    rw[show B7 []=0 from rfl,Nat.mul_zero,Nat.zero_add,C5 v,←oS i.2];rfl
   | cons b f =>
    have k:(b::f).head?≠some 48:=by
     rcases j with j | j
     ·simp at j
     ·simpa using j
    have t:0<B7 (b::f):=by
     rw[Qv]
     have x:Be b=true:=by have:=i.1;simp at this;exact this.1
     have q:b≠48:=by simpa using k
     have:0<b.toNat - 48:=by
      simp[Be] at x
      have:b.toNat≠48:=fun e=>q (UInt8.toNat_inj.1 (by simpa using e))
      omega
     have:=Nat.mul_pos this (Nat.pow_pos (n:=f.length) (show 0<10 by omega))
     omega
    rw[N5 (by omega),show(10*B7 (b::f)+(c.toNat - 48))/10=B7 (b::f) by omega,show(10*B7 (b::f)+(c.toNat - 48))%10=c.toNat - 48 by omega,←oS i.2]
    rw[u (b::f) (by simp at m ⊢;omega) i.1 (by simp) (.inr k)]
 simp only[Do,MW,Bool.and_eq_true,Bool.or_eq_true,bne_iff_ne] at h
 obtain⟨⟨y,z⟩,l⟩:=h
 refine key _ s rfl y (by intro e;subst e;simp at z) ?_
 rcases l with l | l
 ·left;have:s=[48]:=by simpa using l
  rw[this];rfl
 ·exact .inr l
theorem dy {s:List UInt8} (b:s.all Be=true) (d:s≠[]) (e:s.head?≠some 48):Do s=true:=by
 simp only[Do,MW,b,Bool.true_and,Bool.and_eq_true,Bool.or_eq_true,bne_iff_ne]
 refine⟨?_,.inr e⟩
 cases s with
 | nil=>exact absurd rfl d
 | cons c r=>rfl
theorem tw {q r k:Nat} (hq:0<q) (f:r<10 ^ k) (i:(En r).length≤k):En (q*10 ^ k+r)=En q++(List.replicate (k - (En r).length) 48++En r):=by
 have b:(En q++(List.replicate (k - (En r).length) 48++En r)).all Be=true:=by
  simp only[List.all_append,Jo,Bool.and_true,Bool.true_and]
  rw[List.all_eq_true];intro x d;rw[List.eq_of_mem_replicate d];decide
 have e:Do (En q++(List.replicate (k - (En r).length) 48++En r))=true:=by
  refine dy b (by simp[Rq]) ?_
  have:=PS q hq
  cases h:En q with
  | nil=>exact absurd h (Rq q)
  | cons c t=>rw[h] at this;simpa using this
 rw[←wU e,Oi,MX,Jp,Jp]
 rw[List.length_append,List.length_replicate,show k - (En r).length+(En r).length=k by omega]
theorem tC {u k:Nat} (q:0<k):(En u).length≤k↔u<10 ^ k:=by
 constructor
 ·intro h
  have:=PR (Jo u)
  rw[Jp] at this
  exact Nat.lt_of_lt_of_le this (Nat.pow_le_pow_right (by omega) h)
 ·intro h
  apply Classical.byContradiction
  intro s
  have b:k<(En u).length:=by omega
  have j:0<u:=by
   rcases Nat.eq_zero_or_pos u with e | e
   ·subst e;rw[C5 (by omega)] at b;simp at b;omega
   ·exact e
  have i:=PS u j
  cases d:En u with
  | nil=>exact Rq u d
  | cons c r =>
   rw[d] at i b
   have l:Be c=true:=by have:=Jo u;rw[d] at this;simp at this;exact this.1
   have f:c≠48:=by simpa using i
   have m:1≤c.toNat - 48:=by
    simp[Be] at l
    have:c.toNat≠48:=fun e=>f (UInt8.toNat_inj.1 (by simpa using e))
    omega
   have n:=Jp u
   rw[d,Qv] at n
   simp at b
   have t:10 ^ k≤10 ^ r.length:=Nat.pow_le_pow_right (by omega) (by omega)
   have v:1*10 ^ r.length≤(c.toNat - 48)*10 ^ r.length:=Nat.mul_le_mul_right _ m
   omega
end Gx

namespace Go.Proofs
open Go.Shelf Go.RowKit
open Go.RowKit
def Tryz.laysM171_ren:Go.Shelf.Ren:=⟨fun | 171=>114 | 243=>192 | 246=>257 | 283=>293 | 284=>294 | 285=>295 | 286=>296 | 129=>310 | 317=>309 | 318=>311 | 319=>312 | 320=>313 | 337=>318 | 338=>319 | n=>n,fun | 3=>3 | 9=>9 | 2=>2 | 4=>4 | 171=>315 | 0=>0 | 53=>114 | 37=>56 | 5=>5 | 173=>318 | 212=>333 | 51=>97 | 20=>20 | 213=>334 | 46=>204 | 232=>345 | 233=>346 | n=>n,fun | 17=>3 | 18=>6 | 19=>7 | n=>n⟩
theorem Tryz.laysM171:Go.Proofs.LaysM.n171 Tryz.prog Tryz.laysM171_ren:={
 mixed:=by kernel_rfl
 b:=Tryz.func310.trans (congrArg some (by kernel_rfl))
 c:=Tryz.func114.trans (congrArg some (by kernel_rfl))
 d:=Tryz.func192.trans (congrArg some (by kernel_rfl))
 e:=Tryz.func257.trans (congrArg some (by kernel_rfl))
 f:=Tryz.func293.trans (congrArg some (by kernel_rfl))
 i:=Tryz.func294.trans (congrArg some (by kernel_rfl))
 j:=Tryz.func295.trans (congrArg some (by kernel_rfl))
 k:=Tryz.func296.trans (congrArg some (by kernel_rfl))
 l:=Tryz.func309.trans (congrArg some (by kernel_rfl))
 m:=Tryz.func311.trans (congrArg some (by kernel_rfl))
 n:=Tryz.func312.trans (congrArg some (by kernel_rfl))
 q:=Tryz.func313.trans (congrArg some (by kernel_rfl))
 s:=Tryz.func318.trans (congrArg some (by kernel_rfl))
 t:=Tryz.func319.trans (congrArg some (by kernel_rfl))
 t0:=Tryz.underlying0
 a0:=Tryz.isAgg0
 z0:=Tryz.sizeOf0
 v0:=Tryz.zeroValue0
 t2:=Tryz.underlying2
 a2:=Tryz.isAgg2
 z2:=Tryz.sizeOf2
 v2:=Tryz.zeroValue2
 t3:=Tryz.underlying3
 a3:=Tryz.isAgg3
 z3:=Tryz.sizeOf3
 v3:=Tryz.zeroValue3
 t4:=Tryz.underlying4
 a4:=Tryz.isAgg4
 z4:=Tryz.sizeOf4
 v4:=Tryz.zeroValue4
 t5:=Tryz.underlying5
 a5:=Tryz.isAgg5
 z5:=Tryz.sizeOf5
 v5:=Tryz.zeroValue5
 t9:=Tryz.underlying9
 a9:=Tryz.isAgg9
 z9:=Tryz.sizeOf9
 v9:=Tryz.zeroValue9
 t20:=Tryz.underlying20
 a20:=Tryz.isAgg20
 z20:=Tryz.sizeOf20
 v20:=Tryz.zeroValue20
 t37:=Tryz.underlying56
 a37:=Tryz.isAgg56
 z37:=Tryz.sizeOf56
 v37:=Tryz.zeroValue56
 t46:=Tryz.underlying204
 a46:=Tryz.isAgg204
 z46:=Tryz.sizeOf204
 v46:=Tryz.zeroValue204
 t51:=Tryz.underlying97
 a51:=Tryz.isAgg97
 z51:=Tryz.sizeOf97
 v51:=Tryz.zeroValue97
 t53:=Tryz.underlying114
 a53:=Tryz.isAgg114
 z53:=Tryz.sizeOf114
 v53:=Tryz.zeroValue114
 t171:=Tryz.underlying315
 a171:=Tryz.isAgg315
 z171:=Tryz.sizeOf315
 v171:=Tryz.zeroValue315
 t173:=Tryz.underlying318
 a173:=Tryz.isAgg318
 z173:=Tryz.sizeOf318
 v173:=Tryz.zeroValue318
 t212:=Tryz.underlying333
 a212:=Tryz.isAgg333
 z212:=Tryz.sizeOf333
 v212:=Tryz.zeroValue333
 t213:=Tryz.underlying334
 a213:=Tryz.isAgg334
 z213:=Tryz.sizeOf334
 t232:=Tryz.underlying345
 a232:=Tryz.isAgg345
 z232:=Tryz.sizeOf345
 v232:=Tryz.zeroValue345
 t233:=Tryz.underlying346
 a233:=Tryz.isAgg346
 z233:=Tryz.sizeOf346
 v233:=Tryz.zeroValue346
 u:=by kernel_rfl
 v:=by kernel_rfl
 x:=by kernel_rfl
 i0:=by kernel_rfl
 i2:=by kernel_rfl
 i3:=by kernel_rfl
 i4:=by kernel_rfl
 i5:=by kernel_rfl
 i9:=by kernel_rfl
 i20:=by kernel_rfl
 i37:=by kernel_rfl
 i46:=by kernel_rfl
 i51:=by kernel_rfl
 i53:=by kernel_rfl
 i171:=by kernel_rfl
 i173:=by kernel_rfl
 i212:=by kernel_rfl
 i232:=by kernel_rfl
 i233:=by kernel_rfl
 m17:=by kernel_rfl
 m18:=by kernel_rfl
 m19:=by kernel_rfl }
def Tryz.laysC172_ren:Go.Shelf.Ren:=⟨fun | 172=>147 | 244=>219 | 245=>220 | 247=>279 | 279=>280 | 280=>281 | 281=>282 | 282=>283 | 287=>300 | 316=>301 | 171=>114 | 205=>302 | 321=>315 | 322=>316 | 243=>192 | 246=>257 | 283=>293 | 284=>294 | 285=>295 | 286=>296 | 129=>310 | 317=>309 | 318=>311 | 319=>312 | 320=>313 | 337=>318 | 338=>319 | n=>n,fun | 9=>9 | 3=>3 | 75=>175 | 76=>176 | 4=>4 | 5=>5 | 167=>308 | 37=>56 | 0=>0 | 85=>309 | 2=>2 | 168=>311 | 53=>114 | 175=>322 | 46=>204 | 210=>326 | 127=>246 | 145=>340 | 143=>338 | 21=>21 | 171=>315 | 173=>318 | 212=>333 | 51=>97 | 20=>20 | 213=>334 | 232=>345 | 233=>346 | 80=>181 | n=>n,fun | 15=>1 | 16=>2 | 17=>3 | 18=>6 | 19=>7 | n=>n⟩
theorem Tryz.laysC172:Go.Proofs.LaysC.n172 Tryz.prog Tryz.laysC172_ren:={
 mixed:=by kernel_rfl
 b:=Tryz.func310.trans (congrArg some (by kernel_rfl))
 c:=Tryz.func114.trans (congrArg some (by kernel_rfl))
 d:=Tryz.func147.trans (congrArg some (by kernel_rfl))
 e:=Tryz.func302.trans (congrArg some (by kernel_rfl))
 f:=Tryz.func192.trans (congrArg some (by kernel_rfl))
 i:=Tryz.func219.trans (congrArg some (by kernel_rfl))
 j:=Tryz.func220.trans (congrArg some (by kernel_rfl))
 k:=Tryz.func257.trans (congrArg some (by kernel_rfl))
 l:=Tryz.func279.trans (congrArg some (by kernel_rfl))
 m:=Tryz.func280.trans (congrArg some (by kernel_rfl))
 n:=Tryz.func281.trans (congrArg some (by kernel_rfl))
 q:=Tryz.func282.trans (congrArg some (by kernel_rfl))
 s:=Tryz.func283.trans (congrArg some (by kernel_rfl))
 t:=Tryz.func293.trans (congrArg some (by kernel_rfl))
 u:=Tryz.func294.trans (congrArg some (by kernel_rfl))
 v:=Tryz.func295.trans (congrArg some (by kernel_rfl))
 x:=Tryz.func296.trans (congrArg some (by kernel_rfl))
 y:=Tryz.func300.trans (congrArg some (by kernel_rfl))
 z:=Tryz.func301.trans (congrArg some (by kernel_rfl))
 A:=Tryz.func309.trans (congrArg some (by kernel_rfl))
 B:=Tryz.func311.trans (congrArg some (by kernel_rfl))
 C:=Tryz.func312.trans (congrArg some (by kernel_rfl))
 D:=Tryz.func313.trans (congrArg some (by kernel_rfl))
 F:=Tryz.func315.trans (congrArg some (by kernel_rfl))
 G:=Tryz.func316.trans (congrArg some (by kernel_rfl))
 I:=Tryz.func318.trans (congrArg some (by kernel_rfl))
 K:=Tryz.func319.trans (congrArg some (by kernel_rfl))
 t0:=Tryz.underlying0
 a0:=Tryz.isAgg0
 z0:=Tryz.sizeOf0
 v0:=Tryz.zeroValue0
 t2:=Tryz.underlying2
 a2:=Tryz.isAgg2
 z2:=Tryz.sizeOf2
 v2:=Tryz.zeroValue2
 t3:=Tryz.underlying3
 a3:=Tryz.isAgg3
 z3:=Tryz.sizeOf3
 v3:=Tryz.zeroValue3
 t4:=Tryz.underlying4
 a4:=Tryz.isAgg4
 z4:=Tryz.sizeOf4
 v4:=Tryz.zeroValue4
 t5:=Tryz.underlying5
 a5:=Tryz.isAgg5
 z5:=Tryz.sizeOf5
 v5:=Tryz.zeroValue5
 t9:=Tryz.underlying9
 a9:=Tryz.isAgg9
 z9:=Tryz.sizeOf9
 v9:=Tryz.zeroValue9
 t20:=Tryz.underlying20
 a20:=Tryz.isAgg20
 z20:=Tryz.sizeOf20
 v20:=Tryz.zeroValue20
 t21:=Tryz.underlying21
 a21:=Tryz.isAgg21
 z21:=Tryz.sizeOf21
 v21:=Tryz.zeroValue21
 t37:=Tryz.underlying56
 a37:=Tryz.isAgg56
 z37:=Tryz.sizeOf56
 v37:=Tryz.zeroValue56
 t46:=Tryz.underlying204
 a46:=Tryz.isAgg204
 z46:=Tryz.sizeOf204
 v46:=Tryz.zeroValue204
 t51:=Tryz.underlying97
 a51:=Tryz.isAgg97
 z51:=Tryz.sizeOf97
 v51:=Tryz.zeroValue97
 t53:=Tryz.underlying114
 a53:=Tryz.isAgg114
 z53:=Tryz.sizeOf114
 v53:=Tryz.zeroValue114
 t75:=Tryz.underlying175
 a75:=Tryz.isAgg175
 z75:=Tryz.sizeOf175
 v75:=Tryz.zeroValue175
 t76:=Tryz.underlying176
 a76:=Tryz.isAgg176
 z76:=Tryz.sizeOf176
 v76:=Tryz.zeroValue176
 t85:=Tryz.underlying309
 a85:=Tryz.isAgg309
 z85:=Tryz.sizeOf309
 v85:=Tryz.zeroValue309
 t127:=Tryz.underlying246
 a127:=Tryz.isAgg246
 z127:=Tryz.sizeOf246
 v127:=Tryz.zeroValue246
 t143:=Tryz.underlying338
 a143:=Tryz.isAgg338
 z143:=Tryz.sizeOf338
 v143:=Tryz.zeroValue338
 t145:=Tryz.underlying340
 a145:=Tryz.isAgg340
 z145:=Tryz.sizeOf340
 v145:=Tryz.zeroValue340
 t167:=Tryz.underlying308
 a167:=Tryz.isAgg308
 z167:=Tryz.sizeOf308
 v167:=Tryz.zeroValue308
 t168:=Tryz.underlying311
 a168:=Tryz.isAgg311
 z168:=Tryz.sizeOf311
 v168:=Tryz.zeroValue311
 t171:=Tryz.underlying315
 a171:=Tryz.isAgg315
 z171:=Tryz.sizeOf315
 v171:=Tryz.zeroValue315
 t173:=Tryz.underlying318
 a173:=Tryz.isAgg318
 z173:=Tryz.sizeOf318
 v173:=Tryz.zeroValue318
 t175:=Tryz.underlying322
 a175:=Tryz.isAgg322
 z175:=Tryz.sizeOf322
 v175:=Tryz.zeroValue322
 t210:=Tryz.underlying326
 a210:=Tryz.isAgg326
 z210:=Tryz.sizeOf326
 v210:=Tryz.zeroValue326
 t212:=Tryz.underlying333
 a212:=Tryz.isAgg333
 z212:=Tryz.sizeOf333
 v212:=Tryz.zeroValue333
 t213:=Tryz.underlying334
 a213:=Tryz.isAgg334
 z213:=Tryz.sizeOf334
 t232:=Tryz.underlying345
 a232:=Tryz.isAgg345
 z232:=Tryz.sizeOf345
 v232:=Tryz.zeroValue345
 t233:=Tryz.underlying346
 a233:=Tryz.isAgg346
 z233:=Tryz.sizeOf346
 v233:=Tryz.zeroValue346
 g15:=by kernel_rfl
 g16:=by kernel_rfl
 g17:=by kernel_rfl
 g18:=by kernel_rfl
 g19:=by kernel_rfl
 t80:=Tryz.underlying181
 a80:=Tryz.isAgg181
 z80:=Tryz.sizeOf181
 v80:=Tryz.zeroValue181
 i0:=by kernel_rfl
 i2:=by kernel_rfl
 i3:=by kernel_rfl
 i4:=by kernel_rfl
 i5:=by kernel_rfl
 i9:=by kernel_rfl
 i20:=by kernel_rfl
 i21:=by kernel_rfl
 i37:=by kernel_rfl
 i46:=by kernel_rfl
 i51:=by kernel_rfl
 i53:=by kernel_rfl
 i75:=by kernel_rfl
 i76:=by kernel_rfl
 i80:=by kernel_rfl
 i85:=by kernel_rfl
 i127:=by kernel_rfl
 i143:=by kernel_rfl
 i145:=by kernel_rfl
 i167:=by kernel_rfl
 i168:=by kernel_rfl
 i171:=by kernel_rfl
 i173:=by kernel_rfl
 i175:=by kernel_rfl
 i210:=by kernel_rfl
 i212:=by kernel_rfl
 i232:=by kernel_rfl
 i233:=by kernel_rfl
 m15:=by kernel_rfl
 m16:=by kernel_rfl
 m17:=by kernel_rfl
 m18:=by kernel_rfl
 m19:=by kernel_rfl
 c0:=by kernel_rfl
 c2:=by kernel_rfl
 c3:=by kernel_rfl
 c4:=by kernel_rfl
 c5:=by kernel_rfl
 c9:=by kernel_rfl
 c20:=by kernel_rfl
 c21:=by kernel_rfl
 c37:=by kernel_rfl
 c46:=by kernel_rfl
 c51:=by kernel_rfl
 c53:=by kernel_rfl
 c75:=by kernel_rfl
 c76:=by kernel_rfl
 c80:=by kernel_rfl
 c85:=by kernel_rfl
 L:=by kernel_rfl
 M:=by kernel_rfl
 O:=by kernel_rfl
 S:=by kernel_rfl
 T:=by kernel_rfl
 U:=by kernel_rfl
 V:=by kernel_rfl
 X:=by kernel_rfl
 Y:=by kernel_rfl
 c212:=by kernel_rfl
 c213:=by kernel_rfl
 c232:=by kernel_rfl
 c233:=by kernel_rfl }
def Tryz.lays145_ren:Go.Shelf.Ren:=⟨fun | 145=>105 | 220=>179 | 219=>252 | 217=>286 | 225=>287 | 224=>288 | 267=>289 | 266=>304 | 314=>305 | n=>n,fun | 9=>9 | 4=>4 | 59=>106 | 3=>3 | 5=>5 | 46=>204 | 146=>296 | 51=>97 | n=>n,fun | 1=>0 | n=>n⟩
theorem Tryz.lays145:Go.Proofs.Lays.n145 Tryz.prog Tryz.lays145_ren:={
 mixed:=by kernel_rfl
 b:=Tryz.func105.trans (congrArg some (by kernel_rfl))
 c:=Tryz.func286.trans (congrArg some (by kernel_rfl))
 d:=Tryz.func252.trans (congrArg some (by kernel_rfl))
 e:=Tryz.func179.trans (congrArg some (by kernel_rfl))
 f:=Tryz.func288.trans (congrArg some (by kernel_rfl))
 i:=Tryz.func287.trans (congrArg some (by kernel_rfl))
 j:=Tryz.func304.trans (congrArg some (by kernel_rfl))
 k:=Tryz.func289.trans (congrArg some (by kernel_rfl))
 l:=Tryz.func305.trans (congrArg some (by kernel_rfl))
 t3:=Tryz.underlying3
 a3:=Tryz.isAgg3
 z3:=Tryz.sizeOf3
 v3:=Tryz.zeroValue3
 t4:=Tryz.underlying4
 a4:=Tryz.isAgg4
 z4:=Tryz.sizeOf4
 v4:=Tryz.zeroValue4
 t5:=Tryz.underlying5
 a5:=Tryz.isAgg5
 z5:=Tryz.sizeOf5
 v5:=Tryz.zeroValue5
 t9:=Tryz.underlying9
 a9:=Tryz.isAgg9
 z9:=Tryz.sizeOf9
 v9:=Tryz.zeroValue9
 t46:=Tryz.underlying204
 a46:=Tryz.isAgg204
 z46:=Tryz.sizeOf204
 v46:=Tryz.zeroValue204
 t51:=Tryz.underlying97
 a51:=Tryz.isAgg97
 z51:=Tryz.sizeOf97
 v51:=Tryz.zeroValue97
 t59:=Tryz.underlying106
 a59:=Tryz.isAgg106
 z59:=Tryz.sizeOf106
 v59:=Tryz.zeroValue106
 t146:=Tryz.underlying296
 a146:=Tryz.isAgg296
 z146:=Tryz.sizeOf296
 v146:=Tryz.zeroValue296
 m:=by kernel_rfl }
def Tryz.lays105_ren:Go.Shelf.Ren:=⟨fun | 105=>124 | 212=>202 | 99=>203 | 165=>204 | 166=>113 | 170=>205 | 169=>116 | 263=>268 | 264=>269 | 206=>270 | 240=>191 | 241=>271 | 276=>256 | 277=>297 | n=>n,fun | 9=>9 | 3=>3 | 4=>4 | 20=>20 | 0=>0 | 46=>204 | 109=>254 | 5=>5 | 72=>168 | 76=>176 | 51=>97 | 146=>296 | 53=>114 | 148=>298 | 70=>166 | 37=>56 | 75=>175 | 127=>246 | 164=>289 | 80=>181 | n=>n,fun | n=>n⟩
theorem Tryz.lays105:Go.Proofs.Lays.n105 Tryz.prog Tryz.lays105_ren:={
 mixed:=by kernel_rfl
 t:=Tryz.func203.trans (congrArg some (by kernel_rfl))
 b:=Tryz.func124.trans (congrArg some (by kernel_rfl))
 c:=Tryz.func204.trans (congrArg some (by kernel_rfl))
 d:=Tryz.func113.trans (congrArg some (by kernel_rfl))
 e:=Tryz.func116.trans (congrArg some (by kernel_rfl))
 f:=Tryz.func205.trans (congrArg some (by kernel_rfl))
 i:=Tryz.func270.trans (congrArg some (by kernel_rfl))
 j:=Tryz.func202.trans (congrArg some (by kernel_rfl))
 k:=Tryz.func191.trans (congrArg some (by kernel_rfl))
 l:=Tryz.func271.trans (congrArg some (by kernel_rfl))
 m:=Tryz.func268.trans (congrArg some (by kernel_rfl))
 n:=Tryz.func269.trans (congrArg some (by kernel_rfl))
 q:=Tryz.func256.trans (congrArg some (by kernel_rfl))
 s:=Tryz.func297.trans (congrArg some (by kernel_rfl))
 t0:=Tryz.underlying0
 a0:=Tryz.isAgg0
 z0:=Tryz.sizeOf0
 v0:=Tryz.zeroValue0
 t3:=Tryz.underlying3
 a3:=Tryz.isAgg3
 z3:=Tryz.sizeOf3
 v3:=Tryz.zeroValue3
 t4:=Tryz.underlying4
 a4:=Tryz.isAgg4
 z4:=Tryz.sizeOf4
 v4:=Tryz.zeroValue4
 t5:=Tryz.underlying5
 a5:=Tryz.isAgg5
 z5:=Tryz.sizeOf5
 v5:=Tryz.zeroValue5
 t9:=Tryz.underlying9
 a9:=Tryz.isAgg9
 z9:=Tryz.sizeOf9
 v9:=Tryz.zeroValue9
 t20:=Tryz.underlying20
 a20:=Tryz.isAgg20
 z20:=Tryz.sizeOf20
 v20:=Tryz.zeroValue20
 t37:=Tryz.underlying56
 a37:=Tryz.isAgg56
 z37:=Tryz.sizeOf56
 v37:=Tryz.zeroValue56
 t46:=Tryz.underlying204
 a46:=Tryz.isAgg204
 z46:=Tryz.sizeOf204
 v46:=Tryz.zeroValue204
 t51:=Tryz.underlying97
 a51:=Tryz.isAgg97
 z51:=Tryz.sizeOf97
 v51:=Tryz.zeroValue97
 t53:=Tryz.underlying114
 a53:=Tryz.isAgg114
 z53:=Tryz.sizeOf114
 v53:=Tryz.zeroValue114
 t70:=Tryz.underlying166
 a70:=Tryz.isAgg166
 z70:=Tryz.sizeOf166
 v70:=Tryz.zeroValue166
 t72:=Tryz.underlying168
 a72:=Tryz.isAgg168
 z72:=Tryz.sizeOf168
 v72:=Tryz.zeroValue168
 t75:=Tryz.underlying175
 a75:=Tryz.isAgg175
 z75:=Tryz.sizeOf175
 v75:=Tryz.zeroValue175
 t76:=Tryz.underlying176
 a76:=Tryz.isAgg176
 z76:=Tryz.sizeOf176
 v76:=Tryz.zeroValue176
 t109:=Tryz.underlying254
 a109:=Tryz.isAgg254
 z109:=Tryz.sizeOf254
 v109:=Tryz.zeroValue254
 t127:=Tryz.underlying246
 a127:=Tryz.isAgg246
 z127:=Tryz.sizeOf246
 v127:=Tryz.zeroValue246
 t146:=Tryz.underlying296
 a146:=Tryz.isAgg296
 z146:=Tryz.sizeOf296
 v146:=Tryz.zeroValue296
 t148:=Tryz.underlying298
 a148:=Tryz.isAgg298
 z148:=Tryz.sizeOf298
 v148:=Tryz.zeroValue298
 t164:=Tryz.underlying289
 a164:=Tryz.isAgg289
 z164:=Tryz.sizeOf289
 v164:=Tryz.zeroValue289 }
theorem Tryz.Builder_Extra_105:Builder.Extra Tryz.prog Tryz.lays105_ren:={
 sizeBuilder:=by kernel_rfl
 liesBuilder:=by kernel_rfl
 t5:=Tryz.underlying5
 a5:=Tryz.isAgg5
 z5:=Tryz.sizeOf5
 v5:=Tryz.zeroValue5
 infoByte:=by kernel_rfl
 cellsByte:=by kernel_rfl
 sizeByte:=by kernel_rfl
 neB5:=by decide }
end Go.Proofs

namespace Gx
open Go Go.Proofs Go.RowKit
noncomputable section
variable {R:Type} (N:Nat)
def Lo (_N:Nat) (s t:List UInt8) (r0:List UInt8→List UInt8→Bool→O R):O R:=cond (Nat.ble s.length 4294967280) (r0 (Lib.cut s t).1 (Lib.cut s t).2.1 (Lib.cut s t).2.2) none
def strings_Cut:=(Aj (@Lo R)).1
theorem Ka:@strings_Cut R=@Lo R:=(Aj _).2
def Kb (a:LA) (h:Ah) (k:KF R):O R :=
 match a,h with
 | [.str s,.str t],[]=>strings_Cut N s t fun x y b=>k (.tup [.str x,.str y,.bool b]) []
 | _,_=>none
def DJ:Tw:=⟨fun {R} a h k=>@Kb R N a h k,fun {R} a h k=>by
 unfold Kb
 split
 ·rw[Ka,Ka];unfold Lo;cases Nat.ble _ 4294967280<;>rfl
 ·rfl⟩
def G5 (_N:Nat) (s:List UInt8) (c:Int) (r0:List UInt8→O R):O R:=cond (decide (0≤c)&&(decide (c≤9223372036854775807)&&decide (((s.length:Nat):Int)*c≤140737488355328))) (r0 (Lib.repeatL s c.toNat)) none
def strings_Repeat:=(Aj (@G5 R)).1
theorem Gi:@strings_Repeat R=@G5 R:=(Aj _).2
def Gj (a:LA) (h:Ah) (k:KF R):O R :=
 match a,h with
 | [.str s,.int .i64 c],[]=>strings_Repeat N s c fun x=>k (.str x) []
 | _,_=>none
def Ho:Tw:=⟨fun {R} a h k=>@Gj R N a h k,fun {R} a h k=>by
 unfold Gj
 split
 ·rename_i s c
  rw[Gi,Gi];unfold G5;cases (decide (0≤c)&&(decide (c≤9223372036854775807)&&decide (((s.length:Nat):Int)*c≤140737488355328)))<;>rfl
 ·rfl⟩
def Jq (_N:Nat) (n:Int) (r0:List UInt8→O R):O R:=cond (decide (-9223372036854775808≤n)&&decide (n≤9223372036854775807)) (r0 (Lib.itoa n)) none
def strconv_Itoa:=(Aj (@Jq R)).1
theorem Ix:@strconv_Itoa R=@Jq R:=(Aj _).2
def Iy (a:LA) (h:Ah) (k:KF R):O R :=
 match a,h with
 | [.int .i64 n],[]=>strconv_Itoa N n fun x=>k (.str x) []
 | _,_=>none
def AJ:Tw:=⟨fun {R} a h k=>@Iy R N a h k,fun {R} a h k=>by
 unfold Iy
 split
 ·rename_i n
  rw[Ix,Ix];unfold Jq;cases (decide (-9223372036854775808≤n)&&decide (n≤9223372036854775807))<;>rfl
 ·rfl⟩
def Jr (_N:Nat) (s:List UInt8) (r0:Int→O R):O R:=cond (Nat.ble s.length 9223372036854775806) (match Lib.atoiAll s with | .ok v=>r0 v | _=>none) none
def P6:=(Aj (@Jr R)).1
theorem Iz:@P6 R=@Jr R:=(Aj _).2
def I0 (a:LA) (h:Ah) (k:KF R):O R :=
 match a,h with
 | [.str s],[]=>P6 N s fun x=>k (.tup [.int .i64 x,.undef]) []
 | _,_=>none
def AK:Tw:=⟨fun {R} a h k=>@I0 R N a h k,fun {R} a h k=>by
 unfold I0
 split
 ·rw[Iz,Iz];unfold Jr;cases Nat.ble _ 9223372036854775806
  ·rfl
  ·cases Lib.atoiAll _<;>rfl
 ·rfl⟩
end
theorem oT (w:World) (n:Nat):Below w.heap.size w (w.drewN n):=⟨rfl,rfl,rfl,Nat.le_refl _,fun _ _=>rfl⟩
theorem dz (N:Nat):oC Tryz.prog 105 (DJ N):=by
 intro b h d h' f
 have c:Kb N b h (fun v h'=>some (v,h'))=some (d,h'):=f
 unfold Kb at c
 split at c
 ·rename_i s t
  rw[Ka,Lo] at c
  obtain⟨l,i⟩:=uc c
  simp at l i
  obtain⟨rfl,rfl⟩:=i
  refine HA fun J β w vs G q=>?_
  obtain⟨u,v,rfl,j,k⟩:=oM q
  simp only[Rep] at j k;subst j k
  obtain⟨m,x⟩:=G.int (g:=0) (by decide)
  refine(Any.strings_Cut Tryz.lays145 ⟨⟨s⟩⟩ ⟨⟨t⟩⟩ m w (show s.length<4294967281 by omega) x).mono ?_
  rintro e w' ⟨rfl,n,rfl⟩
  refine⟨_,rfl,oT w n,fun J β w=>?_⟩
  rw[Rep]
  exact⟨_,rfl,by simp[Reps,Rep]⟩
 ·cases c
theorem Lp (N:Nat):oC Tryz.prog 124 (Ho N):=by
 intro b h f h' i
 have d:Gj N b h (fun v h'=>some (v,h'))=some (f,h'):=i
 unfold Gj at d
 split at d
 ·rename_i s c
  rw[Gi,G5] at d
  obtain⟨j,l⟩:=uc d
  simp only[Bool.and_eq_true,decide_eq_true_eq] at j
  simp at l
  obtain⟨rfl,rfl⟩:=l
  refine HA fun J β w vs G t=>?_
  obtain⟨u,v,rfl,m,q⟩:=oM t
  simp only[Rep] at m q;subst m q
  obtain⟨n,rfl⟩:∃ n:Nat,c=n:=⟨c.toNat,by omega⟩
  by_cases x:s.length=0
  ·have y:s=[]:=List.eq_nil_of_length_eq_zero x
   subst y
   have z:n≤9223372036854775807:=by have:=j.2.1;omega
   ·refine(Any.strings_Repeat Tryz.lays105 Tryz.Builder_Extra_105 ⟨⟨[]⟩⟩ n w z (by show 0*n≤_;omega)).mono ?_
    rintro e w' ⟨rfl,k⟩
    exact⟨_,rfl,k,fun J β w=>by rw[Rep];rfl⟩
  ·have A:s.length*n≤140737488355328:=by have:=j.2.2;rw[←Int.natCast_mul] at this;omega
   have B:n≤s.length*n:=Nat.le_mul_of_pos_left n (by omega)
   refine(Any.strings_Repeat Tryz.lays105 Tryz.Builder_Extra_105 ⟨⟨s⟩⟩ n w (by omega) A).mono ?_
   rintro e w' ⟨rfl,k⟩
   exact⟨_,rfl,k,fun J β w=>by rw[Rep];rfl⟩
 ·cases d
theorem cI (N:Nat):oC Tryz.prog 114 (AJ N):=by
 intro b h d h' f
 have c:Iy N b h (fun v h'=>some (v,h'))=some (d,h'):=f
 unfold Iy at c
 split at c
 ·rename_i n
  rw[Ix,Jq] at c
  obtain⟨j,l⟩:=uc c
  simp only[Bool.and_eq_true,decide_eq_true_eq] at j
  simp at l
  obtain⟨rfl,rfl⟩:=l
  refine HA fun J β w vs G q=>?_
  obtain⟨u,rfl,m⟩:=dq q
  rw[Rep] at m;subst m
  refine(Any.strconv_Itoa Tryz.laysM171 n j.1 j.2 w (G.tab (g:=3) (by simp[sd,Lib.pow10Tab]) (by kernel_rfl))).mono ?_
  rintro e w' ⟨rfl,k,os,rfl⟩
  refine⟨_,rfl,⟨rfl,rfl,rfl,by simp[Go.Sort.grow],fun i s=>?_⟩,fun J β w=>by rw[Rep]⟩
  show(w.heap++os)[i]?=_
  rw[Array.getElem?_append_left s]
 ·cases c
theorem strconv_Atoi_ok (N:Nat):oC Tryz.prog 147 (AK N):=by
 intro b h f h' i
 have c:I0 N b h (fun v h'=>some (v,h'))=some (f,h'):=i
 unfold I0 at c
 split at c
 ·rename_i s
  rw[Iz,Jr] at c
  obtain⟨j,d⟩:=uc c
  simp at j
  split at d
  ·rename_i v l
   simp at d
   obtain⟨rfl,rfl⟩:=d
   refine HA fun J β w vs G m=>?_
   obtain⟨u,rfl,k⟩:=dq m
   rw[Rep] at k;subst k
   refine(Any.strconv_Atoi_ok Tryz.laysC172 ⟨⟨s⟩⟩ j v l w).mono ?_
   rintro e w' ⟨rfl,n⟩
   refine⟨_,rfl,?_,fun J β w=>by rw[Rep];exact⟨_,rfl,by rw[Reps];exact⟨_,_,rfl,by rw[Rep],by rw[Reps];exact⟨_,_,rfl,by rw[Rep];trivial,by rw[Reps]⟩⟩⟩⟩
   rcases n with rfl | ⟨t,rfl⟩
   ·exact Below.refl _ _
   ·exact Lib.bytesWorld_below _ _ _
  ·cases d
 ·cases c
end Gx

namespace Gx
open Go Go.Proofs
open IntKind (wrap)
set_option maxRecDepth 100000
noncomputable section
variable {R:Type} (N:Nat)
def Y3 (N:Nat) (r0:Nat→O R) (b:Nat) (c:LA) (k0:Int→O R) (d:Int):O R :=
 (cond ((decide (d>0))==true) (cond (Ao (wrap .i64 (d - 1)) b) (F3 .u32 (c.drop (0+(((wrap .i64 (d - 1)).toNat)*1))) fun e=>(cond (cond true (e==0) false) (k0 (wrap .i64 (d - 1))) (cond ((decide ((0:Int)≤(0:Int)))&&((decide (0≤d))&&((decide (d≤((b:Nat):Int)))&&(decide (((b:Nat):Int)≤((b:Nat):Int)))))) (r0 (d.toNat)) none))) none) (cond ((decide ((0:Int)≤(0:Int)))&&((decide (0≤d))&&((decide (d≤((b:Nat):Int)))&&(decide (((b:Nat):Int)≤((b:Nat):Int)))))) (r0 (d.toNat)) none))
def Nk (r0:Nat→O R) (b:Nat) (c:LA):Nat→Int→O R
 | 0,_=>none
 | n+1,d=>(Y3 N r0 b c (Nk r0 b c n) d)
def PT (N:Nat) (r0:Nat→O R) (q0:Int→O R) (b:Nat) (c:LA):O R :=
 (q0 ((b:Nat):Int))
def Nl:=(Aj (fun (N b:Nat) (c:LA) (r0:Nat→O R)=>(PT N r0 (fun d=>(Nk N r0 b c N d)) b c))).1
theorem MY (b c r0):(@Nl R N b c r0)=(PT N r0 (fun d=>(Nk N r0 b c N d)) b c):=by rw[Nl,(Aj _).2]
def tz (F:KF R):=Ty Tryz.f214 YQ [] [100000] N F
def Qw (c:LA) (F:KF R):Nat→O R:=(fun f=>F (.own 100000 0 f) [(100000,(bQ 1 c))])
def uA (b:Nat) (c:LA) (d:Int):St:=⟨[(0,(.own 100000 0 b)),(3,(iv d))],[(100000,(bQ 1 c))]⟩
def uB (F:KF R):=tz N F [1,1,0,0] []
theorem PU (F:KF R) (b:Nat) (c:LA):∀ (n:Nat) (d:Int),A5 (uB N F) n (uA b c d)=(Nk N (Qw c F) b c n d)
 | 0,_=>by kernel_rfl
 | n+1,d=>Eq.trans (by kernel_rfl) (E9 (Y3 N (Qw c F) b c · d) (funext fun d=>(PU F b c n d)):_)
theorem HE (b:Nat) (c:LA) (F:KF R):Cy [] YQ N 214 [(.own 100000 0 b)] [(100000,(bQ 1 c))] F=(Nl N b c (Qw c F)):=by
 rw[MY]
 exact Eq.trans (by kernel_rfl) (E9 (PT N (Qw c F) · b c) (funext fun d=>(Aw ..).trans (PU N F b c N d)):_)
def eA (a:LA) (h:Ah) (k:KF R):O R :=
 match a,h with
 | [(.own 100000 0 b)],[(100000,⟨false,false,true,false,1,c,false,none⟩)]=>(Nl N b c (Qw c k))
 | _,_=>none
theorem jo:Ap N 214 @eA:=by
 intro R Q a h k j;unfold eA;split;exact Ax (HE ..) (HE ..) trivial;exact A2
def VT:=Ay (jo N)
def VU:=Cz (jo N)
def Rr (b:Int) (r0:Nat→LA→O R):O R :=
 (Nl N 2 [(.int .u32 (wrap .u32 b)),(.int .u32 (wrap .u32 (Int.fdiv b (2 ^ 32))))] (fun c=>(r0 c [(.int .u32 (wrap .u32 b)),(.int .u32 (wrap .u32 (Int.fdiv b (2 ^ 32))))])))
def Ba:=(Aj (@Rr R)).1
theorem T2:@Ba R=@Rr R:=(Aj _).2
def cJ:D7:=[(214,VT N)]
def Wx (F:KF R):Nat→LA→O R:=(fun d e=>F (.own 300000 0 d) (hq [(bQ 1 e)]))
theorem Wy (b:Int) (F:KF R):Cy (cJ N) wN N 133 [(.int .u64 b)] [] F=(Ba N b (Wx F)):=by
 rw[T2]
 kernel_rfl
def T3 (a:LA) (h:Ah) (k:KF R):O R :=
 match a,h with
 | [(.int .u64 b)],[]=>(Ba N b (Wx k))
 | _,_=>none
theorem Wz:Ap N 133 @T3:=by
 intro R Q a h k j;unfold T3;split;exact Ax (Wy ..) (Wy ..) ⟨VU N,trivial⟩;exact A2
def D5:=Ay (Wz N)
def D6:=Cz (Wz N)
def MZ (N:Nat) (d:Bool) (b:Nat) (c:LA) (r0:Bool→O R):O R :=
 (cond (d==true) (r0 (cond true (decide (((b:Nat):Int)>0)) false)) (r0 false))
def Cg:=(Aj (@MZ R)).1
theorem IK:@Cg R=@MZ R:=(Aj _).2
def PV (b:Nat) (c:LA) (F:KF R):Bool→O R:=(fun e=>F (.agg [(.bool e),(.own 100000 0 b)]) [(100000,(bQ 1 c))])
theorem PW (d:Bool) (b:Nat) (c:LA) (F:KF R):Cy [] Cl N 132 [(.bool d),(.own 100000 0 b)] [(100000,(bQ 1 c))] F=(Cg N d b c (PV b c F)):=by
 rw[IK]
 kernel_rfl
def IL (a:LA) (h:Ah) (k:KF R):O R :=
 match a,h with
 | [(.bool d),(.own 100000 0 b)],[(100000,⟨false,false,true,false,1,c,false,none⟩)]=>(Cg N d b c (PV b c k))
 | _,_=>none
theorem PX:Ap N 132 @IL:=by
 intro R Q a h k j;unfold IL;split;exact Ax (PW ..) (PW ..) trivial;exact A2
def Gk:=Ay (PX N)
def Gl:=Cz (PX N)
def DK (b:Int) (r0:Bool→Nat→LA→O R):O R :=
 (cond (decide (b<0)) (Ba N (wrap .u64 ((0:Int) - (wrap .u64 b))) (fun c d=>(Cg N true c d (fun g=>(r0 g c d))))) (Ba N (wrap .u64 b) (fun e f=>(Cg N false e f (fun i=>(r0 i e f))))))
def Bf:=(Aj (@DK R)).1
theorem DL:@Bf R=@DK R:=(Aj _).2
def mF:D7:=[(133,D5 N),(132,Gk N)]
def IM (F:KF R):Bool→Nat→LA→O R:=(fun l m n=>F (.agg [(.bool l),(.own 300000 0 m)]) (hq [(bQ 1 n)]))
theorem IN (b:Int) (F:KF R):Cy (mF N) Cl N 64 [(iv b)] [] F=(Bf N b (IM F)):=by
 rw[DL]
 kernel_rfl
def DM (a:LA) (h:Ah) (k:KF R):O R :=
 match a,h with
 | [(.int .i64 b)],[]=>(Bf N b (IM k))
 | _,_=>none
theorem IP:Ap N 64 @DM:=by
 intro R Q a h k j;unfold DM;split;exact Ax (IN ..) (IN ..) ⟨D6 N,Gl N,trivial⟩;exact A2
def Fb:=Ay (IP N)
def Fc:=Cz (IP N)
def N6 (N:Nat) (r0:LA→Nat→O R) (e:LA) (b:Nat) (f c:Bool) (k0:Int→O R) (d:Int):O R :=
 (cond ((decide (d>0))==true) (cond (Ao (wrap .i64 (d - 1)) b) (F3 .u32 (e.drop (((wrap .i64 (d - 1)).toNat)*1)) fun g=>(cond (cond true (g==0) false) (k0 (wrap .i64 (d - 1))) (cond ((decide ((0:Int)≤(0:Int)))&&((decide (0≤d))&&((decide (d≤((b:Nat):Int)))&&(decide (((b:Nat):Int)≤((b:Nat):Int)))))) (r0 (e.take ((d.toNat)*1)) (d.toNat)) none))) none) (cond ((decide ((0:Int)≤(0:Int)))&&((decide (0≤d))&&((decide (d≤((b:Nat):Int)))&&(decide (((b:Nat):Int)≤((b:Nat):Int)))))) (r0 (e.take ((d.toNat)*1)) (d.toNat)) none))
def Gm (r0:LA→Nat→O R) (e:LA) (b:Nat) (f c:Bool):Nat→Int→O R
 | 0,_=>none
 | n+1,d=>(N6 N r0 e b f c (Gm r0 e b f c n) d)
def Y4 (N:Nat) (r0:LA→Nat→O R) (q0:Int→O R) (e:LA) (b:Nat) (f c:Bool):O R :=
 (q0 ((b:Nat):Int))
def Bk:=(Aj (fun (N:Nat) (e:LA) (b:Nat) (f c:Bool) (r0:LA→Nat→O R)=>(Y4 N r0 (fun d=>(Gm N r0 e b f c N d)) e b f c))).1
theorem IQ (e b f c r0):(@Bk R N e b f c r0)=(Y4 N r0 (fun d=>(Gm N r0 e b f c N d)) e b f c):=by rw[Bk,(Aj _).2]
def mG (F:KF R):=Ty Tryz.f214 YQ [] [] N F
def Gn (c:Bool) (F:KF R):LA→Nat→O R:=(fun i l=>F (.imm i l 1 false c) [])
def mH (e:LA) (b:Nat) (f c:Bool) (d:Int):St:=⟨[(0,(.imm e b 1 f c)),(3,(iv d))],[]⟩
def mI (F:KF R):=mG N F [1,1,0,0] []
theorem AL (F:KF R) (e:LA) (b:Nat) (f c:Bool):∀ (n:Nat) (d:Int),A5 (mI N F) n (mH e b f c d)=(Gm N (Gn c F) e b f c n d)
 | 0,_=>by kernel_rfl
 | n+1,d=>Eq.trans (by kernel_rfl) (E9 (N6 N (Gn c F) e b f c · d) (funext fun d=>(AL F e b f c n d)):_)
theorem I3 (e:LA) (b:Nat) (f c:Bool) (F:KF R):Cy [] YQ N 214 [(.imm e b 1 f c)] [] F=(Bk N e b f c (Gn c F)):=by
 rw[IQ]
 exact Eq.trans (by kernel_rfl) (E9 (Y4 N (Gn c F) · e b f c) (funext fun d=>(Aw ..).trans (AL N F e b f c N d)):_)
def IR (a:LA) (h:Ah) (k:KF R):O R :=
 match a,h with
 | [(.imm e b 1 f c)],[]=>(Bk N e b f c (Gn c k))
 | _,_=>none
theorem PY:Ap N 214 @IR:=by
 intro R Q a h k j;unfold IR;split;exact Ax (I3 ..) (I3 ..) trivial;exact A2
def Lq:=Ay (PY N)
def Lr:=Cz (PY N)
def Y5 (N:Nat) (k1:Nat→Int→Int→LA→O R) (r0:Nat→LA→O R) (f:LA) (b:Nat) (e:Bool) (l:Nat) (g r:Int) (i:LA) (d:Nat) (c:Bool) (m:Int) (k2:Int→Int→Int→LA→O R) (s t o:Int) (q:LA):O R :=
 (cond (decide (o<t)) (cond (Ao o b) (F3 .u32 (f.drop ((o.toNat)*1)) fun aa=>(cond (Ao (wrap .i64 (g+o)) l) (F3 .u32 (q.drop (0+(((wrap .i64 (g+o)).toNat)*1))) fun ab=>(cond (Ao (wrap .i64 (g+o)) l) (cond ((Nat.beq 1 1)&&((Nat.ble ((0+(((wrap .i64 (g+o)).toNat)*1))+1) (q.length))&&(!false))) (k2 (Int.fdiv (wrap .u64 (s+(wrap .u64 ((wrap .u64 ((wrap .u64 r)*(wrap .u64 aa)))+(wrap .u64 ab))))) (2 ^ 32)) t (wrap .i64 (o+1)) (q.set (0+(((wrap .i64 (g+o)).toNat)*1)) (.int .u32 (wrap .u32 (wrap .u64 (s+(wrap .u64 ((wrap .u64 ((wrap .u64 r)*(wrap .u64 aa)))+(wrap .u64 ab))))))))) none) none)) none)) none) (cond (Ao (wrap .i64 (g+((b:Nat):Int))) l) (cond ((Nat.beq 1 1)&&((Nat.ble ((0+(((wrap .i64 (g+((b:Nat):Int))).toNat)*1))+1) (q.length))&&(!false))) (k1 l m (wrap .i64 (g+1)) (q.set (0+(((wrap .i64 (g+((b:Nat):Int))).toNat)*1)) (.int .u32 (wrap .u32 s)))) none) none))
def Nm (k1:Nat→Int→Int→LA→O R) (r0:Nat→LA→O R) (f:LA) (b:Nat) (e:Bool) (l:Nat) (g r:Int) (i:LA) (d:Nat) (c:Bool) (m:Int):Nat→Int→Int→Int→LA→O R
 | 0,_,_,_,_=>none
 | n+1,s,t,o,q=>(Y5 N k1 r0 f b e l g r i d c m (Nm k1 r0 f b e l g r i d c m n) s t o q)
def Rs (r0:Nat→LA→O R) (f:LA) (b:Nat) (e:Bool) (i:LA) (d:Nat) (c:Bool) (k1:Nat→Int→Int→LA→O R) (q2:Int→Int→Int→Int→LA→O R) (l:Nat) (m g:Int) (p:LA):O R :=
 (cond (decide (g<m)) (cond (Ao g d) (F3 .u32 (i.drop ((g.toNat)*1)) fun r=>(cond (r==0) (k1 l m (wrap .i64 (g+1)) p) (q2 r 0 ((b:Nat):Int) 0 p))) none) (Nl N l p (fun ad=>(r0 ad p))))
def I4 (r0:Nat→LA→O R) (f:LA) (b:Nat) (e:Bool) (i:LA) (d:Nat) (c:Bool):Nat→Nat→Int→Int→LA→O R
 | 0,_,_,_,_=>none
 | n+1,l,m,g,p=>(Rs N r0 f b e i d c (I4 r0 f b e i d c n) (fun r s t o q=>(Nm N (I4 r0 f b e i d c n) r0 f b e l g r i d c m N s t o q)) l m g p)
def M_ (N:Nat) (r0:Nat→LA→O R) (i:LA) (d:Nat) (c:Bool) (f:LA) (b:Nat) (e:Bool) (q1:Nat→Int→Int→LA→O R):O R :=
 (cond ((decide (0≤(wrap .i64 (((d:Nat):Int)+((b:Nat):Int)))))&&((decide ((wrap .i64 (((d:Nat):Int)+((b:Nat):Int)))≤(wrap .i64 (((d:Nat):Int)+((b:Nat):Int)))))&&((decide ((wrap .i64 (((d:Nat):Int)+((b:Nat):Int)))≤140737488355328))&&(decide (((wrap .i64 (((d:Nat):Int)+((b:Nat):Int)))*((4:Nat):Int))≤140737488355328))))) (q1 ((wrap .i64 (((d:Nat):Int)+((b:Nat):Int))).toNat) ((d:Nat):Int) 0 (List.replicate ((wrap .i64 (((d:Nat):Int)+((b:Nat):Int))).toNat) (.int .u32 0))) none)
def HF (r0:Nat→LA→O R) (i:LA) (d:Nat) (c:Bool) (f:LA) (b:Nat) (e:Bool):O R:=(M_ N r0 i d c f b e (fun l m g p=>(I4 N r0 f b e i d c N l m g p)))
def HG (r0:Nat→LA→O R) (q0:LA→Nat→LA→Nat→O R) (v:LA) (u:Nat) (w c:Bool) (x:LA) (y:Nat) (z e:Bool):O R :=
 (Bk N v u w c (fun i d=>(Bk N x y z e (fun f b=>(cond ((((d:Nat):Int)==0)==false) (cond (cond false true (((b:Nat):Int)==0)) (r0 0 []) (q0 i d f b)) (r0 0 []))))))
def Y6:=(Aj (fun (N:Nat) (v:LA) (u:Nat) (w c:Bool) (x:LA) (y:Nat) (z e:Bool) (r0:Nat→LA→O R)=>(HG N r0 (fun i d f b=>(HF N r0 i d c f b e)) v u w c x y z e))).1
theorem Y7 (v u w c x y z e r0):(@Y6 R N v u w c x y z e r0)=(HG N r0 (fun i d f b=>(HF N r0 i d c f b e)) v u w c x y z e):=by rw[Y6,(Aj _).2]
def jq:Hints:={ H:=(hS hL (hS hL (hJ [0,1] hL (hS hL (hS (hS hL (hS (hP [1,5,29,30,31] (hS hL (hS hL (hS (hS (hS hL (hS hL (hS hL (hS (hS hL (hS (hP [1,5,6,7,8,29,30,31,38,39,40] hL) hL)) hL)))) hL) hL)))) hL)) hL))))),nils:=[(4,1)],modes:=[(2,1)] }
def Js (a:LA) (h:Ah) (k:KF R):O R :=
 match a,h with
 | [(.imm v u 1 w c)],[]=>(Bk N v u w c (Gn c k))
 | [(.own 100000 0 u)],[(100000,⟨false,false,true,false,1,ac,false,none⟩)]=>(Nl N u ac (Qw ac k))
 | _,_=>none
theorem Ky:Ap N 214 @Js:=by
 intro R Q a h k j;unfold Js;split;exact Ax (I3 ..) (I3 ..) trivial;exact Ax (HE ..) (HE ..) trivial;exact A2
def Dk:=Ay (Ky N)
def Dl:=Cz (Ky N)
def oU:D7:=[(214,Dk N)]
def VV (F:KF R):=Ty Tryz.f137 jq (oU N) [] N F
def Hd (F:KF R):Nat→LA→O R:=(fun ae af=>F (.own 300000 0 ae) (hq [(bQ 1 af)]))
def uC (f:LA) (b:Nat) (e:Bool) (l:Nat) (g r:Int) (i:LA) (d:Nat) (c:Bool) (m s t o:Int) (q:LA):St:=⟨[(1,(.imm f b 1 false e)),(5,(.own 300000 0 l)),(6,(iv g)),(7,(.int .u32 r)),(8,(.int .u64 s)),(29,(.imm i d 1 false c)),(30,(iv m)),(31,(iv g)),(38,(.imm f b 1 false e)),(39,(iv t)),(40,(iv o))],(hq [(bQ 1 q)])⟩
def uD (F:KF R) (Q1:St→O R):=VV N F [1,1,1,1,0,1,0,0,1,1,0,0,1,1,1,0,1,0] [Q1]
def VW (f:LA) (b:Nat) (e:Bool) (i:LA) (d:Nat) (c:Bool) (l:Nat) (m g:Int) (p:LA):St:=⟨[(1,(.imm f b 1 false e)),(5,(.own 300000 0 l)),(29,(.imm i d 1 false c)),(30,(iv m)),(31,(iv g))],(hq [(bQ 1 p)])⟩
def jr (F:KF R):=VV N F [1,1,1,1,0,1,0] []
def uE (i:LA) (d:Nat) (c:Bool) (f:LA) (b:Nat) (e:Bool):St:=⟨[(0,(.imm i d 1 false c)),(1,(.imm f b 1 false e))],[]⟩
def uF (F:KF R):=VV N F [1,1,1] []
theorem PZ (Q1:St→O R) (F:KF R) (f:LA) (b:Nat) (e:Bool) (l:Nat) (g r:Int) (i:LA) (d:Nat) (c:Bool) (m:Int):∀ (n:Nat) (s t o:Int) (q:LA),A5 (uD N F Q1) n (uC f b e l g r i d c m s t o q)=(Nm N (fun l m g p=>Q1 (VW f b e i d c l m g p)) (Hd F) f b e l g r i d c m n s t o q)
 | 0,_,_,_,_=>by kernel_rfl
 | n+1,s,t,o,q=>Eq.trans (by kernel_rfl) (E9 (Y5 N (fun l m g p=>Q1 (VW f b e i d c l m g p)) (Hd F) f b e l g r i d c m · s t o q) (funext fun s=>funext fun t=>funext fun o=>funext fun q=>(PZ Q1 F f b e l g r i d c m n s t o q)):_)
theorem P_ (F:KF R) (f:LA) (b:Nat) (e:Bool) (i:LA) (d:Nat) (c:Bool):∀ (n l:Nat) (m g:Int) (p:LA),A5 (jr N F) n (VW f b e i d c l m g p)=(I4 N (Hd F) f b e i d c n l m g p)
 | 0,_,_,_,_=>by kernel_rfl
 | n+1,l,m,g,p=>have e0:=(funext fun l=>funext fun m=>funext fun g=>funext fun p=>(P_ F f b e i d c n l m g p))
  Eq.trans (by kernel_rfl) (ti (Rs N (Hd F) f b e i d c · · l m g p) e0 (funext fun r=>funext fun s=>funext fun t=>funext fun o=>funext fun q=>(Aw ..).trans ((PZ N (A5 (jr N F) n) F f b e l g r i d c m N s t o q).trans (E9 (Nm N · (Hd F) f b e l g r i d c m N s t o q) e0))):_)
theorem mJ (F:KF R) (i:LA) (d:Nat) (c:Bool) (f:LA) (b:Nat) (e:Bool):Dx (uF N F) (uE i d c f b e)=(HF N (Hd F) i d c f b e):=by
 exact Eq.trans (by kernel_rfl) (E9 (M_ N (Hd F) i d c f b e ·) (funext fun l=>funext fun m=>funext fun g=>funext fun p=>(Aw ..).trans (P_ N F f b e i d c N l m g p)):_)
theorem js (v:LA) (u:Nat) (w c:Bool) (x:LA) (y:Nat) (z e:Bool) (F:KF R):Cy (oU N) jq N 137 [(.imm v u 1 w c),(.imm x y 1 z e)] [] F=(Y6 N v u w c x y z e (Hd F)):=by
 rw[Y7]
 exact Eq.trans (by kernel_rfl) (E9 (HG N (Hd F) · v u w c x y z e) (funext fun i=>funext fun d=>funext fun f=>funext fun b=>(Bh ..).trans (mJ N F i d c f b e)):_)
def eB (a:LA) (h:Ah) (k:KF R):O R :=
 match a,h with
 | [(.imm v u 1 w c),(.imm x y 1 z e)],[]=>(Y6 N v u w c x y z e (Hd k))
 | _,_=>none
theorem jt:Ap N 137 @eB:=by
 intro R Q a h k j;unfold eB;split;exact Ax (js ..) (js ..) ⟨Dl N,trivial⟩;exact A2
def VX:=Ay (jt N)
def VY:=Cz (jt N)
def mK (b:LA) (d:Bool) (c:LA) (e:Bool) (r0:Bool→Nat→LA→O R):O R :=
 (Pa b fun i=>(Pa c fun l=>(Ip 1 (b.drop 1) fun m n=>(Ip 1 (c.drop 1) fun o p=>(Y6 N m n false d o p false e (fun f g=>(Cg N (!(i==l)) f g (fun q=>(r0 q f g)))))))))
def Nn:=(Aj (@mK R)).1
theorem eC:@Nn R=@mK R:=(Aj _).2
def wV:D7:=[(137,VX N),(132,Gk N)]
def ju (F:KF R):Bool→Nat→LA→O R:=(fun r s t=>F (.agg [(.bool r),(.own 300000 0 s)]) (hq [(bQ 1 t)]))
theorem jv (b:LA) (d:Bool) (c:LA) (e:Bool) (F:KF R):Cy (wV N) Cl N 68 [(.pagg b d),(.pagg c e)] [] F=(Nn N b d c e (ju F)):=by
 rw[eC]
 kernel_rfl
def eD (a:LA) (h:Ah) (k:KF R):O R :=
 match a,h with
 | [(.pagg b d),(.pagg c e)],[]=>(Nn N b d c e (ju k))
 | _,_=>none
theorem jw:Ap N 68 @eD:=by
 intro R Q a h k j;unfold eD;split;exact Ax (jv ..) (jv ..) ⟨VY N,Gl N,trivial⟩;exact A2
def W0:=Ay (jw N)
def W1:=Cz (jw N)
def eE (d:LA) (e:Nat) (f c:Bool) (r0:Nat→LA→O R):O R :=
 (Bk N d e f c (fun g b=>(cond ((decide (0≤((b:Nat):Int)))&&((decide (((b:Nat):Int)≤((b:Nat):Int)))&&((decide (((b:Nat):Int)≤140737488355328))&&(decide ((((b:Nat):Int)*((4:Nat):Int))≤140737488355328))))) (cond ((!c)||(Ck g)) (r0 b (H0 (List.replicate b (.int .u32 0)) 0 (g.take ((min b b)*1)))) none) none)))
def Ls:=(Aj (@eE R)).1
theorem YS:@Ls R=@eE R:=(Aj _).2
def uG:D7:=[(214,Lq N)]
def eF (F:KF R):Nat→LA→O R:=(fun i l=>F (.own 300000 0 i) (hq [(bQ 1 l)]))
theorem eG (d:LA) (e:Nat) (f c:Bool) (F:KF R):Cy (uG N) wN N 212 [(.imm d e 1 f c)] [] F=(Ls N d e f c (eF F)):=by
 rw[YS]
 kernel_rfl
def YT (a:LA) (h:Ah) (k:KF R):O R :=
 match a,h with
 | [(.imm d e 1 f c)],[]=>(Ls N d e f c (eF k))
 | _,_=>none
theorem eH:Ap N 212 @YT:=by
 intro R Q a h k j;unfold YT;split;exact Ax (eG ..) (eG ..) ⟨Lr N,trivial⟩;exact A2
def No:=Ay (eH N)
def Np:=Cz (eH N)
def mL (b:LA) (c:Bool) (r0:Bool→Nat→LA→O R):O R :=
 (Pa b fun f=>(Ip 1 (b.drop 1) fun g i=>(Ls N g i false c (fun d e=>(Cg N (!f) d e (fun l=>(r0 l d e)))))))
def eI:=(Aj (@mL R)).1
theorem eJ:@eI R=@mL R:=(Aj _).2
def wW:D7:=[(212,No N),(132,Gk N)]
def jx (F:KF R):Bool→Nat→LA→O R:=(fun m n o=>F (.agg [(.bool m),(.own 300000 0 n)]) (hq [(bQ 1 o)]))
theorem jy (b:LA) (c:Bool) (F:KF R):Cy (wW N) Cl N 148 [(.pagg b c)] [] F=(eI N b c (jx F)):=by
 rw[eJ]
 kernel_rfl
def eK (a:LA) (h:Ah) (k:KF R):O R :=
 match a,h with
 | [(.pagg b c)],[]=>(eI N b c (jx k))
 | _,_=>none
theorem jz:Ap N 148 @eK:=by
 intro R Q a h k j;unfold eK;split;exact Ax (jy ..) (jy ..) ⟨Np N,Gl N,trivial⟩;exact A2
def uH:=Ay (jz N)
def uI:=Cz (jz N)
def Rt (r0:Nat→LA→O R) (c:LA) (b:Nat) (e:Bool) (f:LA) (d:Nat) (i:Bool) (k1:Nat→Int→Int→Int→LA→O R) (m:Nat) (o p g:Int) (l:LA):O R :=
 (cond (decide (g<p)) (cond (Ao g b) (F3 .u32 (c.drop ((g.toNat)*1)) fun y=>(cond (decide (g<((d:Nat):Int))) (cond (Ao g d) (F3 .u32 (f.drop ((g.toNat)*1)) fun ab=>(cond (Ao g m) (cond ((Nat.beq 1 1)&&((Nat.ble ((0+((g.toNat)*1))+1) (l.length))&&(!false))) (k1 m (Int.fdiv (wrap .u64 ((wrap .u64 (o+(wrap .u64 y)))+(wrap .u64 ab))) (2 ^ 32)) p (wrap .i64 (g+1)) (l.set (0+((g.toNat)*1)) (.int .u32 (wrap .u32 (wrap .u64 ((wrap .u64 (o+(wrap .u64 y)))+(wrap .u64 ab))))))) none) none)) none) (cond (Ao g m) (cond ((Nat.beq 1 1)&&((Nat.ble ((0+((g.toNat)*1))+1) (l.length))&&(!false))) (k1 m (Int.fdiv (wrap .u64 (o+(wrap .u64 y))) (2 ^ 32)) p (wrap .i64 (g+1)) (l.set (0+((g.toNat)*1)) (.int .u32 (wrap .u32 (wrap .u64 (o+(wrap .u64 y))))))) none) none))) none) (cond (Ao ((b:Nat):Int) m) (cond ((Nat.beq 1 1)&&((Nat.ble ((0+(b*1))+1) (l.length))&&(!false))) (Nl N m (l.set (0+(b*1)) (.int .u32 (wrap .u32 o))) (fun ae=>(r0 ae (l.set (0+(b*1)) (.int .u32 (wrap .u32 o)))))) none) none))
def Nq (r0:Nat→LA→O R) (c:LA) (b:Nat) (e:Bool) (f:LA) (d:Nat) (i:Bool):Nat→Nat→Int→Int→Int→LA→O R
 | 0,_,_,_,_,_=>none
 | n+1,m,o,p,g,l=>(Rt N r0 c b e f d i (Nq r0 c b e f d i n) m o p g l)
def M' (N:Nat) (r0:Nat→LA→O R) (q1:Nat→Int→Int→Int→LA→O R) (c:LA) (b:Nat) (e:Bool) (f:LA) (d:Nat) (i:Bool):O R :=
 (cond ((decide (0≤(wrap .i64 (((b:Nat):Int)+1))))&&((decide ((wrap .i64 (((b:Nat):Int)+1))≤(wrap .i64 (((b:Nat):Int)+1))))&&((decide ((wrap .i64 (((b:Nat):Int)+1))≤140737488355328))&&(decide (((wrap .i64 (((b:Nat):Int)+1))*((4:Nat):Int))≤140737488355328))))) (q1 ((wrap .i64 (((b:Nat):Int)+1)).toNat) 0 ((b:Nat):Int) 0 (List.replicate ((wrap .i64 (((b:Nat):Int)+1)).toNat) (.int .u32 0))) none)
def W2 (r0:Nat→LA→O R) (c:LA) (b:Nat) (e:Bool) (f:LA) (d:Nat) (i:Bool):O R:=(M' N r0 (fun m o p g l=>(Nq N r0 c b e f d i N m o p g l)) c b e f d i)
def P' (r0:Nat→LA→O R) (q0:LA→Nat→Bool→LA→Nat→Bool→O R) (s:LA) (t:Nat) (u q:Bool) (v:LA) (w:Nat) (x r:Bool):O R :=
 (Bk N s t u q (fun ac z=>(Bk N v w x r (fun ad aa=>(cond (decide (((z:Nat):Int)<((aa:Nat):Int))) (q0 ad aa r ac z q) (q0 ac z q ad aa r))))))
def NA:=(Aj (fun (N:Nat) (s:LA) (t:Nat) (u q:Bool) (v:LA) (w:Nat) (x r:Bool) (r0:Nat→LA→O R)=>(P' N r0 (fun c b e f d i=>(W2 N r0 c b e f d i)) s t u q v w x r))).1
theorem NB (s t u q v w x r r0):(@NA R N s t u q v w x r r0)=(P' N r0 (fun c b e f d i=>(W2 N r0 c b e f d i)) s t u q v w x r):=by rw[NA,(Aj _).2]
def kA:Hints:={ H:=(hS hL (hS hL (hJ [0,1] hL (hS hL (hS hL (hS (hS hL (hS (hP [0,1,5,6,24,25,26] hL) hL)) hL)))))),nils:=[(4,1)],modes:=[(2,1)] }
def oV:D7:=[(214,Dk N)]
def kB (F:KF R):=Ty Tryz.f135 kA (oV N) [] N F
def Nr (F:KF R):Nat→LA→O R:=(fun af ag=>F (.own 300000 0 af) (hq [(bQ 1 ag)]))
def uJ (c:LA) (b:Nat) (e:Bool) (f:LA) (d:Nat) (i:Bool) (m:Nat) (o p g:Int) (l:LA):St:=⟨[(0,(.imm c b 1 false e)),(1,(.imm f d 1 false i)),(5,(.own 300000 0 m)),(6,(.int .u64 o)),(24,(.imm c b 1 false e)),(25,(iv p)),(26,(iv g))],(hq [(bQ 1 l)])⟩
def uK (F:KF R):=kB N F [1,1,1,1,1,0,1,0] []
def uL (c:LA) (b:Nat) (e:Bool) (f:LA) (d:Nat) (i:Bool):St:=⟨[(0,(.imm c b 1 false e)),(1,(.imm f d 1 false i))],[]⟩
def uM (F:KF R):=kB N F [1,1,1] []
theorem QA (F:KF R) (c:LA) (b:Nat) (e:Bool) (f:LA) (d:Nat) (i:Bool):∀ (n m:Nat) (o p g:Int) (l:LA),A5 (uK N F) n (uJ c b e f d i m o p g l)=(Nq N (Nr F) c b e f d i n m o p g l)
 | 0,_,_,_,_,_=>by kernel_rfl
 | n+1,m,o,p,g,l=>Eq.trans (by kernel_rfl) (E9 (Rt N (Nr F) c b e f d i · m o p g l) (funext fun m=>funext fun o=>funext fun p=>funext fun g=>funext fun l=>(QA F c b e f d i n m o p g l)):_)
theorem mM (F:KF R):∀ (c:LA) (b:Nat) (e:Bool) (f:LA) (d:Nat) (i:Bool),Dx (uM N F) (uL c b e f d i)=(W2 N (Nr F) c b e f d i):=by
 intro c b e f d i
 exact Eq.trans (by kernel_rfl) (E9 (M' N (Nr F) · c b e f d i) (funext fun m=>funext fun o=>funext fun p=>funext fun g=>funext fun l=>(Aw ..).trans (QA N F c b e f d i N m o p g l)):_)
theorem kC (s:LA) (t:Nat) (u q:Bool) (v:LA) (w:Nat) (x r:Bool) (F:KF R):Cy (oV N) kA N 135 [(.imm s t 1 u q),(.imm v w 1 x r)] [] F=(NA N s t u q v w x r (Nr F)):=by
 rw[NB]
 exact Eq.trans (by kernel_rfl) (E9 (P' N (Nr F) · s t u q v w x r) (funext fun c=>funext fun b=>funext fun e=>funext fun f=>funext fun d=>funext fun i=>(Bh ..).trans (mM N F c b e f d i)):_)
def eL (a:LA) (h:Ah) (k:KF R):O R :=
 match a,h with
 | [(.imm s t 1 u q),(.imm v w 1 x r)],[]=>(NA N s t u q v w x r (Nr k))
 | _,_=>none
theorem kD:Ap N 135 @eL:=by
 intro R Q a h k j;unfold eL;split;exact Ax (kC ..) (kC ..) ⟨Dl N,trivial⟩;exact A2
def kE:=Ay (kD N)
def kF:=Cz (kD N)
def Hp (N:Nat) (r0:Int→O R) (g:LA) (e:Nat) (c:Bool) (i:LA) (f:Nat) (d:Bool) (k0:Int→O R) (b:Int):O R :=
 (cond (decide (b≥0)) (cond (Ao b e) (F3 .u32 (g.drop ((b.toNat)*1)) fun s=>(cond (Ao b f) (F3 .u32 (i.drop ((b.toNat)*1)) fun t=>(cond (decide (s<t)) (r0 (-1)) (cond (Ao b e) (F3 .u32 (g.drop ((b.toNat)*1)) fun u=>(cond (Ao b f) (F3 .u32 (i.drop ((b.toNat)*1)) fun v=>(cond (decide (u>v)) (r0 1) (k0 (wrap .i64 (b - 1))))) none)) none))) none)) none) (r0 0))
def C6 (r0:Int→O R) (g:LA) (e:Nat) (c:Bool) (i:LA) (f:Nat) (d:Bool):Nat→Int→O R
 | 0,_=>none
 | n+1,b=>(Hp N r0 g e c i f d (C6 r0 g e c i f d n) b)
def Lt (r0:Int→O R) (q0:LA→Nat→LA→Nat→Int→O R) (l:LA) (m:Nat) (o c:Bool) (p:LA) (q:Nat) (r d:Bool):O R :=
 (Bk N l m o c (fun g e=>(Bk N p q r d (fun i f=>(cond (((e:Nat):Int) != ((f:Nat):Int)) (cond (decide (((e:Nat):Int)<((f:Nat):Int))) (r0 (-1)) (r0 1)) (q0 g e i f (wrap .i64 (((e:Nat):Int) - 1))))))))
def Cn:=(Aj (fun (N:Nat) (l:LA) (m:Nat) (o c:Bool) (p:LA) (q:Nat) (r d:Bool) (r0:Int→O R)=>(Lt N r0 (fun g e i f b=>(C6 N r0 g e c i f d N b)) l m o c p q r d))).1
theorem T4 (l m o c p q r d r0):(@Cn R N l m o c p q r d r0)=(Lt N r0 (fun g e i f b=>(C6 N r0 g e c i f d N b)) l m o c p q r d):=by rw[Cn,(Aj _).2]
def AM:D7:=[(214,Lq N)]
def VZ (F:KF R):=Ty Tryz.f131 jj (AM N) [] N F
def Fu (F:KF R):Int→O R:=(fun w=>F (iv w) [])
def V_ (g:LA) (e:Nat) (c:Bool) (i:LA) (f:Nat) (d:Bool) (b:Int):St:=⟨[(0,(.imm g e 1 false c)),(1,(.imm i f 1 false d)),(5,(iv b))],[]⟩
def V' (F:KF R):=VZ N F [1,1,1,0,1,0] []
theorem Po (F:KF R) (g:LA) (e:Nat) (c:Bool) (i:LA) (f:Nat) (d:Bool):∀ (n:Nat) (b:Int),A5 (V' N F) n (V_ g e c i f d b)=(C6 N (Fu F) g e c i f d n b)
 | 0,_=>by kernel_rfl
 | n+1,b=>Eq.trans (by kernel_rfl) (E9 (Hp N (Fu F) g e c i f d · b) (funext fun b=>(Po F g e c i f d n b)):_)
theorem W3 (l:LA) (m:Nat) (o c:Bool) (p:LA) (q:Nat) (r d:Bool) (F:KF R):Cy (AM N) jj N 131 [(.imm l m 1 o c),(.imm p q 1 r d)] [] F=(Cn N l m o c p q r d (Fu F)):=by
 rw[T4]
 exact Eq.trans (by kernel_rfl) (E9 (Lt N (Fu F) · l m o c p q r d) (funext fun g=>funext fun e=>funext fun i=>funext fun f=>funext fun b=>(Aw ..).trans (Po N F g e c i f d N b)):_)
def T5 (a:LA) (h:Ah) (k:KF R):O R :=
 match a,h with
 | [(.imm l m 1 o c),(.imm p q 1 r d)],[]=>(Cn N l m o c p q r d (Fu k))
 | _,_=>none
theorem W4:Ap N 131 @T5:=by
 intro R Q a h k j;unfold T5;split;exact Ax (W3 ..) (W3 ..) ⟨Lr N,trivial⟩;exact A2
def I5:=Ay (W4 N)
def I6:=Cz (W4 N)
def Ru (r0:Nat→Bool→LA→O R) (l:LA) (g:Nat) (d:Bool) (b:Nat) (m:LA) (e:Bool) (k0:Int→Int→Int→LA→O R) (i o c:Int) (f:LA):O R :=
 (cond (decide (c<o)) (cond (Ao c b) (F3 .u32 (m.drop ((c.toNat)*1)) fun v=>(cond (decide (c<((g:Nat):Int))) (cond (Ao c g) (F3 .u32 (l.drop ((c.toNat)*1)) fun w=>(cond (Ao c b) (cond ((Nat.beq 1 1)&&((Nat.ble ((0+((c.toNat)*1))+1) (f.length))&&(!false))) (k0 (Int.fdiv (wrap .u64 ((wrap .u64 ((wrap .u64 v) - i)) - (wrap .u64 w))) (2 ^ 63)) o (wrap .i64 (c+1)) (f.set (0+((c.toNat)*1)) (.int .u32 (wrap .u32 (wrap .u64 ((wrap .u64 ((wrap .u64 v) - i)) - (wrap .u64 w))))))) none) none)) none) (cond (Ao c b) (cond ((Nat.beq 1 1)&&((Nat.ble ((0+((c.toNat)*1))+1) (f.length))&&(!false))) (k0 (Int.fdiv (wrap .u64 ((wrap .u64 v) - i)) (2 ^ 63)) o (wrap .i64 (c+1)) (f.set (0+((c.toNat)*1)) (.int .u32 (wrap .u32 (wrap .u64 ((wrap .u64 v) - i)))))) none) none))) none) (Nl N b f (fun x=>(r0 x true f))))
def Kz (r0:Nat→Bool→LA→O R) (l:LA) (g:Nat) (d:Bool) (b:Nat) (m:LA) (e:Bool):Nat→Int→Int→Int→LA→O R
 | 0,_,_,_,_=>none
 | n+1,i,o,c,f=>(Ru N r0 l g d b m e (Kz r0 l g d b m e n) i o c f)
def QB (r0:Nat→Bool→LA→O R) (q0:LA→Nat→Nat→LA→Int→Int→Int→LA→O R) (p:LA) (q:Nat) (r e:Bool) (s:LA) (t:Nat) (u d:Bool):O R :=
 (Bk N p q r e (fun m b=>(Bk N s t u d (fun l g=>(Cn N m b false e l g false d (fun y=>(cond (decide (y<0)) (r0 0 false []) (cond ((decide (0≤((b:Nat):Int)))&&((decide (((b:Nat):Int)≤((b:Nat):Int)))&&((decide (((b:Nat):Int)≤140737488355328))&&(decide ((((b:Nat):Int)*((4:Nat):Int))≤140737488355328))))) (q0 l g b m 0 ((b:Nat):Int) 0 (List.replicate b (.int .u32 0))) none))))))))
def Vs:=(Aj (fun (N:Nat) (p:LA) (q:Nat) (r e:Bool) (s:LA) (t:Nat) (u d:Bool) (r0:Nat→Bool→LA→O R)=>(QB N r0 (fun l g b m i o c f=>(Kz N r0 l g d b m e N i o c f)) p q r e s t u d))).1
theorem NC (p q r e s t u d r0):(@Vs R N p q r e s t u d r0)=(QB N r0 (fun l g b m i o c f=>(Kz N r0 l g d b m e N i o c f)) p q r e s t u d):=by rw[Vs,(Aj _).2]
def kG:Hints:={ H:=(hS hL (hS hL (hS hL (hS hL (hS hL (hS (hS hL (hS (hP [1,6,7,22,23,24] hL) hL)) hL)))))),nils:=[(4,1)],modes:=[(2,1),(0,0)] }
def oW:D7:=[(214,Dk N),(131,I5 N)]
def uN (F:KF R):=Ty Tryz.f136 kG (oW N) [] N F
def W5 (F:KF R):Nat→Bool→LA→O R:=(fun z aa ab=>F (.tup [(.own 300000 0 z),(.bool aa)]) (hq [(bQ 1 ab)]))
def uO (l:LA) (g:Nat) (d:Bool) (b:Nat) (m:LA) (e:Bool) (i o c:Int) (f:LA):St:=⟨[(1,(.imm l g 1 false d)),(6,(.own 300000 0 b)),(7,(.int .u64 i)),(22,(.imm m b 1 false e)),(23,(iv o)),(24,(iv c))],(hq [(bQ 1 f)])⟩
def uP (F:KF R):=uN N F [1,1,1,1,1,0,1,0] []
theorem QC (F:KF R) (l:LA) (g:Nat) (d:Bool) (b:Nat) (m:LA) (e:Bool):∀ (n:Nat) (i o c:Int) (f:LA),A5 (uP N F) n (uO l g d b m e i o c f)=(Kz N (W5 F) l g d b m e n i o c f)
 | 0,_,_,_,_=>by kernel_rfl
 | n+1,i,o,c,f=>Eq.trans (by kernel_rfl) (E9 (Ru N (W5 F) l g d b m e · i o c f) (funext fun i=>funext fun o=>funext fun c=>funext fun f=>(QC F l g d b m e n i o c f)):_)
theorem kH (p:LA) (q:Nat) (r e:Bool) (s:LA) (t:Nat) (u d:Bool) (F:KF R):Cy (oW N) kG N 136 [(.imm p q 1 r e),(.imm s t 1 u d)] [] F=(Vs N p q r e s t u d (W5 F)):=by
 rw[NC]
 exact Eq.trans (by kernel_rfl) (E9 (QB N (W5 F) · p q r e s t u d) (funext fun l=>funext fun g=>funext fun b=>funext fun m=>funext fun i=>funext fun o=>funext fun c=>funext fun f=>(Aw ..).trans (QC N F l g d b m e N i o c f)):_)
def eM (a:LA) (h:Ah) (k:KF R):O R :=
 match a,h with
 | [(.imm p q 1 r e),(.imm s t 1 u d)],[]=>(Vs N p q r e s t u d (W5 k))
 | _,_=>none
theorem kI:Ap N 136 @eM:=by
 intro R Q a h k j;unfold eM;split;exact Ax (kH ..) (kH ..) ⟨Dl N,I6 N,trivial⟩;exact A2
def WA:=Ay (kI N)
def WB:=Cz (kI N)
def QD (b:LA) (d:Bool) (c:LA) (e:Bool) (r0:Bool→Nat→LA→O R):O R :=
 (Pa b fun o=>(Pa c fun p=>(cond (o==p) (Pa b fun q=>(Ip 1 (b.drop 1) fun r s=>(Ip 1 (c.drop 1) fun t u=>(NA N r s false d t u false e (fun f g=>(Cg N q f g (fun v=>(r0 v f g)))))))) (Ip 1 (b.drop 1) fun w x=>(Ip 1 (c.drop 1) fun y z=>(Vs N w x false d y z false e (fun i aa l=>(cond aa (Pa b fun ab=>(Cg N ab i l (fun ac=>(r0 ac i l)))) (Ip 1 (c.drop 1) fun ad ae=>(Ip 1 (b.drop 1) fun af ag=>(Vs N ad ae false e af ag false d (fun m am n=>(Pa c fun ah=>(Cg N ah m n (fun ai=>(r0 ai m n))))))))))))))))
def Y8:=(Aj (@QD R)).1
theorem Y9:@Y8 R=@QD R:=(Aj _).2
def wX:D7:=[(135,kE N),(132,Gk N),(136,WA N)]
def kJ (F:KF R):Bool→Nat→LA→O R:=(fun aj ak al=>F (.agg [(.bool aj),(.own 300000 0 ak)]) (hq [(bQ 1 al)]))
theorem kK (b:LA) (d:Bool) (c:LA) (e:Bool) (F:KF R):Cy (wX N) Cl N 144 [(.pagg b d),(.pagg c e)] [] F=(Y8 N b d c e (kJ F)):=by
 rw[Y9]
 kernel_rfl
def eN (a:LA) (h:Ah) (k:KF R):O R :=
 match a,h with
 | [(.pagg b d),(.pagg c e)],[]=>(Y8 N b d c e (kJ k))
 | _,_=>none
theorem kL:Ap N 144 @eN:=by
 intro R Q a h k j;unfold eN;split;exact Ax (kK ..) (kK ..) ⟨kF N,Gl N,WB N,trivial⟩;exact A2
def kM:=Ay (kL N)
def kN:=Cz (kL N)
def IS (N:Nat) (r0:LA→O R) (k0:O R):O R :=
 (r0 [])
def Lu (r0:LA→O R):Nat→O R
 | 0=>none
 | n+1=>(IS N r0 (Lu r0 n))
def Za (N:Nat) (r0:LA→O R) (q0:O R):O R :=
 q0
def Qx:=(Aj (fun (N:Nat) (r0:LA→O R)=>(Za N r0 (Lu N r0 N)))).1
theorem IT (r0):(@Qx R N r0)=(Za N r0 (Lu N r0 N)):=by rw[Qx,(Aj _).2]
def mN (F:KF R):=Ty Tryz.f214 YQ [] [] N F
def Lv (F:KF R):LA→O R:=(fun b=>F (.own 300000 0 0) (hq [(bQ 1 b)]))
def mO:St:=⟨[(0,.nsl),(3,(iv 0))],[]⟩
def mP (F:KF R):=mN N F [1,1,0,0] []
theorem AN (F:KF R):∀ (n:Nat) ,A5 (mP N F) n mO=(Lu N (Lv F) n)
 | 0=>by kernel_rfl
 | n+1=>Eq.trans (by kernel_rfl) (E9 (IS N (Lv F) ·) (AN F n):_)
theorem QE (F:KF R):Cy [] YQ N 214 [.nsl] [] F=(Qx N (Lv F)):=by
 rw[IT]
 exact Eq.trans (by kernel_rfl) (E9 (Za N (Lv F) ·) ((Aw ..).trans (AN N F N)):_)
def Rv (N:Nat) (r0:Int→O R) (e:LA) (d:Nat) (b:Bool) (f:LA) (k0:Int→O R) (c:Int):O R :=
 (cond (decide (c≥0)) (cond (Ao c d) (F3 .u32 (e.drop ((c.toNat)*1)) fun m=>(cond (Ao c 0) (F3 .u32 (f.drop (0+((c.toNat)*1))) fun o=>(cond (decide (m<o)) (r0 (-1)) (cond (Ao c d) (F3 .u32 (e.drop ((c.toNat)*1)) fun p=>(cond (Ao c 0) (F3 .u32 (f.drop (0+((c.toNat)*1))) fun q=>(cond (decide (p>q)) (r0 1) (k0 (wrap .i64 (c - 1))))) none)) none))) none)) none) (r0 0))
def Jt (r0:Int→O R) (e:LA) (d:Nat) (b:Bool) (f:LA):Nat→Int→O R
 | 0,_=>none
 | n+1,c=>(Rv N r0 e d b f (Jt r0 e d b f n) c)
def T6 (r0:Int→O R) (q0:LA→Nat→LA→Int→O R) (g:LA) (i:Nat) (l b:Bool):O R :=
 (Bk N g i l b (fun e d=>(Qx N (fun f=>(cond (((d:Nat):Int) != 0) (cond (decide (((d:Nat):Int)<0)) (r0 (-1)) (r0 1)) (q0 e d f (wrap .i64 (((d:Nat):Int) - 1))))))))
def Kl:=(Aj (fun (N:Nat) (g:LA) (i:Nat) (l b:Bool) (r0:Int→O R)=>(T6 N r0 (fun e d f c=>(Jt N r0 e d b f N c)) g i l b))).1
theorem DN (g i l b r0):(@Kl R N g i l b r0)=(T6 N r0 (fun e d f c=>(Jt N r0 e d b f N c)) g i l b):=by rw[Kl,(Aj _).2]
def Hq (a:LA) (h:Ah) (k:KF R):O R :=
 match a,h with
 | [(.imm g i 1 l b)],[]=>(Bk N g i l b (Gn b k))
 | [.nsl],[]=>(Qx N (Lv k))
 | _,_=>none
theorem H4:Ap N 214 @Hq:=by
 intro R Q a h k j;unfold Hq;split;exact Ax (I3 ..) (I3 ..) trivial;exact Ax (QE ..) (QE ..) trivial;exact A2
def Rw:=Ay (H4 N)
def Rx:=Cz (H4 N)
def QF:D7:=[(214,Rw N)]
def ig (F:KF R):=Ty Tryz.f131 jj (QF N) [] N F
def Ju (F:KF R):Int→O R:=(fun r=>F (iv r) [])
def ii (e:LA) (d:Nat) (b:Bool) (f:LA) (c:Int):St:=⟨[(0,(.imm e d 1 false b)),(1,(.own 300000 0 0)),(5,(iv c))],(hq [(bQ 1 f)])⟩
def ij (F:KF R):=ig N F [1,1,1,0,1,0] []
theorem W6 (F:KF R) (e:LA) (d:Nat) (b:Bool) (f:LA):∀ (n:Nat) (c:Int),A5 (ij N F) n (ii e d b f c)=(Jt N (Ju F) e d b f n c)
 | 0,_=>by kernel_rfl
 | n+1,c=>Eq.trans (by kernel_rfl) (E9 (Rv N (Ju F) e d b f · c) (funext fun c=>(W6 F e d b f n c)):_)
theorem IU (g:LA) (i:Nat) (l b:Bool) (F:KF R):Cy (QF N) jj N 131 [(.imm g i 1 l b),.nsl] [] F=(Kl N g i l b (Ju F)):=by
 rw[DN]
 exact Eq.trans (by kernel_rfl) (E9 (T6 N (Ju F) · g i l b) (funext fun e=>funext fun d=>funext fun f=>funext fun c=>(Aw ..).trans (W6 N F e d b f N c)):_)
def DO (a:LA) (h:Ah) (k:KF R):O R :=
 match a,h with
 | [(.imm g i 1 l b),.nsl],[]=>(Kl N g i l b (Ju k))
 | _,_=>none
theorem IV:Ap N 131 @DO:=by
 intro R Q a h k j;unfold DO;split;exact Ax (IU ..) (IU ..) ⟨Rx N,trivial⟩;exact A2
def IW:=Ay (IV N)
def IX:=Cz (IV N)
def eO (b:LA) (c:Bool) (r0:Int→O R):O R :=
 (Ip 1 (b.drop 1) fun d e=>(Kl N d e false c (fun f=>(cond (f==0) (r0 0) (Pa b fun g=>(cond g (r0 (-1)) (r0 1)))))))
def Hr:=(Aj (@eO R)).1
theorem YU:@Hr R=@eO R:=(Aj _).2
def uQ:D7:=[(131,IW N)]
def eP (F:KF R):Int→O R:=(fun i=>F (iv i) [])
theorem eQ (b:LA) (c:Bool) (F:KF R):Cy (uQ N) Cl N 125 [(.pagg b c)] [] F=(Hr N b c (eP F)):=by
 rw[YU]
 kernel_rfl
def YV (a:LA) (h:Ah) (k:KF R):O R :=
 match a,h with
 | [(.pagg b c)],[]=>(Hr N b c (eP k))
 | _,_=>none
theorem eR:Ap N 125 @YV:=by
 intro R Q a h k j;unfold YV;split;exact Ax (eQ ..) (eQ ..) ⟨IX N,trivial⟩;exact A2
def Ry:=Ay (eR N)
def Rz:=Cz (eR N)
def F4 (N:Nat) (r0:Int→O R) (c:LA) (b:Nat) (d e:Bool) (k0:Int→Int→Int→O R) (g i f:Int):O R :=
 (cond (decide (f<i)) (cond (Ao f b) (F3 .u32 (c.drop ((f.toNat)*1)) fun l=>(cond (decide ((wrap .i64 (32*f))<0)) none (k0 (Kx .u64 g (wrap .u64 ((wrap .u64 l)*2 ^ (min ((wrap .i64 (32*f)).toNat) 64)))) i (wrap .i64 (f+1))))) none) (r0 g))
def Fd (r0:Int→O R) (c:LA) (b:Nat) (d e:Bool):Nat→Int→Int→Int→O R
 | 0,_,_,_=>none
 | n+1,g,i,f=>(F4 N r0 c b d e (Fd r0 c b d e n) g i f)
def QG (N:Nat) (r0:Int→O R) (q0:Int→Int→Int→O R) (c:LA) (b:Nat) (d e:Bool):O R :=
 (q0 0 ((b:Nat):Int) 0)
def Kc:=(Aj (fun (N:Nat) (c:LA) (b:Nat) (d e:Bool) (r0:Int→O R)=>(QG N r0 (fun g i f=>(Fd N r0 c b d e N g i f)) c b d e))).1
theorem YW (c b d e r0):(@Kc R N c b d e r0)=(QG N r0 (fun g i f=>(Fd N r0 c b d e N g i f)) c b d e):=by rw[Kc,(Aj _).2]
def eS:Hints:={ H:=(hS hL (hS hL (hS (hS hL (hS (hP [3,6,7,8] hL) hL)) hL))) }
def rF (F:KF R):=Ty Tryz.f215 eS [] [] N F
def R3 (F:KF R):Int→O R:=(fun m=>F (.int .u64 m) [])
def rG (c:LA) (b:Nat) (d e:Bool) (g i f:Int):St:=⟨[(3,(.int .u64 g)),(6,(.imm c b 1 d e)),(7,(iv i)),(8,(iv f))],[]⟩
def rH (F:KF R):=rF N F [1,1,0,1,0] []
theorem IY (F:KF R) (c:LA) (b:Nat) (d e:Bool):∀ (n:Nat) (g i f:Int),A5 (rH N F) n (rG c b d e g i f)=(Fd N (R3 F) c b d e n g i f)
 | 0,_,_,_=>by kernel_rfl
 | n+1,g,i,f=>Eq.trans (by kernel_rfl) (E9 (F4 N (R3 F) c b d e · g i f) (funext fun g=>funext fun i=>funext fun f=>(IY F c b d e n g i f)):_)
theorem eT (c:LA) (b:Nat) (d e:Bool) (F:KF R):Cy [] eS N 215 [(.imm c b 1 d e)] [] F=(Kc N c b d e (R3 F)):=by
 rw[YW]
 exact Eq.trans (by kernel_rfl) (E9 (QG N (R3 F) · c b d e) (funext fun g=>funext fun i=>funext fun f=>(Aw ..).trans (IY N F c b d e N g i f)):_)
def YX (a:LA) (h:Ah) (k:KF R):O R :=
 match a,h with
 | [(.imm c b 1 d e)],[]=>(Kc N c b d e (R3 k))
 | _,_=>none
theorem eV:Ap N 215 @YX:=by
 intro R Q a h k j;unfold YX;split;exact Ax (eT ..) (eT ..) trivial;exact A2
def ND:=Ay (eV N)
def NE:=Cz (eV N)
def NF (c:LA) (d:Nat) (e b:Bool) (r0:Int→Bool→O R):O R :=
 (Bk N c d e b (fun g f=>(cond (decide (((f:Nat):Int)>2)) (r0 0 false) (Kc N g f false b (fun i=>(r0 i true))))))
def Ns:=(Aj (@NF R)).1
theorem IZ:@Ns R=@NF R:=(Aj _).2
def oX:D7:=[(214,Lq N),(215,ND N)]
def QH (F:KF R):Int→Bool→O R:=(fun l m=>F (.tup [(.int .u64 l),(.bool m)]) [])
theorem QI (c:LA) (d:Nat) (e b:Bool) (F:KF R):Cy (oX N) Cl N 210 [(.imm c d 1 e b)] [] F=(Ns N c d e b (QH F)):=by
 rw[IZ]
 kernel_rfl
def I_ (a:LA) (h:Ah) (k:KF R):O R :=
 match a,h with
 | [(.imm c d 1 e b)],[]=>(Ns N c d e b (QH k))
 | _,_=>none
theorem QJ:Ap N 210 @I_:=by
 intro R Q a h k j;unfold I_;split;exact Ax (QI ..) (QI ..) ⟨Lr N,NE N,trivial⟩;exact A2
def QK:=Ay (QJ N)
def QL:=Cz (QJ N)
def Df (N:Nat) (r0:Int→Int→Bool→O R) (e d:Int) (c:Bool) (b:LA) (f:Bool):O R :=
 (cond f (r0 0 0 false) (cond (d==0) (r0 0 1 true) (Pa b fun g=>(cond g (r0 (wrap .i64 ((0:Int) - (wrap .i64 e))) (wrap .i64 d) true) (r0 (wrap .i64 e) (wrap .i64 d) true)))))
def Qy (r0:Int→Int→Bool→O R) (q0:Int→Int→Bool→O R) (b:LA) (c:Bool):O R :=
 (Ip 1 (b.drop 1) fun i l=>(Ns N i l false c (fun e m=>(Ip 1 (b.drop 2) fun n o=>(Ns N n o false c (fun d p=>(cond ((!m)==false) (cond ((cond false true (!p))==false) (cond ((cond false true (decide (e≥2147483648)))==false) (q0 e d (cond false true (decide (d≥2147483648)))) (q0 e d true)) (q0 e d true)) (q0 e d true))))))))
def Jv:=(Aj (fun (N:Nat) (b:LA) (c:Bool) (r0:Int→Int→Bool→O R)=>(Qy N r0 (fun e d f=>(Df N r0 e d c b f)) b c))).1
theorem P7 (b c r0):(@Jv R N b c r0)=(Qy N r0 (fun e d f=>(Df N r0 e d c b f)) b c):=by rw[Jv,(Aj _).2]
def YY:Hints:={ H:=(hS hL (hS hL (hS hL (hS (hS (hJ [1,5,6,21] hL hL) hL) hL)))) }
def eX:D7:=[(210,QK N)]
def oY (F:KF R):=Ty Tryz.f127 YY (eX N) [] N F
def T7 (F:KF R):Int→Int→Bool→O R:=(fun q r s=>F (.tup [(iv q),(iv r),(.bool s)]) [])
def oZ (e d:Int) (c:Bool) (b:LA) (f:Bool):St:=⟨[(1,(op 0)),(5,(.int .u64 e)),(6,(.int .u64 d)),(21,(.bool f))],(hq [(bP c 0 b)])⟩
def o0 (F:KF R):=oY N F [1,1,1,0,0,1] []
theorem eY (F:KF R) (e d:Int) (c:Bool) (b:LA):∀ (f:Bool),Dx (o0 N F) (oZ e d c b f)=(Df N (T7 F) e d c b f):=by
 intro f
 kernel_rfl
theorem YZ (b:LA) (c:Bool) (F:KF R):Cy (eX N) YY N 127 [(.pagg b c)] [] F=(Jv N b c (T7 F)):=by
 rw[P7]
 exact Eq.trans (by kernel_rfl) (E9 (Qy N (T7 F) · b c) (funext fun e=>funext fun d=>funext fun f=>(Bh ..).trans (eY N F e d c b f)):_)
def QM (a:LA) (h:Ah) (k:KF R):O R :=
 match a,h with
 | [(.pagg b c)],[]=>(Jv N b c (T7 k))
 | _,_=>none
theorem Y_:Ap N 127 @QM:=by
 intro R Q a h k j;unfold QM;split;exact Ax (YZ ..) (YZ ..) ⟨QL N,trivial⟩;exact A2
def ZA:=Ay (Y_ N)
def ZB:=Cz (Y_ N)
def G6 (r0:LA→O R) (b c d:Int) (k1:Int→Int→O R) (e f:Int):O R :=
 (cond (f != 0) (cond (f==0) none (k1 f (Int.tmod e f))) (cond (e==0) none (Ba N (wrap .u64 (Int.tdiv d e)) (fun g l=>(cond (e==0) none (Ba N (wrap .u64 (Int.tdiv (wrap .u64 c) e)) (fun i m=>(r0 [(.bool (decide (b<0))),(.imm (l.take (g*1)) g 1 false false),(.imm (m.take (i*1)) i 1 false false)]))))))))
def By (r0:LA→O R) (b c d:Int):Nat→Int→Int→O R
 | 0,_,_=>none
 | n+1,e,f=>(G6 N r0 b c d (By r0 b c d n) e f)
def Pb (N:Nat) (r0:LA→O R) (b c:Int) (q1:Int→Int→O R) (d:Int):O R :=
 (q1 (wrap .u64 c) d)
def Lw (r0:LA→O R) (b c:Int) (d:Int):O R:=(Pb N r0 b c (fun e f=>(By N r0 b c d N e f)) d)
def P8 (N:Nat) (r0:LA→O R) (q0:Int→O R) (b c:Int):O R :=
 (cond (decide (b<0)) (q0 (wrap .u64 ((0:Int) - (wrap .u64 b)))) (q0 (wrap .u64 b)))
def F5:=(Aj (fun (N:Nat) (b c:Int) (r0:LA→O R)=>(P8 N r0 (fun d=>(Lw N r0 b c d)) b c))).1
theorem AO (b c r0):(@F5 R N b c r0)=(P8 N r0 (fun d=>(Lw N r0 b c d)) b c):=by rw[F5,(Aj _).2]
def DP:Hints:={ H:=(hS hL (hS hL (hJ [0,1,4,5] hL (hS hL (hS (hS (hP [0,1,4,5,6,7] hL) hL) hL))))),modes:=[(3,0)] }
def JA:D7:=[(133,D5 N)]
def DQ (F:KF R):=Ty Tryz.f128 DP (JA N) [] N F
def Ed (F:KF R):LA→O R:=(fun o=>F (.pagg o false) [])
def eZ (b c d e f:Int):St:=⟨[(0,(iv b)),(1,(iv c)),(4,(op 0)),(5,(.int .u64 d)),(6,(.int .u64 e)),(7,(.int .u64 f))],(hq [(bN 0 [(.bool false),.nsl,.nsl])])⟩
def e_ (F:KF R):=DQ N F [1,1,1,1,0,0] []
def ee (b c d:Int):St:=⟨[(0,(iv b)),(1,(iv c)),(4,(op 0)),(5,(.int .u64 d))],(hq [(bN 0 [(.bool false),.nsl,.nsl])])⟩
def ef (F:KF R):=DQ N F [1,1,1] []
theorem T8 (F:KF R) (b c d:Int):∀ (n:Nat) (e f:Int),A5 (e_ N F) n (eZ b c d e f)=(By N (Ed F) b c d n e f)
 | 0,_,_=>by kernel_rfl
 | n+1,e,f=>Eq.trans (by kernel_rfl) (E9 (G6 N (Ed F) b c d · e f) (funext fun e=>funext fun f=>(T8 F b c d n e f)):_)
theorem QN (F:KF R) (b c:Int):∀ (d:Int),Dx (ef N F) (ee b c d)=(Lw N (Ed F) b c d):=by
 intro d
 exact Eq.trans (by kernel_rfl) (E9 (Pb N (Ed F) b c · d) (funext fun e=>funext fun f=>(Aw ..).trans (T8 N F b c d N e f)):_)
theorem DR (b c:Int) (F:KF R):Cy (JA N) DP N 128 [(iv b),(iv c)] [] F=(F5 N b c (Ed F)):=by
 rw[AO]
 exact Eq.trans (by kernel_rfl) (E9 (P8 N (Ed F) · b c) (funext fun d=>(Bh ..).trans (QN N F b c d)):_)
def AP (a:LA) (h:Ah) (k:KF R):O R :=
 match a,h with
 | [(.int .i64 b),(.int .i64 c)],[]=>(F5 N b c (Ed k))
 | _,_=>none
theorem DS:Ap N 128 @AP:=by
 intro R Q a h k j;unfold AP;split;exact Ax (DR ..) (DR ..) ⟨D6 N,trivial⟩;exact A2
def DT:=Ay (DS N)
def DU:=Cz (DS N)
def HH (b:LA) (c:Bool) (r0:LA→Bool→LA→Nat→Bool→O R):O R :=
 (Ip 1 (b.drop 2) fun d e=>(Kl N d e false c (fun f=>(cond (f==0) (r0 [(.bool false),.nsl] false [(.int .u32 1)] 1 false) (cond (Nat.ble 2 (b.length)) (Ip 1 (b.drop 2) fun g i=>(cond ((Nat.beq 0 0)&&((Nat.beq ((b.take 2).length) 2)&&(Nat.beq 2 2))) (cond (Nat.ble 2 ((b.take 2).length)) (r0 ((b.take 2).take 2) c g i c) none) none)) none)))))
def Oj:=(Aj (@HH R)).1
theorem Zb:@Oj R=@HH R:=(Aj _).2
def o4:Hints:={ H:=hL,nils:=[(3,1)],modes:=[(3,0),(1,1)] }
def rI:D7:=[(131,IW N)]
def ZC (F:KF R):LA→Bool→LA→Nat→Bool→O R:=(fun l m n o p=>F (.tup [(.pagg l m),(.imm n o 1 false p)]) [])
theorem ZD (b:LA) (c:Bool) (F:KF R):Cy (rI N) o4 N 130 [(.pagg b c)] [] F=(Oj N b c (ZC F)):=by
 rw[Zb]
 kernel_rfl
def QO (a:LA) (h:Ah) (k:KF R):O R :=
 match a,h with
 | [(.pagg b c)],[]=>(Oj N b c (ZC k))
 | _,_=>none
theorem ZE:Ap N 130 @QO:=by
 intro R Q a h k j;unfold QO;split;exact Ax (ZD ..) (ZD ..) ⟨IX N,trivial⟩;exact A2
def DV:=Ay (ZE N)
def DW:=Cz (ZE N)
def eg (b:LA) (c:Bool) (r0:Bool→Nat→LA→O R):O R :=
 (Pa b fun f=>(Ip 1 (b.drop 1) fun g i=>(Ls N g i false c (fun d e=>(Cg N f d e (fun l=>(r0 l d e)))))))
def QP:=(Aj (@eg R)).1
theorem ZF:@QP R=@eg R:=(Aj _).2
def uR:D7:=[(212,No N),(132,Gk N)]
def eh (F:KF R):Bool→Nat→LA→O R:=(fun m n o=>F (.agg [(.bool m),(.own 300000 0 n)]) (hq [(bQ 1 o)]))
theorem ek (b:LA) (c:Bool) (F:KF R):Cy (uR N) Cl N 211 [(.pagg b c)] [] F=(QP N b c (eh F)):=by
 rw[ZF]
 kernel_rfl
def ZG (a:LA) (h:Ah) (k:KF R):O R :=
 match a,h with
 | [(.pagg b c)],[]=>(QP N b c (eh k))
 | _,_=>none
theorem eo:Ap N 211 @ZG:=by
 intro R Q a h k j;unfold ZG;split;exact Ax (ek ..) (ek ..) ⟨Np N,Gl N,trivial⟩;exact A2
def rJ:=Ay (eo N)
def rK:=Cz (eo N)
end
end Gx

namespace Gx
open Go Go.Proofs
section
variable {R:Type}
def fit (k N:Nat):Prop:=100*k+1000≤N∧k≤1000000000
theorem fit.le {j k N:Nat} (h:fit k N) (b:j≤k):fit j N:=⟨by have:=h.1;omega,by have:=h.2;omega⟩
theorem ct (x y:O R):cond true x y=x:=rfl
theorem cf (x y:O R):cond false x y=y:=rfl
theorem tD (x y:Bool):cond true x y=x:=rfl
theorem zm (x y:Bool):cond false x y=y:=rfl
theorem y6 (c:Nat):((decide (((c+1:Nat):Int)>(0:Int)))==true)=true:=by simp
theorem NG {j n:Nat} (h:j<n):decide ((j:Int)<(n:Int))=true:=by simp;omega
theorem US {j n:Nat} (h:n≤j):decide ((j:Int)<(n:Int))=false:=by simp;omega
theorem wS {j:Nat} (h:j≤1000000000000):IntKind.wrap .i64 ((j:Int)+1)=((j+1:Nat):Int):=by rw[i64 (by omega)];omega
theorem wP {j:Nat} (h:j≤1000000000000):IntKind.wrap .i64 (((j+1:Nat):Int) - 1)=(j:Int):=by rw[i64 (by omega)];omega
theorem wA {j k:Nat} (h:j+k≤1000000000000):IntKind.wrap .i64 ((j:Int)+(k:Int))=((j+k:Nat):Int):=by rw[i64 (by omega)];omega
theorem CG {l:List Nat} {j:Nat} (h:j<l.length) {f:Int→O R}:F3 .u32 (List.drop ((Int.toNat (j:Int))*1) (Ab l)) f=f (l[j]:Nat):=by
 rw[Int.toNat_natCast,Nat.mul_one,oP h]
theorem QQ {l:List Nat} {j:Nat} (h:j<l.length) {f:Int→O R}:F3 .u32 (List.drop (0+((Int.toNat (j:Int))*1)) (Ab l)) f=f (l[j]:Nat):=by
 rw[Nat.zero_add,CG h]
theorem yD {c a:Nat} (h:c≤a):((decide ((0:Int)≤(0:Int)))&&((decide ((0:Int)≤(c:Int)))&&((decide ((c:Int)≤(a:Int)))&&(decide ((a:Int)≤(a:Int))))))=true:=by
 simp;omega
theorem v6 {n:Nat} (h:n≤1000000000000):((decide ((0:Int)≤(n:Int)))&&((decide ((n:Int)≤(n:Int)))&&((decide ((n:Int)≤(140737488355328:Int)))&&(decide (((n:Int)*((4:Nat):Int))≤(140737488355328:Int))))))=true:=by
 simp;omega
theorem jc {x:Nat} {m:List Nat} (h:x<m.length):((Nat.beq 1 1)&&((Nat.ble ((0+((Int.toNat (x:Int))*1))+1) (List.length (Ab m)))&&(!false)))=true:=by
 rw[A9,Int.toNat_natCast];simp;omega
theorem DX {x v:Nat} {m:List Nat}:List.set (Ab m) (0+((Int.toNat (x:Int))*1)) (.int .u32 (v:Int))=Ab (m.set x v):=by
 rw[Int.toNat_natCast,Nat.mul_one,Nat.zero_add,PQ]
theorem o5 {l:List Nat} (h:Ad l):l.take (Ae (val l)).length=Ae (val l):=by
 obtain⟨b,c⟩:=Au h
 rw[congrArg (List.take (Ae (val l)).length) b,List.take_left]
theorem He {l:List Nat} (h:Ad l):List.take ((Ae (val l)).length*1) (Ab l)=Ab (Ae (val l)):=by rw[Nat.mul_one,Nj,o5 h]
theorem Aq {l:List Nat} {c:Nat} (h:c<l.length):val (l.take (c+1))=val (l.take c)+4294967296 ^ c*l[c]:=by
 rw[List.take_succ_eq_append_getElem h,rC,List.length_take,Nat.min_eq_left (by omega)]
theorem mQ {l:List Nat} {c:Nat} (b:Ad l) (h:c<l.length) (d:l[c]≠0):Ae (val (l.take (c+1)))=l.take (c+1):=by
 apply yZ (Bn b _)
 intro e
 rw[List.getLast_eq_getElem]
 simp only[List.length_take,Nat.min_eq_left (show c+1≤l.length by omega),Nat.add_sub_cancel,List.getElem_take]
 exact d
theorem ep {N:Nat} {l:List Nat} {K:Nat→O R} (e:Ad l) (i:l.length≤1000000000000):∀ (c b:Nat),c≤l.length→c<b →
  Nk N K l.length (Ab l) b (c:Int)=K (Ae (val (l.take c))).length
 | 0,b+1,f,_=>by
  rw[Nk];unfold Y3
  rw[show decide (((0:Nat):Int)>0)=false by simp]
  rw[show((false:Bool)==true)=false by rfl,cf,yD (by omega),ct,Int.toNat_natCast];rfl
 | c+1,b+1,f,j=>by
  rw[Nk];unfold Y3
  rw[y6,ct,wP (by omega),Ak (by omega),ct,QQ (by omega),tD,yD (by omega),ct,ep e i c b (by omega) (by omega),Int.toNat_natCast]
  by_cases d:l[c]=0
  ·rw[Aq (by omega),d];simp
  ·rw[mQ e (by omega) d,List.length_take,Nat.min_eq_left f]
   rw[show(((l[c]:Nat):Int)==0)=false by simp;exact d,cf]
theorem W7 {N:Nat} {l:List Nat} {n:Nat} {K:Nat→O R} (c:n=l.length) (d:Ad l) (b:fit l.length N):Nl N n (Ab l) K=K (Ae (val l)).length:=by
 subst c
 have e:=b.1;have f:=b.2
 rw[MY];unfold PT
 dsimp only
 rw[ep d (by omega) l.length N (Nat.le_refl _) (by omega),List.take_length]
theorem kO {N:Nat} {l:List Nat} {t o:Bool} {K:LA→Nat→O R} (e:Ad l) (i:l.length≤1000000000000):∀ (c b:Nat),c≤l.length→c<b →
  Gm N K (Ab l) l.length t o b (c:Int)=K (Ab (Ae (val (l.take c)))) (Ae (val (l.take c))).length
 | 0,b+1,f,_=>by
  rw[Gm];unfold N6
  rw[show decide (((0:Nat):Int)>0)=false by simp]
  rw[show((false:Bool)==true)=false by rfl,cf,yD (by omega),ct,Int.toNat_natCast];rfl
 | c+1,b+1,f,j=>by
  rw[Gm];unfold N6
  rw[y6,ct,wP (by omega),Ak (by omega),ct,CG (by omega),tD,yD (by omega),ct,kO e i c b (by omega) (by omega),Int.toNat_natCast,Nat.mul_one,Nj]
  by_cases d:l[c]=0
  ·rw[Aq (by omega),d];simp
  ·rw[mQ e (by omega) d,List.length_take,Nat.min_eq_left f]
   rw[show(((l[c]:Nat):Int)==0)=false by simp;exact d,cf]
theorem Bc {N:Nat} {l:List Nat} {n:Nat} {t o:Bool} {K:LA→Nat→O R} (c:n=l.length) (d:Ad l) (b:fit l.length N):Bk N (Ab l) n t o K=K (Ab (Ae (val l))) (Ae (val l)).length:=by
 subst c
 have e:=b.1;have f:=b.2
 rw[IQ];unfold Y4
 dsimp only
 rw[kO d (by omega) l.length N (Nat.le_refl _) (by omega),List.take_length]
theorem uS {N:Nat} {K:LA→O R} (hN:1≤N):Qx N K=K []:=by
 rw[IT];unfold Za
 cases N with
 | zero=>omega
 | succ N=>rw[Lu];rfl
end
end Gx

namespace Gx
open Go Go.Proofs
section
variable {R:Type}
def E2 (x y:Nat):Int:=if x<y then -1 else if y<x then 1 else 0
theorem W8 (x:Nat):E2 x x=0:=by unfold E2;simp
theorem Zc {a b:Nat} (h:(Ae a).length<(Ae b).length):a<b:=Nat.lt_of_not_le fun c=>by
 have:=An c;omega
theorem cv {u w p q P:Nat} (b:u<P) (c:w<P) (h:p<q):u+P*p<w+P*q:=by
 have:P*(p+1)≤P*q:=Nat.mul_le_mul_left _ h
 rw[Nat.mul_add] at this
 omega
theorem kP {N:Nat} {x y:List Nat} {t u:Bool} {K:Int→O R} (e:Ad x) (f:Ad y) (k:x.length≤1000000000000) (l:x.length=y.length):∀ (i b:Nat),i≤x.length→i<b →
  C6 N K (Ab x) x.length t (Ab y) y.length u b ((i:Int) - 1)=K (E2 (val (x.take i)) (val (y.take i)))
 | 0,b+1,_,_=>by
  rw[C6];unfold Hp
  rw[show decide ((((0:Nat):Int) - 1)≥0)=false by simp,cf]
  simp[W8]
 | i+1,b+1,m,n=>by
  rw[C6];unfold Hp
  rw[show(((i+1:Nat):Int) - 1)=(i:Int) by omega,show decide ((i:Int)≥0)=true by simp,ct,Ak (by omega),ct,CG (by omega),Ak (by omega),ct,CG (by omega),ct,CG (by omega),ct,CG (by omega),i64 (by omega),
   kP e f k l i b (by omega) (by omega),Aq (by omega),Aq (by omega)]
  have c:=Bb (Bn e i)
  have d:=Bb (Bn f i)
  rw[List.length_take,Nat.min_eq_left (by omega)] at c d
  by_cases c1:x[i]<y[i]
  ·have:=cv c d c1
   rw[show decide (((x[i]:Nat):Int)<((y[i]:Nat):Int))=true by simp;exact c1,ct]
   unfold E2;rw[if_pos this]
  ·by_cases j:y[i]<x[i]
   ·have:=cv d c j
    rw[show decide (((x[i]:Nat):Int)<((y[i]:Nat):Int))=false by simp;omega,cf,show decide (((x[i]:Nat):Int)>((y[i]:Nat):Int))=true by simp;exact j,ct]
    unfold E2;rw[if_neg (by omega),if_pos this]
   ·have:x[i]=y[i]:=by omega
    rw[show decide (((x[i]:Nat):Int)<((y[i]:Nat):Int))=false by simp;omega,cf,show decide (((x[i]:Nat):Int)>((y[i]:Nat):Int))=false by simp;omega,cf,this]
    unfold E2
    congr 1
    by_cases a1:val (x.take i)<val (y.take i)
    ·rw[if_pos a1,if_pos (by omega)]
    ·by_cases a2:val (y.take i)<val (x.take i)
     ·rw[if_neg a1,if_pos a2,if_neg (by omega),if_pos (by omega)]
     ·rw[if_neg a1,if_neg a2,if_neg (by omega),if_neg (by omega)]
theorem Qz {N:Nat} {a b:List Nat} {n m:Nat} {t o t' o':Bool} {K:Int→O R} (i:n=a.length) (j:m=b.length) (d:Ad a) (e:Ad b) (c:fit (a.length+b.length) N) :
  Cn N (Ab a) n t o (Ab b) m t' o' K=K (E2 (val a) (val b)):=by
 subst i j
 have l:=c.1;have q:=c.2
 rw[T4];unfold Lt
 dsimp only
 rw[Bc rfl d (c.le (by omega)),Bc rfl e (c.le (by omega))]
 have la:=(Au d).2
 have lb:=(Au e).2
 by_cases f:(Ae (val a)).length=(Ae (val b)).length
 ·rw[show((((Ae (val a)).length:Nat):Int) != (((Ae (val b)).length:Nat):Int))=false by simp;omega,cf,i64 (by omega),kP (Aa _) (Aa _) (by omega) f _ N (Nat.le_refl _) (by omega),List.take_length,f,List.take_length,Ac,Ac]
 ·rw[show((((Ae (val a)).length:Nat):Int) != (((Ae (val b)).length:Nat):Int))=true by simp;omega,ct]
  by_cases k:(Ae (val a)).length<(Ae (val b)).length
  ·have:=Zc k
   rw[show decide ((((Ae (val a)).length:Nat):Int)<(((Ae (val b)).length:Nat):Int))=true by simp;omega,ct]
   unfold E2;rw[if_pos this]
  ·have:=Zc (show(Ae (val b)).length<(Ae (val a)).length by omega)
   rw[show decide ((((Ae (val a)).length:Nat):Int)<(((Ae (val b)).length:Nat):Int))=false by simp;omega,cf]
   unfold E2;rw[if_neg (by omega),if_pos this]
theorem er {N:Nat} {a:List Nat} {n:Nat} {t o:Bool} {K:Int→O R} (d:n=a.length) (e:Ad a) (b:fit a.length N):Kl N (Ab a) n t o K=K (E2 (val a) 0):=by
 subst d
 have f:=b.1;have i:=b.2
 rw[DN];unfold T6
 dsimp only
 rw[Bc rfl e b,uS (by omega)]
 by_cases c:val a=0
 ·rw[c,Bt,W8]
  cases N with
  | zero=>omega
  | succ N =>
   rw[Jt];unfold Rv
   rw[i64 (by simp)];simp
 ·have j:(Ae (val a)).length≠0:=fun h=>c (A0.1 h)
  rw[show((((Ae (val a)).length:Nat):Int) != (0:Int))=true by simp;exact fun h=>c (dt.1 h),ct]
  rw[show decide ((((Ae (val a)).length:Nat):Int)<(0:Int))=false by simp,cf]
  unfold E2;rw[if_neg (by omega),if_pos (by omega)]
end
end Gx

namespace Gx
open Go Go.Proofs
section
variable {R:Type}
theorem QR:∀ {S:List Nat} {d v:Nat} (h:d<S.length),val (S.set d v)+4294967296 ^ d*S[d]=val S+4294967296 ^ d*v
 | x::r,0,v,_=>by simp[val];omega
 | x::r,d+1,v,h=>by
  have c:=QR (S:=r) (d:=d) (v:=v) (by simpa using h)
  simp only[List.set_cons_succ,val,List.getElem_cons_succ,Nat.pow_succ]
  have b:∀ y,4294967296 ^ d*4294967296*y=4294967296*(4294967296 ^ d*y):=fun y=>by rw[Nat.mul_comm (4294967296 ^ d),Nat.mul_assoc]
  rw[b,b]
  omega
theorem K0 (b:List Nat) (d:Nat):val (b.take (d+1))=val (b.take d)+4294967296 ^ d*b.getD d 0:=by
 by_cases h:d<b.length
 ·rw[Aq h,List.getD_eq_getElem?_getD,List.getElem?_eq_getElem h];rfl
 ·rw[List.take_of_length_le (by omega),List.take_of_length_le (by omega),List.getD_eq_getElem?_getD,List.getElem?_eq_none (by omega)];simp
theorem H5 (P s:Nat):P*(s%4294967296)+P*4294967296*(s/4294967296)=P*s:=by
 rw[Nat.mul_assoc,←Nat.mul_add,Nat.add_comm,Nat.div_add_mod]
def uT (S:List Nat) (d:Nat):Prop:=∀ j (h:j<S.length),d≤j→S[j]=0
theorem T9 {S:List Nat} {d v:Nat} (h:uT S d):uT (S.set d v) (d+1):=fun j b c=>by
 rw[List.getElem_set]
 rw[if_neg (by omega)]
 exact h j (by simpa using b) (by omega)
theorem Hf (n:Nat):uT (List.replicate n 0) 0:=fun j b _=>by simp
theorem N7 {S:List Nat} {d v:Nat} (h:uT S d) (b:d<S.length):val (S.set d v)=val S+4294967296 ^ d*v:=by
 have:=QR (v:=v) b
 rw[h d b (Nat.le_refl _)] at this;simpa using this
theorem zn {a:Nat} (h:a≤1000000000000):IntKind.wrap .i64 (((a:Nat):Int)+(1:Int))=((a+1:Nat):Int):=wS h
theorem zH {x:Nat} {m:List Nat} (h:x<m.length):((Nat.beq 1 1)&&((Nat.ble ((0+(x*1))+1) (List.length (Ab m)))&&(!false)))=true:=by
 rw[A9];simp;omega
theorem yE {x v:Nat} {m:List Nat}:List.set (Ab m) (0+(x*1)) (.int .u32 (v:Int))=Ab (m.set x v):=by rw[Nat.mul_one,Nat.zero_add,PQ]
theorem ew {N:Nat} {a b:List Nat} {t u:Bool} (y:Ad a) (z:Ad b) (k:fit (a.length+1) N) (l:b.length≤a.length):∀ (m d f:Nat) (S:List Nat) (c:Nat),d+m=a.length→m<f→Ad S→S.length=a.length+1→uT S d→c≤1 →
  val S+4294967296 ^ d*c=val (a.take d)+val (b.take d) →
  ∃ S',Ad S'∧S'.length=a.length+1∧val S'=val a+val b∧∀ K:Nat→LA→O R,Nq N K (Ab a) a.length t (Ab b) b.length u f (a.length+1) (c:Int) (a.length:Int) (d:Int) (Ab S)=K (Ae (val a+val b)).length (Ab S')
 | 0,d,f+1,S,c,L,_,hS,n,q,M,I=>by
  have T:=k.1;have U:=k.2
  have A:d=a.length:=by omega
  subst A
  have v:val (S.set a.length c)=val a+val b:=by
   rw[N7 q (by omega),I,List.take_length,List.take_of_length_le l]
  have x:=Br hS (show c<4294967296 by omega) a.length
  refine⟨S.set a.length c,x,by simpa using n,v,fun K=>?_⟩
  rw[Nq];unfold Rt
  rw[US (Nat.le_refl _),cf,Ak (by omega),ct,zH (by omega),ct,tB (by omega),yE,W7 (by simp;omega) x (by simp only[List.length_set,n];exact k),v]
 | m+1,d,f+1,S,c,L,V,hS,n,q,M,I=>by
  have T:=k.1;have U:=k.2
  have i:d<a.length:=by omega
  have ad:=At y i
  have step:∀ s:Nat,s<8589934592→s=c+a[d]+b.getD d 0→val (S.set d (s%4294967296))+4294967296 ^ (d+1)*(s/4294967296)=val (a.take (d+1))+val (b.take (d+1)):=by
   intro s _ X
   rw[N7 q (by omega),Aq i,K0 b d,Nat.pow_succ]
   have e:=H5 (4294967296 ^ d) s
   have Y:4294967296 ^ d*s=4294967296 ^ d*c+4294967296 ^ d*a[d]+4294967296 ^ d*b.getD d 0:=by rw[X,Nat.mul_add,Nat.mul_add]
   omega
  by_cases j:d<b.length
  ·have bd:=At z j
   have B:b.getD d 0=b[d]:=by rw[List.getD_eq_getElem?_getD,List.getElem?_eq_getElem j];rfl
   obtain⟨S',C,D,F,G⟩:=ew (t:=t) (u:=u) y z k l m (d+1) f (S.set d ((c+a[d]+b[d])%4294967296)) ((c+a[d]+b[d])/4294967296) (by omega) (by omega) (Br hS (by omega) d) (by simpa using n) (T9 q) (by omega) (step _ (by omega) (by rw[B]))
   refine⟨S',C,D,F,fun K=>?_⟩
   rw[Nq];unfold Rt
   rw[NG i,ct,Ak i,ct,CG i,NG j,ct,Ak j,ct,CG j,Ak (by omega),ct,jc (by omega),ct,Ex (by omega),Ex (by omega),Vr,Ex (by omega),Vr,Ex (by omega),VR,MU,DX,wS (by omega)]
   exact G K
  ·have B:b.getD d 0=0:=by rw[List.getD_eq_getElem?_getD,List.getElem?_eq_none (by omega)];rfl
   obtain⟨S',C,D,F,G⟩:=ew (t:=t) (u:=u) y z k l m (d+1) f (S.set d ((c+a[d])%4294967296)) ((c+a[d])/4294967296) (by omega) (by omega) (Br hS (by omega) d) (by simpa using n) (T9 q) (by omega) (step _ (by omega) (by rw[B];rfl))
   refine⟨S',C,D,F,fun K=>?_⟩
   rw[Nq];unfold Rt
   rw[NG i,ct,Ak i,ct,CG i,US (by omega),cf,Ak (by omega),ct,jc (by omega),ct,Ex (by omega),Vr,Ex (by omega),VR,MU,DX,wS (by omega)]
   exact G K
theorem wY {N:Nat} {a b:List Nat} {t u:Bool} (e:Ad a) (f:Ad b) (c:fit (a.length+1) N) (d:b.length≤a.length) :
  ∃ S',Ad S'∧val S'=val a+val b∧∀ K:Nat→LA→O R,W2 N K (Ab a) a.length t (Ab b) b.length u=K (Ae (val a+val b)).length (Ab S'):=by
 have l:=c.1;have m:=c.2
 obtain⟨S',i,_,j,k⟩:=ew (R:=R) (t:=t) (u:=u) e f c d a.length 0 N (List.replicate (a.length+1) 0) 0 (by omega) (by omega) (Bq _) (by simp) (Hf _) (by omega) (by rw[Cm];simp[val])
 refine⟨S',i,j,fun K=>?_⟩
 unfold W2 M'
 rw[zn (by omega),v6 (by omega),ct,Int.toNat_natCast,Bx]
 exact k K
theorem o6 {N:Nat} {a b:List Nat} {n m:Nat} {t o t' o':Bool} (k:n=a.length) (l:m=b.length) (e:Ad a) (f:Ad b) (c:fit (a.length+b.length+1) N) :
  ∃ S',Ad S'∧val S'=val a+val b∧∀ K:Nat→LA→O R,NA N (Ab a) n t o (Ab b) m t' o' K=K (Ae (val a+val b)).length (Ab S'):=by
 subst k l
 have la:=(Au e).2
 have lb:=(Au f).2
 by_cases q:(Ae (val a)).length<(Ae (val b)).length
 ·obtain⟨S',i,d,j⟩:=wY (R:=R) (N:=N) (a:=Ae (val b)) (b:=Ae (val a)) (t:=o') (u:=o) (Aa _) (Aa _) (c.le (by omega)) (by omega)
  rw[Ac,Ac,Nat.add_comm] at d
  refine⟨S',i,d,fun K=>?_⟩
  rw[NB];unfold P'
  dsimp only
  rw[Bc rfl e (c.le (by omega)),Bc rfl f (c.le (by omega)),NG q,ct,j,Ac,Ac,Nat.add_comm (val b)]
 ·obtain⟨S',i,d,j⟩:=wY (R:=R) (N:=N) (a:=Ae (val a)) (b:=Ae (val b)) (t:=o) (u:=o') (Aa _) (Aa _) (c.le (by omega)) (by omega)
  rw[Ac,Ac] at d
  refine⟨S',i,d,fun K=>?_⟩
  rw[NB];unfold P'
  dsimp only
  rw[Bc rfl e (c.le (by omega)),Bc rfl f (c.le (by omega)),US (by omega),cf,j,Ac,Ac]
end
end Gx

namespace Gx
open Go Go.Proofs
section
variable {R:Type}
theorem HI {x y:Nat} (b:x<4294967296) (e:y≤4294967296):∃ d c:Nat,d<4294967296∧c≤1∧x+4294967296*c=d+y∧IntKind.wrap .u32 (IntKind.wrap .u64 ((x:Int) - (y:Int)))=(d:Int)∧Int.fdiv (IntKind.wrap .u64 ((x:Int) - (y:Int))) (2 ^ 63)=(c:Int):=by
 by_cases h:y≤x
 ·refine⟨x - y,0,by omega,by omega,by omega,?_,?_⟩
  ·rw[VQ (by omega) h,tB (by omega)]
  ·rw[VQ (by omega) h,zG,Nat.div_eq_of_lt (by omega)]
 ·refine⟨x+4294967296 - y,1,by omega,by omega,by omega,?_,?_⟩
  ·rw[wO (by omega) (by omega),MU];congr 1;omega
  ·rw[wO (by omega) (by omega),zG];congr 1;omega
theorem x_ {x c w:Nat} (b:x<4294967296) (d:c≤1) (e:w<4294967296):IntKind.wrap .u64 ((IntKind.wrap .u64 ((x:Int) - (c:Int))) - (w:Int))=IntKind.wrap .u64 ((x:Int) - ((c+w:Nat):Int)):=by
 rw[DI,DI,DI];omega
theorem ex {N:Nat} {a b:List Nat} {t u:Bool} (z:Ad a) (A:Ad b) (n:fit a.length N) (k:b.length≤a.length) (q:val b≤val a):∀ (m d f:Nat) (S:List Nat) (c:Nat),d+m=a.length→m<f→Ad S→S.length=a.length→uT S d→c≤1 →
  val S+val (b.take d)=val (a.take d)+4294967296 ^ d*c →
  ∃ S',Ad S'∧val S'=val a - val b∧∀ K:Nat→Bool→LA→O R,Kz N K (Ab b) b.length t a.length (Ab a) u f (c:Int) (a.length:Int) (d:Int) (Ab S)=K (Ae (val a - val b)).length true (Ab S')
 | 0,d,f+1,S,c,hd,_,hS,l,x,X,Y=>by
  have B:d=a.length:=by omega
  subst B
  rw[List.take_length,List.take_of_length_le k] at Y
  have C:=Bb hS
  rw[l] at C
  have D:c=0:=by
   rcases Nat.lt_or_ge 0 c with h | h
   ·exfalso
    have:c=1:=by omega
    subst this
    omega
   ·omega
  subst D
  have s:val S=val a - val b:=by omega
  refine⟨S,hS,s,fun K=>?_⟩
  rw[Kz];unfold Ru
  rw[US (Nat.le_refl _),cf,W7 l.symm hS (by rw[l];exact n),s]
 | m+1,d,f+1,S,c,hd,hfu,hS,l,x,X,Y=>by
  have h1:=n.1;have h2:=n.2
  have i:d<a.length:=by omega
  have ad:=At z i
  have step:∀ y g c':Nat,y=c+b.getD d 0→a[d]+4294967296*c'=g+y→val (S.set d g)+val (b.take (d+1))=val (a.take (d+1))+4294967296 ^ (d+1)*c':=by
   intro y g c' hy v
   rw[N7 x (by omega),Aq i,K0 b d,Nat.pow_succ,Nat.mul_assoc]
   have e:4294967296 ^ d*(a[d]+4294967296*c')=4294967296 ^ d*(g+(c+b.getD d 0)):=by rw[v,hy]
   rw[Nat.mul_add,Nat.mul_add,Nat.mul_add] at e
   omega
  by_cases j:d<b.length
  ·have bd:=At A j
   have v:b.getD d 0=b[d]:=by rw[List.getD_eq_getElem?_getD,List.getElem?_eq_getElem j];rfl
   obtain⟨g,c',F,G,I,L,M⟩:=HI ad (show c+b[d]≤4294967296 by omega)
   obtain⟨S',T,U,V⟩:=ex (t:=t) (u:=u) z A n k q m (d+1) f (S.set d g) c' (by omega) (by omega) (Br hS F d) (by simpa using l) (T9 x) G (step _ _ _ (by rw[v]) I)
   refine⟨S',T,U,fun K=>?_⟩
   rw[Kz];unfold Ru
   rw[NG i,ct,Ak i,ct,CG i,NG j,ct,Ak j,ct,CG j,ct,jc (by omega),ct,Ex (show a[d]<18446744073709551616 by omega),Ex (show b[d]<18446744073709551616 by omega),x_ ad X bd,L,M,DX,wS (by omega)]
   exact V K
  ·have v:b.getD d 0=0:=by rw[List.getD_eq_getElem?_getD,List.getElem?_eq_none (by omega)];rfl
   obtain⟨g,c',F,G,I,L,M⟩:=HI ad (show c≤4294967296 by omega)
   obtain⟨S',T,U,V⟩:=ex (t:=t) (u:=u) z A n k q m (d+1) f (S.set d g) c' (by omega) (by omega) (Br hS F d) (by simpa using l) (T9 x) G (step _ _ _ (by rw[v];rfl) I)
   refine⟨S',T,U,fun K=>?_⟩
   rw[Kz];unfold Ru
   rw[NG i,ct,Ak i,ct,CG i,US (by omega),cf,ct,jc (by omega),ct,Ex (show a[d]<18446744073709551616 by omega),L,M,DX,wS (by omega)]
   exact V K
theorem QS {N:Nat} {a b:List Nat} {n m:Nat} {t o t' o':Bool} (k:n=a.length) (l:m=b.length) (f:Ad a) (i:Ad b) (c:fit (a.length+b.length) N) (d:val b≤val a) :
  ∃ S',Ad S'∧val S'=val a - val b∧∀ K:Nat→Bool→LA→O R,Vs N (Ab a) n t o (Ab b) m t' o' K=K (Ae (val a - val b)).length true (Ab S'):=by
 subst k l
 have v:=c.1;have x:=c.2
 have la:=(Au f).2
 have lb:=(Au i).2
 have e:=An d
 obtain⟨S',q,j,s⟩:=ex (R:=R) (N:=N) (a:=Ae (val a)) (b:=Ae (val b)) (t:=o') (u:=o) (Aa _) (Aa _) (c.le (by omega)) e (by rw[Ac,Ac];exact d) (Ae (val a)).length 0 N (List.replicate (Ae (val a)).length 0) 0 (by omega) (by omega) (Bq _) (by simp) (Hf _) (by omega) (by rw[Cm];simp[val])
 rw[Ac,Ac] at j
 refine⟨S',q,j,fun K=>?_⟩
 rw[NC];unfold QB
 dsimp only
 rw[Bc rfl f (c.le (by omega)),Bc rfl i (c.le (by omega)),Qz rfl rfl (Aa _) (Aa _) (c.le (by omega)),Ac,Ac]
 have:decide (E2 (val a) (val b)<0)=false:=by unfold E2;split<;>(try split)<;>simp<;>omega
 rw[this,cf,v6 (by omega),ct,Bx]
 have:=s K
 rw[Ac,Ac] at this
 exact this
theorem wZ {N:Nat} {a b:List Nat} {n m:Nat} {t o t' o':Bool} {K:Nat→Bool→LA→O R} (i:n=a.length) (j:m=b.length) (e:Ad a) (f:Ad b) (c:fit (a.length+b.length) N) (d:val a<val b) :
  Vs N (Ab a) n t o (Ab b) m t' o' K=K 0 false []:=by
 subst i j
 have la:=(Au e).2
 have lb:=(Au f).2
 rw[NC];unfold QB
 dsimp only
 rw[Bc rfl e (c.le (by omega)),Bc rfl f (c.le (by omega)),Qz rfl rfl (Aa _) (Aa _) (c.le (by omega)),Ac,Ac]
 have:decide (E2 (val a) (val b)<0)=true:=by unfold E2;rw[if_pos d];rfl
 rw[this,ct]
end
end Gx

namespace Gx
open Go Go.Proofs
section
variable {R:Type}
theorem cx {n:Nat} (h:n≠0):(((n:Nat):Int)==(0:Int))=false:=by rw[beq_eq_false_iff_ne];omega
theorem zo {n:Nat} (h:n=0):(((n:Nat):Int)==(0:Int))=true:=by subst h;rfl
theorem rL:∀ {S:List Nat} {j:Nat} (h:j<S.length),4294967296 ^ j*S[j]≤val S
 | x::r,0,_=>by simp[val]
 | x::r,j+1,h=>by
  have:=rL (S:=r) (j:=j) (by simpa using h)
  simp only[List.getElem_cons_succ,val,Nat.pow_succ]
  rw[Nat.mul_comm (4294967296 ^ j),Nat.mul_assoc]
  omega
theorem w5 {S:List Nat} {k:Nat} (h:val S<4294967296 ^ k):uT S k:=fun j c d=>by
 have e:=rL c
 have f:4294967296 ^ k≤4294967296 ^ j:=Nat.pow_le_pow_right (by omega) d
 rcases Nat.eq_zero_or_pos S[j] with b | b
 ·exact b
 ·have:=Nat.le_mul_of_pos_right (4294967296 ^ j) b
  omega
theorem o7 {p q y s:Nat} (b:p<4294967296) (hq:q<4294967296) (c:y<4294967296) (d:s<4294967296):p+(q*y+s)<18446744073709551616:=by
 have:q*y≤4294967295*4294967295:=Nat.mul_le_mul (by omega) (by omega)
 omega
theorem w6 {N:Nat} {x y:List Nat} {c d:Bool} {f q J:Nat} (F:Ad y) (hq:q<4294967296) (I:f<x.length) (L:x.length+y.length≤1000000000000):∀ (m l b:Nat) (S:List Nat) (p:Nat) (v:Nat),l+m=y.length→m<b→Ad S→S.length=x.length+y.length→uT S (f+y.length)→p<4294967296 →
  val S+4294967296 ^ (f+l)*p=v+4294967296 ^ f*(q*val (y.take l)) →
  ∃ S',Ad S'∧S'.length=x.length+y.length∧val S'=v+4294967296 ^ f*(q*val y)∧∀ (n:Nat→Int→Int→LA→O R) (K:Nat→LA→O R),Nm N n K (Ab y) y.length d (x.length+y.length) (f:Int) (q:Int) (Ab x) x.length c (J:Int) b (p:Int) (y.length:Int) (l:Int) (Ab S)=n (x.length+y.length) J ((f+1:Nat):Int) (Ab S')
 | 0,l,b+1,S,p,v,M,_,hS,i,A,u,B=>by
  have C:l=y.length:=by omega
  subst C
  rw[List.take_length] at B
  refine⟨S.set (f+y.length) p,Br hS u _,by simpa using i,by rw[N7 A (by omega),B],fun n K=>?_⟩
  rw[Nm];unfold Y5
  rw[US (Nat.le_refl _),cf,wA (by omega),Ak (by omega),ct,jc (by omega),ct,tB u,DX,wS (by omega)]
 | m+1,l,b+1,S,p,v,M,T,hS,i,A,u,B=>by
  have k:l<y.length:=by omega
  have yl:=At F k
  have z:f+l<S.length:=by omega
  have sl:=At hS z
  have U:=o7 u hq yl sl
  have D:q*y[l]<18446744073709551616:=by omega
  generalize t:p+(q*y[l]+S[f+l])=s at *
  have G:=QR (v:=s%4294967296) z
  have key:val (S.set (f+l) (s%4294967296))+4294967296 ^ (f+(l+1))*(s/4294967296)=v+4294967296 ^ f*(q*val (y.take (l+1))):=by
   rw[Aq k,←Nat.add_assoc f l 1,Nat.pow_succ]
   have e:=H5 (4294967296 ^ (f+l)) s
   have e2:4294967296 ^ (f+l)*s=4294967296 ^ (f+l)*p+(4294967296 ^ (f+l)*(q*y[l])+4294967296 ^ (f+l)*S[f+l]):=by rw[←t,Nat.mul_add,Nat.mul_add]
   have e3:4294967296 ^ f*(q*(val (y.take l)+4294967296 ^ l*y[l]))=4294967296 ^ f*(q*val (y.take l))+4294967296 ^ (f+l)*(q*y[l]):=by
    rw[Nat.mul_add,Nat.mul_add,Nat.pow_add]
    congr 1
    rw[Nat.mul_assoc];congr 1
    rw[←Nat.mul_assoc,←Nat.mul_assoc,Nat.mul_comm q]
   omega
  obtain⟨S',V,X,Y,q4⟩:=w6 (N:=N) (x:=x) (c:=c) (d:=d) (J:=J) F hq I L m (l+1) b (S.set (f+l) (s%4294967296)) (s/4294967296) v (by omega) (by omega) (Br hS (by omega) _) (by simpa using i) (fun j hj hk=>by
   rw[List.getElem_set,if_neg (by omega)];exact A j (by simpa using hj) hk) (by omega) key
  refine⟨S',V,X,Y,fun n K=>?_⟩
  rw[Nm];unfold Y5
  rw[NG k,ct,Ak k,ct,CG k,wA (by omega),Ak (by omega),ct,QQ z,ct,jc z,ct,Ex (show q<18446744073709551616 by omega),Ex (show y[l]<18446744073709551616 by omega),Ex (show S[f+l]<18446744073709551616 by omega),dv,Ex D,Vr,Ex (by omega),Vr,t,Ex U,VR,MU,DX,wS (by omega)]
  exact q4 n K
theorem mR {N:Nat} {x y:List Nat} {c d:Bool} (s:Ad x) (t:Ad y) (i:fit (x.length+y.length) N):∀ (m f b:Nat) (S:List Nat),f+m=x.length→m<b→Ad S→S.length=x.length+y.length →
  val S=val (x.take f)*val y →
  ∃ S',Ad S'∧val S'=val x*val y∧∀ K:Nat→LA→O R,I4 N K (Ab y) y.length d (Ab x) x.length c b (x.length+y.length) (x.length:Int) (f:Int) (Ab S)=K (Ae (val x*val y)).length (Ab S')
 | 0,f,b+1,S,D,_,hS,j,n=>by
  have u:f=x.length:=by omega
  subst u
  rw[List.take_length] at n
  refine⟨S,hS,n,fun K=>?_⟩
  rw[I4];unfold Rs
  rw[US (Nat.le_refl _),cf,W7 j.symm hS (by rw[j];exact i),n]
 | m+1,f,b+1,S,D,F,hS,j,n=>by
  have U:=i.1;have V:=i.2
  have e:f<x.length:=by omega
  have xf:=At s e
  have C:=Bb (Bn s f)
  rw[List.length_take,Nat.min_eq_left (by omega)] at C
  have G:=Bb t
  have l:val S<4294967296 ^ (f+y.length):=by
   rw[n,Nat.pow_add];exact Nat.mul_lt_mul'' C G
  have k:val (x.take (f+1))*val y=val S+4294967296 ^ f*(x[f]*val y):=by
   rw[Aq e,Nat.add_mul,n,Nat.mul_assoc]
  by_cases v:x[f]=0
  ·obtain⟨S',z,A,B⟩:=mR (c:=c) (d:=d) s t i m (f+1) b S (by omega) (by omega) hS j (by rw[k,v];simp)
   refine⟨S',z,A,fun K=>?_⟩
   rw[I4];unfold Rs
   rw[NG e,ct,Ak e,ct,CG e,show(((x[f]:Nat):Int)==0)=true by simp[v],ct,wS (by omega)]
   exact B K
  ·obtain⟨S1,I,L,M,T⟩:=w6 (R:=R) (N:=N) (x:=x) (y:=y) (c:=c) (d:=d) (f:=f) (q:=x[f]) (J:=x.length) t xf e (by omega) y.length 0 N S 0 (val S) (by omega) (by omega) hS j (w5 l) (by omega) (by simp[val])
   obtain⟨S',z,A,B⟩:=mR (c:=c) (d:=d) s t i m (f+1) b S1 (by omega) (by omega) I L (by rw[M,k])
   refine⟨S',z,A,fun K=>?_⟩
   rw[I4];unfold Rs
   rw[NG e,ct,Ak e,ct,CG e,show(((x[f]:Nat):Int)==0)=false by simp;exact v,cf]
   have:=T (I4 N K (Ab y) y.length d (Ab x) x.length c b) K
   simp only[Int.natCast_zero] at this
   dsimp only
   rw[this]
   exact B K
theorem QT {N:Nat} {a b:List Nat} {n m:Nat} {t o t' o':Bool} (q:n=a.length) (s:m=b.length) (j:Ad a) (k:Ad b) (e:fit (a.length+b.length) N) :
  ∃ S',Ad S'∧val S'=val a*val b∧∀ K:Nat→LA→O R,Y6 N (Ab a) n t o (Ab b) m t' o' K=K (Ae (val a*val b)).length (Ab S'):=by
 subst q s
 have z:=e.1;have A:=e.2
 have la:=(Au j).2
 have lb:=(Au k).2
 by_cases f:val a=0
 ·refine⟨[],Nh,by rw[f];simp[val],fun K=>?_⟩
  rw[Y7];unfold HG
  dsimp only
  rw[Bc rfl j (e.le (by omega)),Bc rfl k (e.le (by omega)),f,Nat.zero_mul,Bt];rfl
 ·by_cases i:val b=0
  ·refine⟨[],Nh,by rw[i];simp[val],fun K=>?_⟩
   rw[Y7];unfold HG
   dsimp only
   rw[Bc rfl j (e.le (by omega)),Bc rfl k (e.le (by omega)),i,Nat.mul_zero,Bt]
   cases ((((Ae (val a)).length:Nat):Int)==0)<;>rfl
  ·obtain⟨S',u,l,v⟩:=mR (R:=R) (N:=N) (x:=Ae (val a)) (y:=Ae (val b)) (c:=o) (d:=o') (Aa _) (Aa _) (e.le (by omega)) (Ae (val a)).length 0 N (List.replicate ((Ae (val a)).length+(Ae (val b)).length) 0) (by omega) (by omega) (Bq _) (by simp) (by rw[Cm];simp[val])
   rw[Ac,Ac] at l
   refine⟨S',u,l,fun K=>?_⟩
   rw[Y7];unfold HG
   dsimp only
   have n1:(Ae (val a)).length≠0:=fun h=>f (A0.1 h)
   have n2:(Ae (val b)).length≠0:=fun h=>i (A0.1 h)
   rw[Bc rfl j (e.le (by omega)),Bc rfl k (e.le (by omega)),cx n1,show((false:Bool)==false)=true by rfl,ct,zm,cx n2,cf]
   unfold HF M_
   rw[wA (by omega),v6 (by omega),ct,Int.toNat_natCast,Bx]
   have:=v K
   rw[Ac,Ac] at this
   exact this
end
end Gx

namespace Gx
open Go Go.Proofs
section
variable {R:Type}
theorem QU {v:Nat} (h:(Ae v).length≤2):v<18446744073709551616:=by
 have:=Bb (Aa v)
 rw[Ac] at this
 have b:4294967296 ^ (Ae v).length≤4294967296 ^ 2:=Nat.pow_le_pow_right (by omega) h
 omega
theorem Zd {v:Nat} (h:v<18446744073709551616):(Ae v).length≤2:=Bj (by simpa using h)
theorem W9 {N:Nat} {l:List Nat} {n:Nat} {t o:Bool} {K:Int→O R} (c:n=l.length) (b:Ad l) (d:l.length≤2) (hN:4≤N):Kc N (Ab l) n t o K=K (val l:Int):=by
 subst c
 obtain⟨M,rfl⟩:∃ M,N=M+4:=⟨N - 4,by omega⟩
 rw[YW];unfold QG
 match l,b,d with
 | [],_,_ =>
  dsimp only
  rw[Fd];unfold F4
  simp[val]
 | [x],b,_ =>
  have f:=(B6.1 b).1
  dsimp only
  rw[Fd];unfold F4
  simp only[List.length_cons,List.length_nil,Int.toNat_zero,Nat.zero_mul,List.drop_zero,Ni,Rp]
  rw[show decide ((0:Int)<((0+1:Nat):Int))=true by decide,ct,show Ao 0 (0+1)=true by decide,ct,show IntKind.wrap .i64 ((32:Int)*0)=0 by decide,show decide ((0:Int)<0)=false by decide,cf]
  rw[Fd];unfold F4
  rw[show IntKind.wrap .i64 ((0:Int)+1)=1 by decide,show decide ((1:Int)<((0+1:Nat):Int))=false by decide,cf]
  have e:IntKind.wrap .u64 ((IntKind.wrap .u64 (x:Int))*2 ^ (min (Int.toNat 0) 64))=(x:Int):=by rw[Ex (by omega)];simp;exact Ex (by omega)
  rw[e,show(0:Int)=((0:Nat):Int) by rfl,rD (by omega) (by omega)]
  simp[val]
 | [x,y],b,_ =>
  have f:=(B6.1 b).1
  have j:=(B6.1 (B6.1 b).2).1
  dsimp only
  rw[Fd];unfold F4
  simp only[List.length_cons,List.length_nil,Int.toNat_zero,Nat.zero_mul,List.drop_zero,Ni,Rp]
  rw[show decide ((0:Int)<((0+1+1:Nat):Int))=true by decide,ct,show Ao 0 (0+1+1)=true by decide,ct,show IntKind.wrap .i64 ((32:Int)*0)=0 by decide,show decide ((0:Int)<0)=false by decide,cf]
  rw[Fd];unfold F4
  rw[show IntKind.wrap .i64 ((0:Int)+1)=1 by decide,show decide ((1:Int)<((0+1+1:Nat):Int))=true by decide,ct,show Ao 1 (0+1+1)=true by decide,ct,show IntKind.wrap .i64 ((32:Int)*1)=32 by decide,show decide ((32:Int)<0)=false by decide]
  simp only[show Int.toNat 1*1=1 by rfl,List.drop_succ_cons,List.drop_zero,Rp,cf]
  rw[Fd];unfold F4
  rw[show IntKind.wrap .i64 ((1:Int)+1)=2 by decide,show decide ((2:Int)<((0+1+1:Nat):Int))=false by decide,cf]
  have e:IntKind.wrap .u64 ((IntKind.wrap .u64 (x:Int))*2 ^ (min (Int.toNat 0) 64))=(x:Int):=by rw[Ex (by omega)];simp;exact Ex (by omega)
  have i:IntKind.wrap .u64 ((IntKind.wrap .u64 (y:Int))*2 ^ (min (Int.toNat 32) 64))=((y*2 ^ 32:Nat):Int):=by
   rw[Ex (by omega),show(2:Int) ^ (min (Int.toNat 32) 64)=((2 ^ 32:Nat):Int) by rfl,dv,Ex (by omega)]
  rw[e,i,show(0:Int)=((0:Nat):Int) by rfl,rD (by omega) (by omega),rD (by simp;omega) (by omega),Nat.zero_or,Nat.or_comm,VS (by omega)]
  congr 1;simp only[val];omega
theorem Gp {N:Nat} {v:Nat} (e:v<18446744073709551616) (hN:4≤N):∃ S,Ad S∧val S=v∧∀ K:Nat→LA→O R,Ba N (v:Int) K=K (Ae v).length (Ab S):=by
 have d:Ad [v%4294967296,v/4294967296]:=B6.2 ⟨by omega,B6.2 ⟨by omega,Nh⟩⟩
 have b:val [v%4294967296,v/4294967296]=v:=by simp[val];omega
 refine⟨_,d,b,fun K=>?_⟩
 rw[T2];unfold Rr
 rw[MU,VR,tB (show v/4294967296<4294967296 by omega)]
 have:=ep (R:=R) (N:=N) (l:=[v%4294967296,v/4294967296]) (K:=fun c=>K c (Ab [v%4294967296,v/4294967296])) d (by simp) 2 N (by simp) (by omega)
 rw[show [v%4294967296,v/4294967296].take 2=[v%4294967296,v/4294967296] by rfl,b] at this
 rw[MY];unfold PT
 exact this
theorem F6 {N:Nat} {l:List Nat} {n:Nat} {t o:Bool} {K:Int→Bool→O R} (c:n=l.length) (d:Ad l) (b:fit l.length N):Ns N (Ab l) n t o K=if val l<18446744073709551616 then K (val l:Int) true else K 0 false:=by
 have f:=b.1
 rw[IZ];unfold NF
 rw[Bc c d b]
 by_cases h:val l<18446744073709551616
 ·have:=Zd h
  rw[if_pos h,show decide ((((Ae (val l)).length:Nat):Int)>2)=false by simp;omega,cf,W9 rfl (Aa _) this (by omega),Ac]
 ·have:¬ (Ae (val l)).length≤2:=fun e=>h (QU e)
  rw[if_neg h,show decide ((((Ae (val l)).length:Nat):Int)>2)=true by simp;omega,ct]
theorem Q3 {N:Nat} {l:List Nat} {n:Nat} {t o:Bool} {K:Nat→LA→O R} (d:n=l.length) (c:Ad l) (b:fit l.length N):Ls N (Ab l) n t o K=K (Ae (val l)).length (Ab (Ae (val l))):=by
 have e:=b.1;have f:=b.2
 have:=(Au c).2
 rw[YS];unfold eE
 rw[Bc d c b,v6 (by omega),ct,T1,Bool.or_true,ct]
 congr 1
 unfold H0
 rw[Nat.min_self,Nat.mul_one,List.take_zero,List.nil_append,List.take_of_length_le (by rw[A9];exact Nat.le_refl _),List.drop_eq_nil_of_le (by simp[A9]),List.append_nil]
end
end Gx
