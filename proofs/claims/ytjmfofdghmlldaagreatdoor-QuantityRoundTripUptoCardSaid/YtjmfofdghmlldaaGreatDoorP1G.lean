/- A part of the proof: what it holds is said by each theorem. -/
import Derived.ProofKit
import Derived.OpenShut
import Derived.ChangeOld
import Derived.Below
import Derived.Lib.LaidTab
import Derived.JoinedOf
import Derived.Test.YtjmfofdghmlldaaGreatDoorCards
import Derived.Test.YtjmfofdghmlldaaGreatDoorTie
import Derived.Deep.DeepHandedRow
import Derived.Deep.DeepWitnessRowRef
import Derived.LaidMore
import Derived.Shelf.Vars
import Derived.SevenTiedAt
import Derived.IntWalk
import Derived.Test.YtjmfofdghmlldaaGreatDoorProg
import Derived.Test.YtjmfofdghmlldaaGreatDoorRows
import Derived.ChangeSame
import Derived.Lib.ItoaNum
import Derived.Shelf.Strings.Repeat
import Derived.Shelf.Strings.Split
import Derived.Shelf.Strings.Cut
import Derived.Shelf.Strconv.AtoiAll
import Derived.Shelf.Strconv.Itoa3
import Derived.Shelf.LaysM
import Derived.Shelf.LaysC
import Derived.Lib.RepeatB
import Derived.Test.YtjmfofdghmlldaaGreatDoorP0G
set_option linter.unusedVariables false
set_option linter.defProp false
set_option linter.unusedSimpArgs false
namespace Gx
open Go
theorem Hk:∀ {l:List Nat} {b:Nat},Fx l b=true↔b ∈ l
  | [],b=>by simp[Fx]
  | i::r,b=>by
    rw[Fx]
    cases c:Nat.beq i b with
    | true=>have:=Nat.eq_of_beq_eq_true c;subst this;simp
    | false => have := P7 c; simp only [cond_false, List.mem_cons]; rw [Hk]; constructor
               · exact fun h=>.inr h
               · rintro(h | h)
                 · exact absurd h.symm this
                 · exact h
theorem Nt:∀ {l:List Nat},EJ l=true→l.Nodup
 | [],_=>List.nodup_nil
 | i::r,h=>by
  rw[EJ] at h;simp at h
  refine List.nodup_cons.2 ⟨fun b=>?_,Nt h.2⟩
  rw[Hk.2 b] at h;simp at h
theorem ZT {g:A0} {ids:List Nat}:∀ {l:List Nat},g8 g ids l=true→∀ b ∈ l,∀ x,D3 g b=some x→b ∈ ids
 | [],_,b,c,_,_=>by simp at c
 | i::r,h,b,c,x,f=>by
  rw[g8] at h;simp at h
  rcases List.mem_cons.1 c with e | c
  ·subst e
   rcases h.1 with d | d
   ·exact Hk.1 d
   ·rw[f] at d;simp at d
  ·exact ZT h.2 b c x f
theorem tY:∀ {l:List Nat},zB l=true→∀ b ∈ l,Fc≤b→Hj b<100000
 | [],_,b,c,_=>by simp at c
 | i::r,h,b,c,d=>by
  rw[zB] at h;simp at h
  rcases List.mem_cons.1 c with e | c
  ·subst e
   have:Nat.ble Fc b=true:=by simpa using d
   rw[this] at h;simpa using h.1
  ·exact tY h.2 b c d
theorem R5 (g:A0):∀ c:LA,(Gz g c).length=c.length
 | []=>rfl
 | x::r=>by rw[Gz,List.length_cons,List.length_cons,R5 g r]
section
variable {R:Type} {r:R} {Z:Start} {nt:Nat} {J J':Bool→Nat→Prop} {β β':Bl} {st:St} {h h':Ah} {a:Act} {w w':World} {ids:List Nat}
def Io (g:A0) (x:Blk):Blk:={ x with cells:=cond x.pure x.cells (Gz g x.cells) }
theorem QE {g:A0}:∀ {ids:List Nat},(ids.map Hj).Nodup→∀ c y,Ak (Rz g ids) c=some y→∃ b x,b ∈ ids∧Hj b=c∧D3 g b=some x∧y=Io g x
 | [],_,c,y,d=>by simp[Rz,Ak] at d
 | b::r,f,c,y,d=>by
  rw[List.map_cons,List.nodup_cons] at f
  rw[Rz] at d
  split at d
  ·rename_i x n
   rw[Ae] at d
   by_cases e:c=Hj b
   ·rw[if_pos e] at d;simp at d
    exact⟨b,x,by simp,e.symm,n,d.symm⟩
   ·rw[if_neg e] at d
    obtain⟨i,x',j,k,l,m⟩:=QE f.2 c y d
    exact⟨i,x',by simp[j],k,l,m⟩
  ·obtain⟨i,x',j,k,l,m⟩:=QE f.2 c y d
   exact⟨i,x',by simp[j],k,l,m⟩
theorem R6 {g:A0}:∀ {ids:List Nat},(ids.map Hj).Nodup→∀ b x,b ∈ ids→D3 g b=some x→Ak (Rz g ids) (Hj b)=some (Io g x)
 | [],_,b,x,d,_=>by simp at d
 | j::r,c,b,x,d,f=>by
  rw[List.map_cons,List.nodup_cons] at c
  rw[Rz]
  by_cases e:b=j
  ·subst e
   rw[f]
   simp only
   rw[Ae,if_pos rfl];rfl
  ·have i:b ∈ r:=by simpa[e] using d
   have ne:Hj b≠Hj j:=fun h=>c.1 (by rw[←h];exact List.mem_map.2 ⟨b,i,rfl⟩)
   split
   ·rw[Ae,if_neg ne];exact R6 c.2 b x i f
   ·exact R6 c.2 b x i f
def gu (ids:List Nat) (c:Nat):Option Nat:=ids.find? fun b=>Nat.beq (Hj b) c
theorem Hw (c:(ids.map Hj).Nodup) {b:Nat} (d:b ∈ ids):gu ids (Hj b)=some b:=by
 induction ids with
 | nil=>simp at d
 | cons i r f =>
  rw[List.map_cons,List.nodup_cons] at c
  unfold gu at f ⊢
  rw[List.find?_cons]
  by_cases e:b=i
  ·subst e;simp
  ·have j:b ∈ r:=by simpa[e] using d
   have ne:Hj i≠Hj b:=fun h=>c.1 (by rw[h];exact List.mem_map.2 ⟨b,j,rfl⟩)
   rw[EC ne];exact f c.2 j
def Aga (g:A0) (ids:List Nat) (l:List Nat):Prop:=∀ b ∈ l,∀ x,D3 g b=some x→b ∈ ids
theorem zm {b:Nat}:D3 (Ak h) b=(Ak h b).bind fun x=>cond x.dead none (some x):=rfl
theorem QF {b:Nat} {x y:Blk} (e:Ak h b=some x) (c:D3 (Ak h) b=some y):y=x∧x.dead=false:=by
 rw[zm,e] at c
 cases d:x.dead with
 | true=>simp[d] at c
 | false=>simp[d] at c;exact⟨c.symm,rfl⟩
mutual
theorem Rep.clean (hn:(ids.map Hj).Nodup):∀ {x:AV} {v:Value},Aga (Ak h) ids (Ew x)→Rep J β h w x v →
  Rep J (fun c=>(gu ids c).bind β) (Rz (Ak h) ids) w (Ry (Ak h) x) v
 | .own b off n,v,hm,hr=>by
  rw[Rep] at hr
  obtain⟨x,A,cap,⟨hx,hmp⟩,h1,h2,h3⟩:=hr
  rw[Ry]
  cases hv:D3 (Ak h) b with
  | none=>simp only;rw[Rep];trivial
  | some y =>
   obtain⟨rfl,hd⟩:=QF hx hv
   have hb:=hm b (by simp[Ew]) _ hv
   simp only
   rw[Rep]
   refine⟨Io (Ak h) y,A,cap,⟨R6 hn b y hb hv,hmp⟩,h1,h2,?_⟩
   rcases h3 with h3 | ⟨k,o,h4,h5⟩
   ·exact .inl h3
   ·refine .inr ⟨k,o,h4,?_⟩
    rcases h5 with h5 | ⟨h5,h6,h7⟩
    ·simp[hd] at h5
    ·refine .inr ⟨by rw[Hw hn hb];exact h5,h6,?_⟩
     have:(Io (Ak h) y).cells.length=y.cells.length:=by
      unfold Io;cases y.pure
      ·simp;exact R5 _ _
      ·rfl
     rw[this];exact h7
 | .optr b off,v,hm,hr=>by
  rw[Rep] at hr
  obtain⟨x,k,o,⟨hx,hmp⟩,h1,h2⟩:=hr
  rw[Ry]
  cases hv:D3 (Ak h) b with
  | none=>simp only;rw[Rep];trivial
  | some y =>
   obtain⟨rfl,hd⟩:=QF hx hv
   have hb:=hm b (by simp[Ew]) _ hv
   simp only
   rw[Rep]
   refine⟨Io (Ak h) y,k,o,⟨R6 hn b y hb hv,hmp⟩,h1,?_⟩
   rcases h2 with h2 | h2
   ·simp[hd] at h2
   ·exact .inr (by rw[Hw hn hb];exact h2)
 | .omap b,v,hm,hr=>by
  rw[Rep] at hr
  obtain⟨x,k,⟨hx,hmp⟩,h2⟩:=hr
  rw[Ry]
  cases hv:D3 (Ak h) b with
  | none=>simp only;rw[Rep];trivial
  | some y =>
   obtain⟨rfl,hd⟩:=QF hx hv
   have hb:=hm b (by simp[Ew]) _ hv
   simp only
   rw[Rep]
   refine⟨Io (Ak h) y,k,⟨R6 hn b y hb hv,hmp⟩,?_⟩
   rcases h2 with h2 | h2
   ·simp[hd] at h2
   ·exact .inr (by rw[Hw hn hb];exact h2)
 | .agg c,v,hm,hr=>by
  rw[Rep] at hr
  obtain⟨cs,h1,h2⟩:=hr
  rw[Ry,Rep]
  exact⟨cs,h1,Reps.clean hn (by simpa[Ew] using hm) h2⟩
 | .tup c,v,hm,hr=>by
  rw[Rep] at hr
  obtain⟨cs,h1,h2⟩:=hr
  rw[Ry,Rep]
  exact⟨cs,h1,Reps.clean hn (by simpa[Ew] using hm) h2⟩
 | .fn f c,v,hm,hr=>by
  rw[Rep] at hr
  obtain⟨cs,h1,h2⟩:=hr
  rw[Ry,Rep]
  exact⟨cs,h1,Reps.clean hn (by simpa[Ew] using hm) h2⟩
 | .pagg c o,v,hm,hr=>by show Rep J _ _ w (.pagg c o) v;rw[Rep] at hr ⊢;exact hr
 | .undef,v,hm,hr=>by show Rep J _ _ w (.undef) v;rw[Rep] at hr ⊢;exact hr
 | .imm c n sz t o,v,hm,hr=>by show Rep J _ _ w (.imm c n sz t o) v;rw[Rep] at hr ⊢;exact hr
 | .iptr c o,v,hm,hr=>by show Rep J _ _ w (.iptr c o) v;rw[Rep] at hr ⊢;exact hr
 | .int k n,v,hm,hr=>by show Rep J _ _ w (.int k n) v;rw[Rep] at hr ⊢;exact hr
 | .bool b,v,hm,hr=>by show Rep J _ _ w (.bool b) v;rw[Rep] at hr ⊢;exact hr
 | .str s,v,hm,hr=>by show Rep J _ _ w (.str s) v;rw[Rep] at hr ⊢;exact hr
 | .nsl,v,hm,hr=>by show Rep J _ _ w (.nsl) v;rw[Rep] at hr ⊢;exact hr
 | .nilptr,v,hm,hr=>by show Rep J _ _ w (.nilptr) v;rw[Rep] at hr ⊢;exact hr
 | .nilfn,v,hm,hr=>by show Rep J _ _ w (.nilfn) v;rw[Rep] at hr ⊢;exact hr
theorem Reps.clean (hn:(ids.map Hj).Nodup):∀ {c:List AV} {cs:List Value},Aga (Ak h) ids (Fw c)→Reps J β h w c cs →
  Reps J (fun c=>(gu ids c).bind β) (Rz (Ak h) ids) w (Gz (Ak h) c) cs
 | [],cs,hm,hr=>by rw[Reps] at hr;rw[Gz,Reps];exact hr
 | x::r,cs,hm,hr=>by
  rw[Reps] at hr
  obtain⟨u,us,h1,h2,h3⟩:=hr
  rw[Gz,Reps]
  exact⟨u,us,h1,Rep.clean hn (fun b hb=>hm b (by simp[Fw,hb])) h2,Reps.clean hn (fun b hb=>hm b (by simp[Fw,hb])) h3⟩
end
theorem Ud {g:A0} {K:List Nat}:∀ {s:Ev} {i:Nat},D2 (ZL g K s) i=if Fx K i=true then Ry g (D2 s i) else .undef
 | [],i=>by
  simp only[ZL,D2]
  show AV.undef=if Fx K i=true then AV.undef else AV.undef
  split<;>rfl
 | (t,v)::r,i=>by
  rw[ZL,D2]
  cases c:Fx K t with
  | true =>
   simp only[cond_true,D2]
   cases b:Nat.beq t i with
   | true =>
    have:=Nat.eq_of_beq_eq_true b;subst this
    simp[c]
   | false=>simp only[cond_false];exact Ud
  | false =>
   simp only[cond_false]
   rw[Ud]
   cases b:Nat.beq t i with
   | true =>
    have:=Nat.eq_of_beq_eq_true b;subst this
    simp[c]
   | false=>rfl
theorem gv {K:List Nat}:∀ {s:Ev} {i:Nat},Fx K i=true→∀ b ∈ Ew (D2 s i),b ∈ gZ K s
 | [],i,_,b,c=>by simp[D2,Ew] at c
 | (t,v)::r,i,e,b,c=>by
  rw[D2] at c
  rw[gZ]
  cases d:Nat.beq t i with
  | true =>
   have:=Nat.eq_of_beq_eq_true d;subst this
   rw[d] at c
   rw[e];simp at c ⊢;exact .inl c
  | false =>
   rw[d] at c
   have:=gv e b c
   cases Fx K t
   ·exact this
   ·simp;exact .inr this
theorem ZU {g:A0}:∀ {ids:List Nat} {b:Nat} {x:Blk},b ∈ ids→g b=some x→x.pure=false→∀ c ∈ Fw x.cells,c ∈ Hi g ids
 | [],b,x,d,_,_,_,_=>by simp at d
 | i::r,b,x,d,f,j,c,k=>by
  rw[Hi]
  by_cases e:b=i
  ·subst e;rw[f];simp only[j,cond_false];exact List.mem_append.2 (.inl k)
  ·exact List.mem_append.2 (.inr (ZU (by simpa[e] using d) f j c k))
theorem ZV:∀ {c:LA} {j:Nat} {x:AV},c[j]?=some x→∀ b ∈ Ew x,b ∈ Fw c
 | [],j,x,d,_,_=>by simp at d
 | y::r,j,x,d,b,e=>by
  rw[Fw]
  cases j with
  | zero=>simp at d;subst d;exact List.mem_append.2 (.inl e)
  | succ j=>exact List.mem_append.2 (.inr (ZV (by simpa using d) b e))
theorem cE {g:A0}:∀ {c:LA} {j:Nat} {y:AV},(Gz g c)[j]?=some y→∃ x,c[j]?=some x∧y=Ry g x
 | [],j,y,b=>by simp[Gz] at b
 | x::r,j,y,b=>by
  rw[Gz] at b
  cases j with
  | zero=>simp at b;exact⟨x,by simp,b.symm⟩
  | succ j=>obtain⟨x',d,e⟩:=cE (c:=r) (j:=j) (by simpa using b);exact⟨x',by simpa using d,e⟩
theorem zn {b:Nat} (c:b<Fc):Hj b=b:=by
 unfold Hj
 have:Nat.ble Fc b=false:=by
  cases h:Nat.ble Fc b with
  | false=>rfl
  | true=>have:=Nat.le_of_ble_eq_true h;omega
 rw[this];rfl
theorem tZ {K roots:List Nat} {st':St} (I:Inv Z nt J β st a w) (hh:clean K roots st=some st'):∃ β',Inv Z nt J β' st' a w:=by
 unfold clean at hh
 obtain⟨hc,h1⟩:_∧_:=uc hh
 simp only[Bool.and_eq_true] at hc
 obtain⟨c1,c2,c3,c4⟩:=hc
 generalize hids:Ua (Ak st.h) (Rx (Ak st.h) (gZ K st.s++roots))=ids at *
 simp at h1
 have t:=Nt c1
 have blk:∀ c y,Ak (Rz (Ak st.h) ids) c=some y→∃ b x,b ∈ ids∧Hj b=c∧Ak st.h b=some x∧x.dead=false∧y=Io (Ak st.h) x:=by
  intro c y m
  obtain⟨b,x,z,A,D,F⟩:=QE t c y m
  have e:Ak st.h b=some x∧x.dead=false:=Cr (fun _ _ h=>h) D
  exact⟨b,x,z,A,e.1,e.2,F⟩
 have n:∀ x:Blk,(Io (Ak st.h) x).cells.length=x.cells.length:=fun x=>by
  unfold Io;cases x.pure
  ·simp;exact R5 _ _
  ·rfl
 refine⟨fun c=>(gu ids c).bind β,?_⟩
 subst h1
 refine⟨⟨I.sim.jlt,I.sim.jft,I.sim.gl,fun c y m T X=>?_,fun c y m T X=>by
   obtain⟨b,x,f,rfl,e,d,rfl⟩:=blk c y m
   obtain⟨z,A,k,ob,D,F,U,Y⟩:=I.sim.mblk b x e d X
   have:(Io (Ak st.h) x).cells=x.cells:=by unfold Io;rw[z];rfl
   exact⟨z,A,k,ob,by simp only[Hw t f,Option.bind_some];exact D,F,by rw[ObjIs,show(Io (Ak st.h) x).sz=x.sz from rfl,this];exact U,Y⟩,?_⟩,⟨fun i v hv=>?_,fun i hi=>?_⟩,I.tmps,I.defers,I.os,I.tape,I.output,I.size,I.frame,?_,I.jsub,I.jup,I.sizes,I.zlt,I.zge,?_⟩
 ·obtain⟨b,x,f,rfl,e,d,rfl⟩:=blk c y m
  rcases I.sim.blk b x e d X with⟨z,A⟩ | ⟨k,o,cs,ty,fr,z,A,D,F,U,Y,g7⟩
  ·refine .inl ⟨by simp only[Hw t f,Option.bind_some];exact z,?_⟩
   have:=n x;rw[A] at this;simpa using this
  ·refine .inr ⟨k,o,cs,ty,fr,by simp only[Hw t f,Option.bind_some];exact z,A,D,by rw[n];exact F,⟨fun hp=>?_,fun hp j q hj=>?_⟩,Y,g7⟩
   ·have l:x.pure=true:=hp
    have:(Io (Ak st.h) x).cells=x.cells:=by unfold Io;rw[l];rfl
    rw[this];exact U.1 l
   ·have l:x.pure=false:=hp
    have:(Io (Ak st.h) x).cells=Gz (Ak st.h) x.cells:=by unfold Io;rw[l];rfl
    rw[this] at hj
    obtain⟨q',hq,rfl⟩:=cE hj
    obtain⟨u,hu,hr,ho⟩:=U.2 l j q' hq
    exact⟨u,hu,Rep.clean t (fun G B x' C=>ZT c3 G (ZU f e l G (ZV hq G B)) x' C) hr,ho⟩
 ·intro c c' y y' k o o' m hy' T hd' hs L M
  obtain⟨b,x,f,rfl,e,d,rfl⟩:=blk c y m
  obtain⟨G,x',B,rfl,C,O,rfl⟩:=blk c' y' hy'
  simp only[Hw t f,Option.bind_some] at L
  simp only[Hw t B,Option.bind_some] at M
  rw[I.sim.sep b G x x' k o o' e C d O hs L M]
 ·rw[Ud]
  split
  ·rename_i hk
   exact Rep.clean t (fun b f x e=>ZT c2 b (gv hk b f) x e) (I.ss.slot i v hv)
  ·rw[Rep];trivial
 ·rw[Ud,I.ss.out i hi]
  split
  ·rfl
  ·rfl
 ·rintro k ⟨c,y,o,m,T,hs,L⟩ hk
  obtain⟨b,x,f,rfl,e,d,rfl⟩:=blk c y m
  simp only[Hw t f,Option.bind_some] at L
  exact I.wr k ⟨b,x,o,e,d,hs,L⟩ hk
 ·intro c x0 y V m T
  obtain⟨b,x,f,rfl,e,d,rfl⟩:=blk c y m
  have hlt:=I.zlt _ _ V
  have hge:=I.zge _ _ V
  have S:Hj b=b:=by
   by_cases hnb:Fc≤b
   ·have:=tY c4 b f hnb;omega
   ·exact zn (by omega)
  rw[S] at V
  obtain⟨⟨e1,em⟩,e2,e3,e4⟩:=I.outs b x0 x V e d
  refine⟨⟨?_,em⟩,e2,by rw[n];exact e3,e4⟩
  simp only[Hw t f,Option.bind_some];rw[S];exact e1
end
end Gx

namespace Gx
open Go
section
variable {R:Type}
theorem Am {α β:Type} (b:Bool) (x y:Option α) (f:α→Option β):(cond b x y).bind f=cond b (x.bind f) (y.bind f):=by cases b<;>rfl
theorem Zg {R':Type} (P:Program) (t:TypeId) (c:LA) (o:Bool) (k:Bool→Option R') (f:R'→O R):(Qk P t c o k).bind f=Qk P t c o fun o=>(k o).bind f:=by
 unfold Qk;simp only[Am,Option.bind_none]
theorem Nu (P:Program) (t:TypeId) (c:LA) (org:Bool) (k:AV→O R):EF P t c org k=(EF P t c org some).bind k:=by
 unfold EF
 split<;>simp[Option.bind_assoc,Am,Zg]<;>rfl
theorem wz (P:Program) (t:TypeId) (c:LA) (k:AV→O R):bq P t c k=(bq P t c some).bind k:=by
 unfold bq
 split<;>simp[Option.bind_assoc,Am]
theorem cF (n:Nat) (k:AV→O R):∀ (c:LA) (i:Nat),Y1 n k c i=(Y1 n some c i).bind k
 | [],_=>rfl
 | v::r,i=>by rw[Y1,Y1,Am,cF n k r (i+1)];rfl
theorem cG (P:Program) (t:TypeId) (c:LA) (off:Nat) (k:AV→O R):EG P t c off k=(EG P t c off some).bind k:=by
 unfold EG
 split
 ·simp[Option.bind_assoc,Am]
 ·simp[Option.bind_assoc,Am]
 ·exact cF ..
 ·rfl
theorem Zh (P:Program) (g:A0) (t:TypeId) (p:AV) (k:AV→O R):gS P g t p k=(gS P g t p some).bind k:=by
 unfold gS
 split
 ·exact Nu ..
 ·rw[Option.bind_assoc]
  congr 1;funext x
  rw[Am,←Nu,←cG]
 ·rfl
theorem BL (P:Program) (t:TypeId) (x i:AV) (k:AV→O R):Nl P t x i k=(Nl P t x i some).bind k:=by
 unfold Nl
 split<;>simp[Option.bind_assoc,Am]
theorem BM (P:Program) (t:TypeId) (x:AV) (f:Nat) (k:AV→O R):Nm P t x f k=(Nm P t x f some).bind k:=by
 unfold Nm
 simp only[Option.bind_assoc,Am]
 congr 1;funext p;congr 1;funext n;congr 1
 split<;>rfl
theorem cH (P:Program) (t:TypeId) (x:AV) (f:Nat) (k:AV→O R):ZA P t x f k=(ZA P t x f some).bind k:=by
 unfold ZA
 rw[Option.bind_assoc]
 congr 1;funext p
 split
 ·exact Nu ..
 ·exact wz ..
 ·rfl
theorem cI (P:Program) (t:TypeId) (x i:AV) (k:AV→O R):ZB P t x i k=(ZB P t x i some).bind k:=by
 unfold ZB
 split
 ·simp[Am]
 ·simp only[Option.bind_assoc,Am,←Nu];rfl
 ·simp only[Option.bind_assoc,Am,←cG];rfl
 ·rfl
theorem Qp {α:Type} (lo b mx:Option AV) (n:Nat) (f:Nat→Nat→α) (k:α→O R):(Ql lo b mx n fun l h=>k (f l h))=(Ql lo b mx n fun l h=>some (f l h)).bind k:=by
 unfold Ql
 simp[Option.bind_assoc,Am]
theorem cJ (P:Program) (g:A0) (t:TypeId) (x:AV) (lo b mx:Option AV) (k:AV→O R):ZC P g t x lo b mx k=(ZC P g t x lo b mx some).bind k:=by
 unfold ZC
 split
 ·rw[Am,←Qp];rfl
 ·rw[Option.bind_assoc];congr 1;funext _;exact Qp lo b mx 0 (fun _ _=>AV.nsl) k
 ·rw[Option.bind_assoc];congr 1;funext _;rw[Am,←Qp];rfl
 ·rw[Option.bind_assoc];congr 1;funext _;rw[Option.bind_assoc];congr 1;funext _;rw[Am,←Qp];rfl
 ·rfl
theorem zo (P:Program) (t:TypeId) (op:BinOp) (x y:AV) (k:AV→O R):zb P t op x y k=(zb P t op x y some).bind k:=by
 unfold zb
 split
 ·split<;>simp[Am]
 ·split<;>simp[Am]
 ·split<;>simp[Am]
 ·rfl
def pr (v:AV) (u:C9):Option (AV×C9):=some (v,u)
theorem t6 (P:Program) (g:A0) (t:TypeId) (p v:AV) (k:AV→C9→O R):ZD P g t p v k=(ZD P g t p v pr).bind fun q=>k q.1 q.2:=by
 unfold ZD
 split
 ·simp only[Option.bind_assoc,Am]
  congr 1;funext x;congr 1;funext n;congr 1;congr 1
  split<;>simp[Am,pr]
 ·rfl
theorem QG (P:Program) (c:LA) (org:Bool):∀ (L:List (Nat×TypeId)) (b:LA) (k:LA→O R),SH P c org L b k=(SH P c org L b some).bind k
 | [],b,k=>rfl
 | (off,t)::L,b,k=>by
  rw[SH,SH,Am]
  congr 1
  rw[Nu,Nu (k:=fun v=>SH P c org L (b++[v]) some),Option.bind_assoc]
  congr 1;funext v
  exact QG P c org L _ k
theorem cK (P:Program) (co:Bool) (t:TypeId) (v:AV) (k:AV→O R):ZF P co t v k=(ZF P co t v some).bind k:=by
 unfold ZF
 split
 ·rename_i c org
  rw[QG,QG (k:=fun l=>cond (Nat.beq c.length l.length) (some (AV.agg l)) none),Option.bind_assoc]
  congr 1;funext l
  rw[Am];rfl
 ·rfl
theorem oH (P:Program) (g:A0) (d:Nat) (t:TypeId) (v:AV) (k:AV→C9→O R):tB P g d t v k=(tB P g d t v pr).bind fun q=>k q.1 q.2:=by
 unfold tB
 split<;>simp[Option.bind_assoc,Am,pr]
theorem ZW (P:Program) (g:A0) (d:Nat) (t:TypeId) (len:Nat) (ps:List (Nat×AV)) (k:AV→C9→O R):Lo P g d t len ps k=(Lo P g d t len ps pr).bind fun q=>k q.1 q.2:=by
 unfold Lo
 split<;>simp[Option.bind_assoc,Am,pr,W9]
theorem fK (P:Program) (g:A0) (d:Nat) (t:TypeId) (len:Nat) (ps:List (Nat×AV)) (k:AV→C9→O R):Nn P g d t len ps k=(Nn P g d t len ps pr).bind fun q=>k q.1 q.2:=by
 unfold Nn
 split<;>simp[Option.bind_assoc,Am,pr]
theorem zp (P:Program) (t:TypeId) (co:Bool) (d:Nat) (v:AV) (k:AV→C9→O R):zc P t co d v k=(zc P t co d v pr).bind fun q=>k q.1 q.2:=by
 unfold zc
 split<;>simp[Am,pr]
theorem xA (P:Program) (d:Nat) (t:TypeId) (l c:AV) (k:AV→C9→O R):nu P d t l c k=(nu P d t l c pr).bind fun q=>k q.1 q.2:=by
 unfold nu
 split<;>simp[Option.bind_assoc,Am,pr]
theorem qp (P:Program) (g:A0) (d:Nat) (t tx:TypeId) (s x:AV) (k:AV→C9→O R):JF P g d t tx s x k=(JF P g d t tx s x pr).bind fun q=>k q.1 q.2:=by
 unfold JF PX
 split<;>simp[Option.bind_assoc,Am,pr,Zg]
theorem xB (P:Program) (g:A0) (t:TypeId) (s x:AV) (k:AV→C9→O R):nv P g t s x k=(nv P g t s x pr).bind fun q=>k q.1 q.2:=by
 unfold nv PX
 split<;>simp[Option.bind_assoc,Am,pr,Zg]
theorem qq (P:Program) (g:A0) (d:Nat) (t:TypeId) (k:AV→C9→O R):JE P g d t k=(JE P g d t pr).bind fun q=>k q.1 q.2:=by
 unfold JE
 split<;>simp[Am,pr]
theorem t7 (P:Program) (g:A0) (t:TypeId) (s:AV) (k:AV→C9→O R):ZG P g t s k=(ZG P g t s pr).bind fun q=>k q.1 q.2:=by
 unfold ZG
 split<;>simp[Option.bind_assoc,Am,pr]
theorem xC (P:Program) (g:A0) (d:Nat) (src dst:TypeId) (x:AV) (k:AV→C9→O R):nw P g d src dst x k=(nw P g d src dst x pr).bind fun q=>k q.1 q.2:=by
 unfold nw
 split
 ·split<;>simp[Am,pr]
 ·split
  ·split<;>simp[pr]
  ·split
   ·split<;>simp[Option.bind_assoc,pr]
   ·rfl
  ·rfl
 ·split
  ·rw[Am,Option.bind_assoc];simp only[Am];rfl
  ·rfl
  ·rfl
 ·rfl
theorem t8 (P:Program) (g:A0) (d:Nat) (src dst:TypeId) (x:AV) (k:AV→C9→O R):ZH P g d src dst x k=(ZH P g d src dst x pr).bind fun q=>k q.1 q.2:=by
 unfold ZH
 split
 ·split
  ·simp only[Option.bind_assoc,Am];rfl
  ·rfl
 ·split
  ·simp only[Option.bind_assoc,Am];rfl
  ·rfl
 ·exact xC ..
theorem fL (g:A0) (x:AV) (k:AV→C9→O R):No g x k=(No g x pr).bind fun q=>k q.1 q.2:=by
 unfold No
 split
 ·rfl
 ·simp only[Option.bind_assoc,Am];rfl
 ·rfl
theorem fM (P:Program) (g:A0) (t:TypeId) (x n:AV) (k:AV→C9→O R):Np P g t x n k=(Np P g t x n pr).bind fun q=>k q.1 q.2:=by
 unfold Np
 split
 ·rw[Am];rfl
 ·simp only[Option.bind_assoc]
  congr 1;funext y;congr 1;funext q
  split
  ·simp only[Option.bind_assoc,Am];rfl
  ·rfl
 ·rfl
theorem QH {R':Type} {f:R'→O R} {s1:TypeId→LA→LA→(Bool→Option R')→Option R'} {s2:TypeId→LA→LA→(Bool→O R)→O R} (c:∀ t x y k,(s1 t x y k).bind f=s2 t x y fun b=>(k b).bind f) {x y:LA} :
  ∀ (l:List (Nat×TypeId)) (k:Bool→Option R'),(Wz s1 x y l k).bind f=Wz s2 x y l fun b=>(k b).bind f
 | [],k=>rfl
 | (o,t)::r,k=>by
  rw[Wz,Wz,c]
  congr 1;funext b
  exact QH c r _
theorem JN {R':Type} {f:R'→O R} (P:Program):∀ (d:Nat) (t:TypeId) (x y:LA) (k:Bool→Option R'),(fI P d t x y k).bind f=fI P d t x y fun b=>(k b).bind f
 | 0,t,x,y,k=>rfl
 | d+1,t,x,y,k=>by
  rw[fI,fI]
  split<;>simp only[Option.bind_assoc,Am,Option.bind_none]
  ·congr 1;funext sz;rw[QH (JN P d)]
  ·congr 1;funext s;congr 1;funext sz;rw[QH (JN P d)]
theorem xD (P:Program) (t:TypeId) (op:BinOp) (x y:AV) (k:AV→O R):nq P t op x y k=(nq P t op x y some).bind k:=by
 unfold nq
 split
 ·rw[Option.bind_assoc]
  congr 1;funext s
  rw[Am]
  congr 1
  split
  ·rw[JN];rfl
  ·rw[JN];rfl
  ·rfl
 ·exact zo ..
theorem gw (P:Program) (g:A0) (t:TypeId) (op:BinOp) (x y:AV) (k:AV→O R):nz P g t op x y k=(nz P g t op x y some).bind k:=by
 unfold nz
 split
 ·rw[Am];congr 1;split<;>rfl
 ·exact xD ..
theorem gx (c x y:AV) (k:AV→O R):oB c x y k=(oB c x y some).bind k:=by
 unfold oB
 split<;>first | rfl | (rw[Am];rfl)
theorem t_ (P:Program) (g:A0) (co:Bool) (d:Nat) (t:TypeId) (k:AV→C9→O R):ZE P g co d t k=(ZE P g co d t pr).bind fun q=>k q.1 q.2:=by
 unfold ZE
 split
 ·rw[Option.bind_assoc];rfl
 ·exact oH ..
 ·rfl
theorem gy:∀ (T:List (Nat×Tw)) (f:Nat) (b:LA) (h:Ah) (k:AV→Ah→O R),SI T f b h k=(SI T f b h fun v h'=>some (v,h')).bind fun p=>k p.1 p.2
 | [],f,b,h,k=>rfl
 | (g,t)::r,f,b,h,k=>by
  rw[SI,SI]
  cases Nat.beq g f
  ·exact gy r f b h k
  ·exact t.eq b h k
theorem xE (E:Env) (g:A0) (d f:Nat) (b:LA) (k:AV→C9→O R):oA E g d f b k=(oA E g d f b pr).bind fun q=>k q.1 q.2:=by
 unfold oA
 rw[Option.bind_assoc]
 congr 1;funext q
 simp only[Am,Option.bind_none]
 congr 1
 rw[gy,gy (R:=AV×C9),Option.bind_assoc]
 congr 1;funext p
 simp only[Am,Option.bind_none,pr,Option.bind_some]
theorem m4 (d:Nat) (o:Option AV) (k:AV→C9→O R):Rw d o k=(Rw d o pr).bind fun q=>k q.1 q.2:=by
 unfold Rw
 split<;>rfl
theorem ta (P:Program) (g:A0) (t:TypeId) (m x y:AV) (k:AV→C9→O R):ZI P g t m x y k=(ZI P g t m x y pr).bind fun q=>k q.1 q.2:=by
 unfold ZI
 split<;>simp[Am,Option.bind_assoc,pr]
theorem tb (P:Program) (d:Nat) (t:TypeId) (x:AV) (k:AV→C9→O R):ZJ P d t x k=(ZJ P d t x pr).bind fun q=>k q.1 q.2:=by
 unfold ZJ
 split<;>rfl
theorem xF (g:A0) (it:AV) (b:Bool) (k:AV→C9→O R):ny g it b k=(ny g it b pr).bind fun q=>k q.1 q.2:=by
 unfold ny
 split
 ·rw[Option.bind_assoc];congr 1;funext x
  rw[Am];congr 1
  split
  ·rename_i s p _
   cases decide (p<(s.length:Int))<;>rfl
  ·rfl
 ·rfl
theorem gz (P:Program) (g:A0) (t:TypeId) (m x:AV) (c:Bool) (k:AV→O R):nx P g t m x c k=(nx P g t m x c some).bind k:=by
 unfold nx
 split<;>simp[Am,Option.bind_assoc]
theorem zq (E:Env) (g:A0) (d:Nat) (v:Operand→AV) (o:Op) (k:AV→C9→O R):mW E g d v o k=(mW E g d v o pr).bind fun q=>k q.1 q.2:=by
 unfold mW
 split
 ·rfl
 ·rfl
 ·rw[gx,gx (k:=fun r=>pr r []),Option.bind_assoc];rfl
 ·rw[Am,←qq,←t_]
 ·rw[cK,cK (k:=fun u=>tB E.P g d _ u pr),Option.bind_assoc];congr 1;funext u;exact oH ..
 ·rw[QA,QA,Option.bind_assoc];congr 1;funext x;exact zp ..
 ·rw[Am,←fK,←ZW]
 ·rw[Zh,Zh (k:=fun r=>pr r []),Option.bind_assoc];rfl
 ·exact t6 ..
 ·split<;>rfl
 ·rw[gw,gw (k:=fun r=>pr r []),Option.bind_assoc];rfl
 ·rw[Option.bind_assoc];rfl
 ·exact t8 ..
 ·rw[Am];rfl
 ·exact xA ..
 ·rw[cJ,cJ (k:=fun r=>pr r []),Option.bind_assoc];rfl
 ·rw[BM,BM (k:=fun r=>pr r []),Option.bind_assoc];rfl
 ·rw[cH,cH (k:=fun r=>pr r []),Option.bind_assoc];rfl
 ·rw[BL,BL (k:=fun r=>pr r []),Option.bind_assoc];rfl
 ·rw[cI,cI (k:=fun r=>pr r []),Option.bind_assoc];rfl
 ·exact m4 ..
 ·exact ta ..
 ·rw[gz,gz (k:=fun r=>pr r []),Option.bind_assoc];rfl
 ·exact tb ..
 ·exact xF ..
 ·split
  ·rw[Option.bind_assoc];rfl
  ·rfl
 ·split
  ·split
   ·rw[Option.bind_assoc];rfl
   ·rfl
  ·split
   ·exact qp ..
   ·rfl
  ·split
   ·exact xB ..
   ·rfl
  ·split
   ·exact t7 ..
   ·rfl
  ·split
   ·rw[Option.bind_assoc];rfl
   ·simp only[Option.bind_assoc];rfl
   ·rfl
  ·split
   ·rw[Option.bind_assoc];rfl
   ·simp only[Option.bind_assoc];rfl
   ·rfl
  ·split
   ·exact fL ..
   ·rfl
  ·split
   ·exact fM ..
   ·rfl
  ·split
   ·rw[Am,←xE,Am];congr 1;congr 1
    split<;>rfl
   ·rfl
  ·rfl
 ·rfl
end
end Gx

namespace Gx
open Go
theorem Xb:∀ {l c:List Nat} {b:Nat},b ∈ bu l c↔b ∈ l∨b ∈ c
 | [],c,b=>by simp[bu]
 | i::r,c,b=>by
  rw[bu]
  cases d:Fx c i with
  | true =>
   simp only[cond_true]
   rw[Xb]
   have:=Hk.1 d
   constructor
   ·rintro(h | h)
    ·exact .inl (by simp[h])
    ·exact .inr h
   ·rintro(h | h)
    ·rcases List.mem_cons.1 h with e | h
     ·subst e;exact .inr this
     ·exact .inl h
    ·exact .inr h
  | false =>
   simp only[cond_false]
   rw[Xb]
   simp only[List.mem_cons]
   constructor
   ·rintro(h | h | h)
    ·exact .inl (.inr h)
    ·exact .inl (.inl h)
    ·exact .inr h
   ·rintro((h | h) | h)
    ·exact .inr (.inl h)
    ·exact .inl h
    ·exact .inr (.inr h)
theorem Ue {g g':A0}:∀ {l:List Nat},(∀ b ∈ l,g' b=g b)→Hi g' l=Hi g l
 | [],_=>rfl
 | i::r,h=>by
  rw[Hi,Hi,h i (by simp),Ue (fun b c=>h b (by simp[c]))]
theorem SV {g:A0}:∀ {a b:List Nat},Hi g (a++b)=Hi g a++Hi g b
 | [],b=>rfl
 | i::r,b=>by rw[List.cons_append,Hi,Hi,SV,List.append_assoc]
theorem tc {g g':A0} {ids:List Nat} (h:∀ b ∈ Rx g ids,g' b=g b):Rx g' ids=Rx g ids:=by
 have d:∀ b ∈ ids,g' b=g b:=fun b c=>h b (Xb.2 (.inl (List.mem_append.2 (.inl c))))
 have e:Hi g' ids=Hi g ids:=Ue d
 have f:∀ b ∈ Hi g ids,g' b=g b:=fun b c=>h b (Xb.2 (.inl (List.mem_append.2 (.inr (by rw[SV];exact List.mem_append.2 (.inl c))))))
 unfold Rx
 rw[e,Ue (l:=ids++Hi g ids) (fun b c=>by
  rcases List.mem_append.1 c with c | c
  ·exact d b c
  ·exact f b c)]
section
variable {R:Type} {E:Env} {ops:Array Oper} {o p:Oper} {st oG st2:St}
theorem cL {v v':Operand→AV} {parts:Array (Nat×Operand)} (h:∀ q ∈ parts.toList,v' q.2=v q.2):(parts.toList.map fun q=>(q.1,v' q.2))=(parts.toList.map fun q=>(q.1,v q.2)) :=
 List.map_congr_left (fun q hq=>by rw[h q hq])
theorem xG {g:A0} {d:Nat} {v v':Operand→AV} {op:Op} {k:AV→C9→O R} (h:∀ x ∈ op.operands.toList,v' x=v x):mW E g d v' op k=mW E g d v op k:=by
  unfold mW
  cases op
  case build t parts =>
    simp only
    rw[cL (v:=v) (v':=v') (fun q hq=>h q.2 (by simp[Op.operands];exact⟨q.1,by simpa using hq⟩))]
  case buildSlice t n parts =>
    simp only
    rw[cL (v:=v) (v':=v') (fun q hq=>h q.2 (by simp[Op.operands];exact⟨q.1,by simpa using hq⟩))]
  case slice t x lo j mx =>
    simp only
    have e:v' x=v x:=h x (by simp[Op.operands])
    have m:lo.map v'=lo.map v:=by
      cases lo with
      | none=>rfl
      | some y=>simp;exact h y (by simp[Op.operands])
    have s:j.map v'=j.map v:=by
      cases j with
      | none=>rfl
      | some y=>simp;exact h y (by simp[Op.operands])
    have u:mx.map v'=mx.map v:=by
      cases mx with
      | none=>rfl
      | some y=>simp;exact h y (by simp[Op.operands])
    rw[e,m,s,u]
  case makeMap t rr =>
    simp only
    have e:rr.map v'=rr.map v:=by
      cases rr with
      | none=>rfl
      | some y=>simp;exact h y (by simp[Op.operands])
    rw[e]
  case makeFunc f first caps =>
    cases f<;>try rfl
    simp only
    have:(first.toList++caps.toList).map v'=(first.toList++caps.toList).map v:=List.map_congr_left (fun x l=>h x (by simp[Op.operands];simpa using l))
    rw[this]
  case call c =>
    have i:∀ x ∈ c.args.toList,v' x=v x:=fun x l=>h x (by
      simp only[Op.operands,Call.operands,Array.toList_append]
      exact List.mem_append.2 (.inr l))
    have z:c.args.toList.map v'=c.args.toList.map v:=List.map_congr_left i
    simp only
    cases A:c.callee with
    | value f =>
      have B:v' f=v f:=h f (by simp[Op.operands,Call.operands,A])
      simp only[B,z]
    | invoke a b=>rfl
    | builtin b =>
      cases b<;>try rfl
      all_goals
        simp only
        split
        · first
            | (rename_i e m
               simp only[e,List.mem_cons,List.not_mem_nil,or_false,forall_eq_or_imp,forall_eq] at i
               simp only[i])
            | (rename_i e
               simp only[e,List.mem_cons,List.not_mem_nil,or_false,forall_eq_or_imp,forall_eq] at i
               simp only[i])
        all_goals first
          | rfl
          | (rename_i e
             simp only[e,List.mem_cons,List.not_mem_nil,or_false,forall_eq_or_imp,forall_eq] at i
             simp only[i])
  all_goals first
    | rfl
    | (simp[Op.operands] at h;simp[h])
end
end Gx

namespace Gx
open Go
section
variable {R:Type} {E:Env} {ops:Array Oper} {o p:Oper} {st oG st2 st3:St}
def zH (ops:Array Oper) (o:Oper):List Nat:=match JG ops o with | some p=>[p.1] | none=>[]
def V6 (o:Oper) (s:Ev):LA:=o.op.operands.toList.map (ev s)
def qr (h:Ah) (F:List Nat):A0:=fun b=>cond (Fx F b) (Ak h b) none
def Ajn (o:Oper):Nat:=o.dst.getD 50000
def Ng (E:Env) (ops:Array Oper) (o:Oper) (st:St):Option (AV×C9×Foot) :=
  (Y4 ops st.s o).bind fun wanted=>cond wanted
    ((mW E (qr st.h (Pw st.h o.op (V6 o st.s))) (Ajn o) (ev st.s) o.op pr).bind fun q =>
      cond (LB (Ajn o) (Pw st.h o.op (V6 o st.s)) st.h q.2) (some (q.1,q.2,{ r:=zH ops o++P_ o.op.operands.toList,w:=o.dst,f:=Pw st.h o.op (V6 o st.s),u:=q.2.map (·.1) })) none)
    (some (.tup [],[],{ r:=zH ops o,w:=o.dst,f:=[],u:=[] }))
def after (E:Env) (o:Oper) (st:St) (q:AV×C9×Foot):St:={ s:=wk E.nt st.s o.dst q.1,h:=Ai q.2.1 st.h }
theorem JO (k:St→Foot→O R):tE E ops o st k=(Ng E ops o st).bind fun q=>k (after E o st q) q.2.2:=by
 unfold tE Ng
 rw[Option.bind_assoc]
 congr 1;funext t
 rw[Am]
 congr 1
 rw[zq,Option.bind_assoc]
 congr 1;funext q
 rw[Am]
 rfl
theorem hI:∀ {l:List Operand} {t:Nat},Operand.tmp t ∈ l→t ∈ P_ l
 | [],t,h=>by simp at h
 | x::r,t,h=>by
  rcases List.mem_cons.1 h with e | h'
  ·subst e;simp[P_]
  ·have b:=hI h'
   cases x<;>simp[P_]<;>first | exact .inr b | exact b
theorem cM {d:Nat} {F:List Nat} {h e:Ah}:∀ {ups:C9},(∀ b ∈ ups.map (·.1),Ak e b=Ak h b)→LB d F e ups=LB d F h ups
 | [],_=>rfl
 | (b,_)::r,f=>by rw[LB,LB,f b (by simp),cM (fun c i=>f c (by simp at i ⊢;exact .inr i))]
theorem LI {s s2:Ev} (h:∀ t ∈ zH ops o,D2 s2 t=D2 s t):Y4 ops s2 o=Y4 ops s o:=by
 unfold Y4
 cases b:o.guard with
 | none=>rfl
 | some q =>
  obtain⟨j,want⟩:=q
  simp only
  cases c:(ops[j]?).bind (·.dst) with
  | none=>rfl
  | some t =>
   have:D2 s2 t=D2 s t:=h t (by simp[zH,JG,b,c])
   simp only[this]
theorem EU {q:AV×C9×Foot} (l:Ng E ops o st=some q) (i:∀ t ∈ q.2.2.r,D2 st2.s t=D2 st.s t) (c:∀ b,b ∈ q.2.2.f∨b ∈ q.2.2.u→Ak st2.h b=Ak st.h b):Ng E ops o st2=some q:=by
 have A:=l
 unfold Ng at l
 obtain⟨t,j,k⟩:=ub l
 cases t with
 | false =>
  simp at k;subst k
  unfold Ng
  rw[LI (s:=st.s) i,j];rfl
 | true =>
  rw[cond_true] at k
  obtain⟨x,B,C⟩:=ub k
  obtain⟨D,v⟩:=uc C
  simp at v;subst v
  simp only at i c
  have z:∀ y ∈ o.op.operands.toList,ev st2.s y=ev st.s y:=fun y F=>by
   cases y with
   | tmp t=>exact i t (List.mem_append.2 (.inr (hI F)))
   | const _=>rfl
   | global _=>rfl
   | func _=>rfl
  have d:V6 o st2.s=V6 o st.s:=List.map_congr_left z
  have hF:Pw st2.h o.op (V6 o st.s)=Pw st.h o.op (V6 o st.s):=by
   unfold Pw at c ⊢
   cases m:yz o.op with
   | true =>
    rw[m] at c
    cases n:zA o.op with
    | true=>rfl
    | false=>rw[n] at c;exact tc (fun b e=>c b (.inl e))
   | false=>rfl
  have G:qr st2.h (Pw st.h o.op (V6 o st.s))=qr st.h (Pw st.h o.op (V6 o st.s)):=by
   funext b
   unfold qr
   cases e:Fx (Pw st.h o.op (V6 o st.s)) b with
   | false=>rfl
   | true=>simp only[cond_true];exact c b (.inl (Hk.1 e))
  unfold Ng
  rw[LI (s:=st.s) (fun t j=>i t (List.mem_append.2 (.inl j))),j]
  simp only[Option.bind_some,cond_true]
  rw[d,hF,G,xG z,B]
  simp only[Option.bind_some]
  rw[cM (h:=st.h) (fun b e=>c b (.inr e)),D]
  rfl
theorem JP:∀ {ups:C9} {b:Nat},Ax ups b=true↔b ∈ ups.map (·.1)
 | [],b=>by simp[Ax]
 | (i,_)::r,b=>by
  rw[Ax]
  cases c:Nat.beq i b with
  | true=>have:=Nat.eq_of_beq_eq_true c;subst this;simp
  | false =>
   have ne:=P7 c
   simp only[cond_false]
   rw[JP]
   simp only[List.map_cons,List.mem_cons]
   constructor
   ·exact fun h=>.inr h
   ·rintro(h | h)
    ·exact absurd h.symm ne
    ·exact h
theorem zI {q:AV×C9×Foot} (c:Ng E ops o st=some q):q.2.2.w=o.dst∧q.2.2.u=q.2.1.map (·.1):=by
 unfold Ng at c
 obtain⟨t,f,b⟩:=ub c
 cases t with
 | false=>simp at b;subst b;simp
 | true =>
  rw[cond_true] at b
  obtain⟨x,i,e⟩:=ub b
  obtain⟨j,d⟩:=uc e
  simp at d;subst d;simp
theorem Ex:∀ (ups:C9) {h e:Ah},(∀ b,Ak e b=Ak h b)→∀ b,Ak (Ai ups e) b=Ak (Ai ups h) b
 | [],_,_,d,b=>d b
 | (i,some x)::r,h,e,d,b=>Ex r (fun c=>by rw[Ae,Ae,d c]) b
 | (i,none)::r,h,e,d,b=>by
  rw[Ai,Ai]
  refine Ex r (fun c=>?_) b
  rw[d i]
  split
  ·rw[Ae,Ae,d c]
  ·exact d c
theorem td {q:AV×C9×Foot} (h:Eqv st st2):Eqv (after E o st q) (after E o st2 q):=by
 refine⟨fun t=>?_,fun b=>?_⟩
 ·unfold after;simp only;rw[Jm,Jm,h.1 t]
 ·exact(Ex q.2.1 (fun b=>(h.2 b).symm) b).symm
theorem Mh {i:Nat} {y:Blk}:∀ (ups:C9) {h:Ah},Ax ups i=false→∀ b,Ak (Ai ups (Dk h i y)) b=if b=i then some y else Ak (Ai ups h) b
 | [],h,_,b=>Ae h i y b
 | (j,some x)::r,h,d,b=>by
  rw[Ax] at d
  cases e:Nat.beq j i with
  | true=>rw[e] at d;simp at d
  | false =>
   rw[e] at d
   have ne:=P7 e
   rw[Ai,Ai,Ex r (h:=Dk (Dk h j x) i y) (fun c=>by
    rw[Ae,Ae,Ae,Ae]
    by_cases f:c=j
    ·subst f;simp[ne]
    ·simp[f]) b]
   exact Mh r d b
 | (j,none)::r,h,d,b=>by
  rw[Ax] at d
  cases e:Nat.beq j i with
  | true=>rw[e] at d;simp at d
  | false =>
   rw[e] at d
   have ne:=P7 e
   rw[Ai,Ai,Ae,if_neg ne]
   split
   ·rename_i x k
    rw[Ex r (h:=Dk (Dk h j { x with dead:=true,pure:=true,cells:=[] }) i y) (fun c=>by
     rw[Ae,Ae,Ae,Ae]
     by_cases f:c=j
     ·subst f;simp[ne]
     ·simp[f]) b]
    exact Mh r d b
   ·exact Mh r d b
theorem Ou:∀ (u1 u2:C9) (h:Ah),(∀ b,Ax u1 b=true→Ax u2 b=false)→∀ b,Ak (Ai u2 (Ai u1 h)) b=Ak (Ai u1 (Ai u2 h)) b
 | [],u2,h,_,b=>rfl
 | (i,some x)::r,u2,h,d,b=>by
  rw[Ai,Ai]
  have f:Ax u2 i=false:=d i (by simp[Ax])
  rw[Ou r u2 (Dk h i x) (fun c e=>d c (by rw[Ax,e];cases Nat.beq i c<;>rfl)) b]
  refine Ex r (fun c=>?_) b
  rw[Mh u2 f,Ae]
 | (i,none)::r,u2,h,d,b=>by
  rw[Ai,Ai]
  have f:Ax u2 i=false:=d i (by simp[Ax])
  rw[Br u2 h i f]
  split
  ·rename_i x j
   rw[Ou r u2 _ (fun c e=>d c (by rw[Ax,e];cases Nat.beq i c<;>rfl)) b]
   refine Ex r (fun c=>?_) b
   rw[Mh u2 f,Ae]
  ·exact Ou r u2 h (fun c e=>d c (by rw[Ax,e];cases Nat.beq i c<;>rfl)) b
theorem hZ:∀ {a l:List Nat},tD a l=true→∀ b ∈ a,b ∉ l
 | [],l,_,b,c=>by simp at c
 | i::r,l,h,b,c=>by
  rw[tD] at h;simp at h
  rcases List.mem_cons.1 c with e | c
  ·subst e;intro d;rw[Hk.2 d] at h;simp at h
  ·exact hZ h.2 b c
theorem h_ {q:AV×C9×Foot} {t:Nat} (h:o.dst≠some t):D2 (after E o st q).s t=D2 st.s t:=by
 unfold after;simp only;rw[Jm,if_neg (fun b=>h b.1)]
theorem iA {q:AV×C9×Foot} {b:Nat} (h:b ∉ q.2.1.map (·.1)):Ak (after E o st q).h b=Ak st.h b:=by
 unfold after;simp only
 rw[Br]
 cases c:Ax q.2.1 b with
 | false=>rfl
 | true=>exact absurd (JP.1 c) h
theorem oI {w:Option Nat} {l:List Nat} (h:Ai0 w l=false):∀ t ∈ l,w≠some t:=by
 intro t b e
 subst e
 rw[Ai0,Hk.2 b] at h;cases h
theorem Ai7 {f d:AV×C9×Foot} (q:Ng E ops p st=some f) (s:Ng E ops o (after E p st f)=some d) (l:bw f.2.2 d.2.2=true) :
  Ng E ops o st=some d∧Ng E ops p (after E o st d)=some f∧Eqv (after E p (after E o st d) f) (after E o (after E p st f) d):=by
 unfold bw at l
 simp only[Bool.and_eq_true,Bool.not_eq_true'] at l
 obtain⟨⟨⟨⟨i1,i2⟩,i3⟩,i4⟩,i5⟩:=l
 obtain⟨v,u1⟩:=zI q
 obtain⟨x,u2⟩:=zI s
 have m:=hZ i4
 have y:=hZ i5
 have a1:Ng E ops o st=some d:=EU s (fun t n=>(h_ (by rw[←v];exact oI i1 t n)).symm) (fun b e=>(iA (fun j=>by
  rw[←u1] at j
  exact m b j (by rcases e with e | e<;>simp[e]))).symm)
 have a2:Ng E ops p (after E o st d)=some f:=EU q (fun t n=>h_ (by rw[←x];exact oI i2 t n)) (fun b e=>iA (fun j=>by
  rw[←u2] at j
  rcases e with e | e
  ·exact y b j e
  ·exact m b e (by simp[j])))
 refine⟨a1,a2,fun t=>?_,fun b=>?_⟩
 ·unfold after;simp only
  rw[Jm,Jm,Jm,Jm]
  by_cases k:p.dst=some t∧t<E.nt
  ·by_cases i:o.dst=some t∧t<E.nt
   ·exfalso
    rw[v,x,k.1,i.1] at i3
    simp at i3
   ·rw[if_pos k,if_neg i,if_pos k]
  ·by_cases i:o.dst=some t∧t<E.nt
   ·rw[if_neg k,if_pos i,if_pos i]
   ·rw[if_neg k,if_neg i,if_neg i,if_neg k]
 ·unfold after;simp only
  refine(Ou f.2.1 d.2.1 st.h (fun c z=>?_) b).symm
  cases A:Ax d.2.1 c with
  | false=>rfl
  | true =>
   have m1:c ∈ f.2.2.u:=by rw[u1];exact JP.1 z
   have m2:c ∈ d.2.2.u:=by rw[u2];exact JP.1 A
   exact absurd (by simp[m2]) (m c m1)
def RunF (E:Env) (ops:Array Oper) (fp:Nat→Foot):List (Nat×Oper)→St→St→Prop
 | [],st,e=>Eqv st e
 | (i,o)::r,st,e=>∃ q,Ng E ops o st=some q∧q.2.2=fp i∧RunF E ops fp r (after E o st q) e
theorem RunF.congr {fp:Nat→Foot}:∀ {l:List (Nat×Oper)} {st st2 e:St},RunF E ops fp l st e→Eqv st st2→RunF E ops fp l st2 e
 | [],st,st2,e,h,c=>c.symm.trans h
 | (i,o)::r,st,st2,e,h,c=>by
  rw[RunF] at h ⊢
  obtain⟨q,d,f,j⟩:=h
  exact⟨q,EU d (fun t _=>(c.1 t).symm) (fun b _=>(c.2 b).symm),f,RunF.congr j (td c)⟩
theorem RunF.pull {fp:Nat→Foot} {i:Nat} {o:Oper} {B:List (Nat×Oper)}:∀ {A:List (Nat×Oper)} {st e:St},RunF E ops fp (A++(i,o)::B) st e→(∀ jp ∈ A,bw (fp jp.1) (fp i)=true) →
  ∃ q,Ng E ops o st=some q∧q.2.2=fp i∧RunF E ops fp (A++B) (after E o st q) e
 | [],st,e,h,_=>h
 | (j,p)::A,st,e,h,hA=>by
  rw[List.cons_append,RunF] at h
  obtain⟨b,k,c,l⟩:=h
  obtain⟨d,m,f,n⟩:=RunF.pull l (fun jp s=>hA jp (by simp[s]))
  have t:bw b.2.2 d.2.2=true:=by rw[c,f];exact hA (j,p) (by simp)
  obtain⟨a1,a2,a3⟩:=Ai7 k m t
  refine⟨d,a1,f,?_⟩
  rw[List.cons_append,RunF]
  exact⟨b,a2,c,RunF.congr n a3.symm⟩
end
end Gx

namespace Gx
open Go
def zJ:Nat→List Oper→List (Nat×Oper)
 | _,[]=>[]
 | n,o::r=>(n,o)::zJ (n+1) r
theorem gF:∀ {l:List Oper} {n:Nat} {p:Nat×Oper},p ∈ zJ n l↔n≤p.1∧l[p.1 - n]?=some p.2
 | [],n,p=>by simp[zJ]
 | o::r,n,p=>by
  rw[zJ,List.mem_cons,gF]
  constructor
  ·rintro(rfl | ⟨d,c⟩)
   ·simp
   ·refine⟨by omega,?_⟩
    rw[show p.1 - n=(p.1 - (n+1))+1 by omega];simpa using c
  ·rintro⟨d,c⟩
   by_cases e:p.1=n
   ·left
    rw[e] at c;simp at c
    obtain⟨a,b⟩:=p
    simp at e c;subst e c;rfl
   ·right
    refine⟨by omega,?_⟩
    rw[show p.1 - n=(p.1 - (n+1))+1 by omega] at c;simpa using c
theorem iB:∀ (l:List Oper) (n:Nat),(zJ n l).Pairwise (fun a b=>a.1<b.1)
 | [],n=>List.Pairwise.nil
 | o::r,n=>by
  rw[zJ]
  refine List.pairwise_cons.2 ⟨fun p c=>?_,iB r (n+1)⟩
  have:=(gF.1 c).1
  show n<p.1;omega
section
variable {R:Type} {r:R} {Z:Start} {E:Env} {ops:Array Oper}
def RunL (E:Env) (ops:Array Oper):List Oper→List Foot→St→St→Prop
 | [],[],st,e=>st=e
 | o::l,f::fs,st,e=>∃ st' q,Eqv st st'∧Ng E ops o st'=some q∧q.2.2=f∧RunL E ops l fs (after E o st' q) e
 | _,_,_,_=>False
theorem te:∀ {l:List Oper} {st:St} {tr:List Foot} {k:St→List Foot→O R},gY E ops l st tr k=some r→∃ fs e,k e (fs.reverse++tr)=some r∧RunL E ops l fs st e
 | [],st,tr,k,h=>⟨[],st,by simpa[gY] using h,rfl⟩
 | o::l,st,tr,k,h=>by
  rw[gY] at h
  obtain⟨st',b,h⟩:=gr h
  rw[JO] at h
  obtain⟨q,c,d⟩:=ub h
  obtain⟨fs,e,f,i⟩:=te d
  exact⟨q.2.2::fs,e,by simpa using f,st',q,b,c,rfl,i⟩
theorem RunL.length:∀ {l:List Oper} {fs:List Foot} {st e:St},RunL E ops l fs st e→fs.length=l.length
 | [],[],_,_,_=>rfl
 | [],_::_,_,_,h=>h.elim
 | _::_,[],_,_,h=>h.elim
 | o::l,f::fs,st,e,⟨_,q,_,_,_,h⟩=>by simp[RunL.length h]
theorem RunL.runF {fp:Nat→Foot}:∀ {l:List Oper} {fs:List Foot} {n:Nat} {st e:St},RunL E ops l fs st e→(∀ (j:Nat) (f:Foot),fs[j]?=some f→fp (n+j)=f)→RunF E ops fp (zJ n l) st e
 | [],[],n,st,e,h,_=>by subst h;exact Eqv.refl _
 | [],_::_,_,_,_,h,_=>h.elim
 | _::_,[],_,_,_,h,_=>h.elim
 | o::l,f::fs,n,st,e,⟨st',q,c,d,i,k⟩,b=>by
  rw[zJ]
  refine RunF.congr ?_ c.symm
  rw[RunF]
  refine⟨q,d,by rw[i];exact(b 0 f (by simp)).symm,RunL.runF k (fun j g m=>?_)⟩
  have:=b (j+1) g (by simpa using m)
  rwa [show n+(j+1)=n+1+j by omega] at this
theorem cN {f:Foot} {anc:List Nat}:∀ {seen:List Foot} {i:Nat},SL f anc i seen=true→∀ (j:Nat) (g:Foot),seen[j]?=some g→(i+j) ∈ anc∨bw g f=true
 | [],i,_,j,g,b=>by simp at b
 | x::r,i,h,j,g,b=>by
  rw[SL] at h;simp only[Bool.and_eq_true,Bool.or_eq_true] at h
  cases j with
  | zero =>
   simp at b;subst b
   rcases h.1 with c | c
   ·exact .inl (Hk.1 c)
   ·exact .inr c
  | succ j =>
   have:=cN h.2 j g (by simpa using b)
   rwa [show i+1+j=i+(j+1) by omega] at this
theorem iC:∀ {fs:List Foot} {az9:List (List Nat)} {seen:List Foot},JH fs az9 seen=true→∀ (i:Nat) (f:Foot),fs[i]?=some f →
  ∃ a,az9[i]?=some a∧∀ (j:Nat) (g:Foot),(seen++fs)[j]?=some g→j<seen.length+i→j ∈ a∨bw g f=true
 | [],az9,seen,_,i,f,b=>by simp at b
 | x::r,[],seen,h,i,f,b=>by simp[JH] at h
 | x::r,a::az9,seen,h,i,f,b=>by
  rw[JH] at h;simp only[Bool.and_eq_true] at h
  cases i with
  | zero =>
   simp at b;subst b
   refine⟨a,by simp,fun j g c d=>?_⟩
   rw[List.getElem?_append,if_pos (by omega)] at c
   simpa using cN h.1 j g c
  | succ i =>
   obtain⟨e,k,l⟩:=iC h.2 i f (by simpa using b)
   refine⟨e,by simpa using k,fun j g c d=>l j g ?_ (by simp;omega)⟩
   simpa using c
theorem V7:∀ {l:List Oper} {b:List (List Nat)} {i:Nat},i<b.length→(Es l b)[i]?=b[i]?
 | [],b,i,_=>rfl
 | o::r,b,i,c=>by
  rw[Es,W6,V7 (by simp;omega),List.getElem?_append,if_pos c]
theorem Zi:∀ {l:List Oper} {b:List (List Nat)} {i:Nat} {a:List Nat},(Es l b)[i]?=some a→b.length≤i→∃ o,l[i - b.length]?=some o ∧
  ∀ k ∈ a,k ∈ Y5 o∨∃ j f,j ∈ Y5 o∧j<i∧(Es l b)[j]?=some f∧k ∈ f
 | [],b,i,a,h,n=>by
  rw[Es,List.getElem?_eq_none n] at h;cases h
 | o::r,b,i,a,h,n=>by
  by_cases e:i=b.length
  ·subst e
   rw[Es,W6,V7 (by simp)] at h
   simp only[List.getElem?_concat_length,Option.some.injEq] at h
   refine⟨o,by simp,fun k c=>?_⟩
   rw[←h,Xb] at c
   replace c:=c.resolve_right (by simp)
   rcases List.mem_append.1 c with c | c
   ·exact .inl c
   ·right
    obtain⟨j,s,c⟩:=List.mem_flatMap.1 c
    cases m:b[j]? with
    | none=>rw[m] at c;simp at c
    | some f =>
     rw[m] at c;simp at c
     have d:j<b.length:=(List.getElem?_eq_some_iff.1 m).1
     exact⟨j,f,s,d,by rw[V7 d];exact m,c⟩
  ·rw[Es,W6] at h
   obtain⟨o',q,t⟩:=Zi h (by simp;omega)
   refine⟨o',?_,fun k c=>?_⟩
   ·simp at q
    rw[show i - b.length=(i - (b.length+1))+1 by omega];simpa using q
   ·rw[Es,W6];exact t k c
theorem SW:∀ {l:List Oper} {n i:Nat} {o:Oper},Re n l=true→l[i]?=some o→∀ e ∈ o.after,EL e=true→e.on<n+i
 | [],n,i,o,_,b,_,_,_=>by simp at b
 | x::r,n,i,o,h,b,e,c,d=>by
  rw[Re] at h;simp only[Bool.and_eq_true] at h
  cases i with
  | zero =>
   simp at b;subst b
   have:=List.all_eq_true.1 h.1 e (by simpa using c)
   rw[d] at this;simpa using this
  | succ i =>
   have:=SW h.2 (by simpa using b) e c d
   omega
theorem oJ (e:Edge):Region.binds .any e=EL e:=by
 unfold Region.binds EL
 cases e.ground<;>rfl
theorem xH {listed:Array Bool} (hclosed:∀ (j:Nat) (o:Oper),ops[j]?=some o→listed.getD j true=true→∀ k ∈ Y5 o,listed.getD k false=true) :
  ∀ (i:Nat) (a:List Nat) (o:Oper),(Es ops.toList [])[i]?=some a→ops[i]?=some o→(∀ k ∈ Y5 o,listed.getD k false=true)→∀ k ∈ a,listed.getD k false=true:=by
 intro i
 induction i using Nat.strongRecOn with
 | _ i s =>
  intro a o t u m k v
  obtain⟨o',e,x⟩:=Zi t (by simp)
  simp at e
  rw[u] at e;simp at e;subst e
  rcases x k v with f | ⟨j,y,f,z,n,A⟩
  ·exact m k f
  ·have c:=m j f
   obtain⟨oj,d,_⟩:=Zi n (by simp)
   simp at d
   have l:listed.getD j true=true:=by
    rw[Array.getD_eq_getD_getElem?] at c ⊢
    cases q:listed[j]? with
    | none=>rw[q] at c;simp at c
    | some b=>rw[q] at c;simpa using c
   exact s j z y oj n d (hclosed j oj d l) k A
def D7 (ops:Array Oper) (listed:Array Bool):List (Nat×Oper):=(zJ 0 ops.toList).filter fun p=>!listed.getD p.1 true
theorem EV (listed:Array Bool):(D7 ops listed).Pairwise (fun a b=>a.1<b.1):=(iB _ _).filter _
theorem Xc {listed:Array Bool} {p:Nat×Oper}:p ∈ D7 ops listed↔ops[p.1]?=some p.2∧listed.getD p.1 true=false:=by
 unfold D7
 rw[List.mem_filter,gF]
 simp
theorem tg {listed:Array Bool} {i:Nat} {o:Oper} {A B:List (Nat×Oper)} (h:D7 ops listed=A++(i,o)::B):D7 ops (listed.setIfInBounds i true)=A++B:=by
 have l:(i,o) ∈ D7 ops listed:=by rw[h];simp
 have b:=(Xc.1 l).2
 have d:i<listed.size:=by
  rw[Array.getD_eq_getD_getElem?] at b
  rcases Nat.lt_or_ge i listed.size with f | f
  ·exact f
  ·rw[Array.getElem?_eq_none f] at b;simp at b
 have m:D7 ops (listed.setIfInBounds i true)=(D7 ops listed).filter fun p=>!Nat.beq p.1 i:=by
  unfold D7
  rw[List.filter_filter]
  congr 1;funext p
  by_cases e:p.1=i
  ·rw[e];simp[d]
  ·rw[getD_set_ne true (fun n=>e n.symm),EC e];simp
 rw[m,h,List.filter_append,List.filter_cons]
 have k:=EV (ops:=ops) listed
 rw[h] at k
 have c:=List.pairwise_append.1 k
 have hB:=List.pairwise_cons.1 c.2.1
 have q:A.filter (fun p=>!Nat.beq p.1 i)=A:=List.filter_eq_self.2 (fun p j=>by
  have:p.1<i:=c.2.2 p j (i,o) (by simp)
  rw[EC (by omega)];rfl)
 have s:B.filter (fun p=>!Nat.beq p.1 i)=B:=List.filter_eq_self.2 (fun p j=>by
  have:i<p.1:=hB.1 p j
  rw[EC (by omega)];rfl)
 rw[q,s];simp
theorem zr (hC:QC E) {Q:Exit→Act→World→Prop} {fp:Nat→Foot} {e:St} (hfw:Re 0 ops.toList=true)
  (F:∀ (i j:Nat) (o:Oper),ops[i]?=some o→j<i→∃ a,(Es ops.toList [])[i]?=some a∧(j ∈ a∨bw (fp j) (fp i)=true))
  (hQ:∀ a' w' J' β',Inv Z E.nt J' β' e a' w'→Q .normal a' w') :
  ∀ (d:Nat) (listed:Array Bool) {st:St} {a:Act} {w:World} {J:Bool→Nat→Prop} {β:Bl},listed.size=ops.size→(D7 ops listed).length=d →
   (∀ (j:Nat) (o:Oper),ops[j]?=some o→listed.getD j true=true→∀ k ∈ Y5 o,listed.getD k false=true) →
   RunF E ops fp (D7 ops listed) st e→Inv Z E.nt J β st a w→wpAny E.P .any ops Q d listed a w:=by
 intro d
 have fin:∀ (listed:Array Bool) {st:St} {a:Act} {w:World} {J:Bool→Nat→Prop} {β:Bl},D7 ops listed=[]→RunF E ops fp (D7 ops listed) st e→Inv Z E.nt J β st a w→Region.ready .any ops listed=[]∧Q .normal a w:=by
  intro listed st a w J β hr c I
  refine⟨List.eq_nil_iff_forall_not_mem.2 (fun i hi=>?_),?_⟩
  ·obtain⟨G,o,t,_⟩:=mem_ready.1 hi
   have:(i,o) ∈ D7 ops listed:=Xc.2 ⟨t,G⟩
   rw[hr] at this;simp at this
  ·rw[hr,RunF] at c
   exact hQ _ _ J β (I.eqv c)
 induction d with
 | zero =>
  intro listed st a w J β _ l _ c I
  exact fin listed (List.length_eq_zero_iff.1 l) c I
 | succ d ih =>
  intro listed st a w J β L l hclosed c I
  refine⟨fun M=>?_,fun i hi=>?_⟩
  ·
   cases m:D7 ops listed with
   | nil=>rw[m] at l;simp at l
   | cons p r =>
    exfalso
    have hp:p ∈ D7 ops listed:=by rw[m];simp
    obtain⟨n,hl⟩:=Xc.1 hp
    have O:=EV (ops:=ops) listed
    rw[m] at O
    have S:=(List.pairwise_cons.1 O).1
    have:p.1 ∈ Region.ready .any ops listed:=mem_ready.2 ⟨hl,p.2,n,fun x z hb=>by
     rw[oJ] at hb
     have u:=SW hfw (i:=p.1) (o:=p.2) (by simpa using n) x z hb
     simp at u
     have T:x.on<ops.size:=by have:=(Array.getElem?_eq_some_iff.1 n).1;omega
     cases C:listed.getD x.on true with
     | true =>
      rw[Array.getD_eq_getD_getElem?] at C ⊢
      rw[Array.getElem?_eq_getElem (by omega)] at C ⊢
      simpa using C
     | false =>
      have hm:(x.on,ops[x.on]) ∈ D7 ops listed:=Xc.2 ⟨by simp[T],C⟩
      rw[m] at hm
      rcases List.mem_cons.1 hm with D | D
      ·have:x.on=p.1:=by rw[←D]
       omega
      ·have:=S _ D
       simp at this;omega⟩
    rw[M] at this;simp at this
  ·obtain⟨hl,o,n,U⟩:=mem_ready.1 hi
   have V:(i,o) ∈ D7 ops listed:=Xc.2 ⟨n,hl⟩
   obtain⟨A,B,hAB⟩:=List.append_of_mem V
   have y:∀ k ∈ Y5 o,listed.getD k false=true:=by
    intro k X
    unfold Y5 at X
    obtain⟨x,z,rfl⟩:=List.mem_map.1 X
    obtain⟨G,t⟩:=List.mem_filter.1 z
    exact U x (by simpa using G) (by rw[oJ];exact t)
   have O:=EV (ops:=ops) listed
   rw[hAB] at O
   have hs':=List.pairwise_append.1 O
   rw[hAB] at c
   obtain⟨q,g1,g2,g3⟩:=c.pull (fun jp Y=>by
    have u:jp.1<i:=hs'.2.2 jp Y (i,o) (by simp)
    obtain⟨an,G,t⟩:=F i jp.1 o n u
    rcases t with t | t
    ·exfalso
     have:=xH hclosed i an o G n y jp.1 t
     have hjm:jp ∈ D7 ops listed:=by rw[hAB];simp[Y]
     have h3:=(Xc.1 hjm).2
     rw[Array.getD_eq_getD_getElem?] at this h3
     cases C:listed[jp.1]? with
     | none=>rw[C] at this;simp at this
     | some b=>rw[C] at this h3;simp at this h3;rw[this] at h3;cases h3
    ·exact t)
   have hone:tE E ops o st (fun s f=>some (s,f))=some (after E o st q,q.2.2):=by rw[JO,g1];rfl
   obtain⟨st',f,h4,h5⟩:=gq (K:=wpAny E.P .any ops Q d (listed.setIfInBounds i true)) (Q:=Q) hC I hone
   simp only[Option.some.injEq,Prod.mk.injEq] at h4
   obtain⟨rfl,rfl⟩:=h4
   have u:i<listed.size:=by rw[L];exact(Array.getElem?_eq_some_iff.1 n).1
   have:=h5 (fun a' w' J' β' I'=>ih (listed.setIfInBounds i true) (by simp[L]) (by
     rw[tg hAB];rw[hAB] at l;simp at l ⊢;omega) (fun j oj v hj k X=>?_) (by rw[tg hAB];exact g3) I')
   ·unfold wpOp
    rw[n]
    simp only
    split
    ·rename_i hw;rw[if_pos hw] at this;exact .inl this
    ·rename_i hw;rw[if_neg hw] at this;exact this
   ·by_cases D:j=i
    ·subst D
     rw[n] at v;simp at v;subst v
     exact getD_set_true (y k X)
    ·rw[getD_set_ne true (fun e'=>D e'.symm)] at hj
     exact getD_set_true (hclosed j oj v hj k X)
end
end Gx

namespace Gx
open Go
section
variable {R:Type} {r:R} {Z:Start} {E:Env}
theorem m5 (hC:QC E) (T:E.P.follows .mixedOrders=true) {roots:List Nat} {id:Nat} {ops:Array Oper} {draw:Bool} {st:St} {k:St→O R} {a:Act} {w:World} {J:Bool→Nat→Prop} {β:Bl} {Q:Exit→Act→World→Prop}
  (I:Inv Z E.nt J β st a w) (C:JI E roots ops draw st k=some r) (hQ:∀ st' d w' J' β',Inv Z E.nt J' β' st' d w'→k st'=some r→Q .normal d w'):(Code.region id ops draw).wp E.P Q a w:=by
 unfold JI at C
 have done:∀ {st':St} {tr:List Foot} {d:Act} {w':World} {J':Bool→Nat→Prop} {β':Bl},Inv Z E.nt J' β' st' d w' →
   cond (!draw||(Re 0 ops.toList&&JH tr.reverse (Es ops.toList []) [])) ((clean (st'.s.map (·.1)) roots st').bind k) none=some r→Q .normal d w':=by
  intro st' tr d w' J' β' I' h'
  obtain⟨_,A⟩:=uc h'
  obtain⟨st2,B,K⟩:=ub A
  obtain⟨β2,I2⟩:=tZ I' B
  exact hQ _ _ _ _ _ I2 K
 cases draw with
 | false=>exact wp_region_list (gt hC _ I C (fun st' U d w' J' β' I' h'=>done I' h'))
 | true =>
  obtain⟨fs,e,A,B⟩:=te C
  obtain⟨L,K⟩:=uc A
  simp at L
  obtain⟨D,t⟩:=L
  have v:=B.length
  refine wp_region_any T ?_
  have I':Inv Z E.nt J β st a w.drew:=I.step (Step.drew I.sim) (fun b x V M=>by rw[V] at M;cases M)
  have c:D7 ops (Array.replicate ops.size false)=zJ 0 ops.toList:=by
   unfold D7
   refine List.filter_eq_self.2 (fun p X=>?_)
   have:=(gF.1 X).2
   have m:p.1<ops.size:=by
    simp at this
    exact(Array.getElem?_eq_some_iff.1 this).1
   simp[m]
  have y:(zJ 0 ops.toList).length=ops.size:=by
   have:∀ (l:List Oper) (n:Nat),(zJ n l).length=l.length:=by
    intro l
    induction l with
    | nil=>intro n;rfl
    | cons o r Y=>intro n;simp[zJ,Y]
   rw[this];simp
  have z:RunF E ops (fun i=>fs.getD i { r:=[],w:=none,f:=[],u:=[] }) (zJ 0 ops.toList) st e:=B.runF (fun j f q=>by simp[q])
  refine zr hC (fp:=fun i=>fs.getD i { r:=[],w:=none,f:=[],u:=[] }) (e:=e) D (fun i j o F G=>?_) (fun d w' J' β' Ie=>done (tr:=fs.reverse++[]) Ie A) ops.size _ (by simp) (by rw[c,y]) (fun j o F q=>?_) (by rw[c];exact z) I'
  ·have S:i<fs.length:=by rw[v];simpa using(Array.getElem?_eq_some_iff.1 F).1
   obtain⟨an,g1,g2⟩:=iC t i fs[i] (List.getElem?_eq_getElem S)
   refine⟨an,g1,?_⟩
   have q:j<fs.length:=by omega
   have:=g2 j fs[j] (by simp[q]) (by simpa using G)
   simpa[S,q] using this
  ·exfalso
   have m:j<ops.size:=(Array.getElem?_eq_some_iff.1 F).1
   simp[m] at q
end
end Gx

namespace Gx
open Go
theorem SX (ρ:Nat→Nat):∀ c:LA,(P6 ρ c).length=c.length
 | []=>rfl
 | x::r=>by rw[P6,List.length_cons,List.length_cons,SX ρ r]
theorem Ip (ρ:Nat→Nat) (x:Blk):(T7 ρ x).cells.length=x.cells.length:=by
 unfold T7;cases x.pure
 ·simp;exact SX _ _
 ·rfl
theorem oK {ρ:Nat→Nat}:∀ {c:LA} {j:Nat} {y:AV},(P6 ρ c)[j]?=some y→∃ x,c[j]?=some x∧y=KU ρ x
 | [],j,y,b=>by simp[P6] at b
 | x::r,j,y,b=>by
  rw[P6] at b
  cases j with
  | zero=>simp at b;exact⟨x,by simp,b.symm⟩
  | succ j=>obtain⟨x',d,e⟩:=oK (c:=r) (j:=j) (by simpa using b);exact⟨x',by simpa using d,e⟩
section
variable {R:Type} {r:R} {J J':Bool→Nat→Prop} {β β':Bl} {h h':Ah} {w w':World} {ids:List Nat} {ρ:Nat→Nat}
theorem Jn {g:A0}:∀ {ids:List Nat},(ids.map ρ).Nodup→∀ c y,Ak (sub g ρ ids) c=some y→∃ b x,b ∈ ids∧ρ b=c∧g b=some x∧y=T7 ρ x
 | [],_,c,y,d=>by simp[sub,Ak] at d
 | b::r,f,c,y,d=>by
  rw[List.map_cons,List.nodup_cons] at f
  rw[sub] at d
  split at d
  ·rename_i x n
   rw[Ae] at d
   by_cases e:c=ρ b
   ·rw[if_pos e] at d;simp at d
    exact⟨b,x,by simp,e.symm,n,d.symm⟩
   ·rw[if_neg e] at d
    obtain⟨i,x',j,k,l,m⟩:=Jn f.2 c y d
    exact⟨i,x',by simp[j],k,l,m⟩
  ·obtain⟨i,x',j,k,l,m⟩:=Jn f.2 c y d
   exact⟨i,x',by simp[j],k,l,m⟩
theorem Uf {g:A0}:∀ {ids:List Nat},(ids.map ρ).Nodup→∀ b x,b ∈ ids→g b=some x→Ak (sub g ρ ids) (ρ b)=some (T7 ρ x)
 | [],_,b,x,d,_=>by simp at d
 | j::r,c,b,x,d,f=>by
  rw[List.map_cons,List.nodup_cons] at c
  rw[sub]
  by_cases e:b=j
  ·subst e
   rw[f]
   simp only
   rw[Ae,if_pos rfl]
  ·have i:b ∈ r:=by simpa[e] using d
   have ne:ρ b≠ρ j:=fun h=>c.1 (by rw[←h];exact List.mem_map.2 ⟨b,i,rfl⟩)
   split
   ·rw[Ae,if_neg ne];exact Uf c.2 b x i f
   ·exact Uf c.2 b x i f
def Adi (ρ:Nat→Nat) (ids:List Nat) (c:Nat):Option Nat:=ids.find? fun b=>Nat.beq (ρ b) c
theorem Adj (c:(ids.map ρ).Nodup) {b:Nat} (d:b ∈ ids):Adi ρ ids (ρ b)=some b:=by
 induction ids with
 | nil=>simp at d
 | cons i r f =>
  rw[List.map_cons,List.nodup_cons] at c
  unfold Adi at f ⊢
  rw[List.find?_cons]
  by_cases e:b=i
  ·subst e;simp
  ·have j:b ∈ r:=by simpa[e] using d
   have ne:ρ i≠ρ b:=fun h=>c.1 (by rw[h];exact List.mem_map.2 ⟨b,j,rfl⟩)
   rw[EC ne];exact f c.2 j
def BN (ρ:Nat→Nat) (ids:List Nat) (β:Bl):Bl:=fun c=>(Adi ρ ids c).bind β
theorem Ey (c:(ids.map ρ).Nodup) {b:Nat} (d:b ∈ ids):BN ρ ids β (ρ b)=β b:=by
 unfold BN;rw[Adj c d];rfl
mutual
theorem Rep.ren (hn:(ids.map ρ).Nodup):∀ {x:AV} {v:Value},(∀ b ∈ Ew x,b ∈ ids)→Rep J β h w x v→Rep J (BN ρ ids β) (sub (Ak h) ρ ids) w (KU ρ x) v
 | .own b off n,v,hm,hr=>by
  rw[Rep] at hr
  obtain⟨x,A,cap,⟨hx,hmp⟩,h1,h2,h3⟩:=hr
  have hb:=hm b (by simp[Ew])
  rw[KU,Rep]
  refine⟨T7 ρ x,A,cap,⟨Uf hn b x hb hx,hmp⟩,h1,h2,?_⟩
  rw[Ip,Ey hn hb]
  exact h3
 | .optr b off,v,hm,hr=>by
  rw[Rep] at hr
  obtain⟨x,k,o,⟨hx,hmp⟩,h1,h2⟩:=hr
  have hb:=hm b (by simp[Ew])
  rw[KU,Rep]
  refine⟨T7 ρ x,k,o,⟨Uf hn b x hb hx,hmp⟩,h1,?_⟩
  rw[Ey hn hb]
  exact h2
 | .omap b,v,hm,hr=>by
  rw[Rep] at hr
  obtain⟨x,k,⟨hx,hmp⟩,h2⟩:=hr
  have hb:=hm b (by simp[Ew])
  rw[KU,Rep]
  refine⟨T7 ρ x,k,⟨Uf hn b x hb hx,hmp⟩,?_⟩
  rw[Ey hn hb]
  exact h2
 | .agg c,v,hm,hr=>by
  rw[Rep] at hr
  obtain⟨cs,h1,h2⟩:=hr
  rw[KU,Rep]
  exact⟨cs,h1,Reps.ren hn (by simpa[Ew] using hm) h2⟩
 | .tup c,v,hm,hr=>by
  rw[Rep] at hr
  obtain⟨cs,h1,h2⟩:=hr
  rw[KU,Rep]
  exact⟨cs,h1,Reps.ren hn (by simpa[Ew] using hm) h2⟩
 | .fn f c,v,hm,hr=>by
  rw[Rep] at hr
  obtain⟨cs,h1,h2⟩:=hr
  rw[KU,Rep]
  exact⟨cs,h1,Reps.ren hn (by simpa[Ew] using hm) h2⟩
 | .pagg c o,v,hm,hr=>by show Rep J _ _ w (.pagg c o) v;rw[Rep] at hr ⊢;exact hr
 | .undef,v,hm,hr=>by show Rep J _ _ w (.undef) v;rw[Rep] at hr ⊢;exact hr
 | .imm c n sz t o,v,hm,hr=>by show Rep J _ _ w (.imm c n sz t o) v;rw[Rep] at hr ⊢;exact hr
 | .iptr c o,v,hm,hr=>by show Rep J _ _ w (.iptr c o) v;rw[Rep] at hr ⊢;exact hr
 | .int k n,v,hm,hr=>by show Rep J _ _ w (.int k n) v;rw[Rep] at hr ⊢;exact hr
 | .bool b,v,hm,hr=>by show Rep J _ _ w (.bool b) v;rw[Rep] at hr ⊢;exact hr
 | .str s,v,hm,hr=>by show Rep J _ _ w (.str s) v;rw[Rep] at hr ⊢;exact hr
 | .nsl,v,hm,hr=>by show Rep J _ _ w (.nsl) v;rw[Rep] at hr ⊢;exact hr
 | .nilptr,v,hm,hr=>by show Rep J _ _ w (.nilptr) v;rw[Rep] at hr ⊢;exact hr
 | .nilfn,v,hm,hr=>by show Rep J _ _ w (.nilfn) v;rw[Rep] at hr ⊢;exact hr
theorem Reps.ren (hn:(ids.map ρ).Nodup):∀ {c:List AV} {cs:List Value},(∀ b ∈ Fw c,b ∈ ids)→Reps J β h w c cs→Reps J (BN ρ ids β) (sub (Ak h) ρ ids) w (P6 ρ c) cs
 | [],cs,hm,hr=>by rw[Reps] at hr;rw[P6,Reps];exact hr
 | x::r,cs,hm,hr=>by
  rw[Reps] at hr
  obtain⟨u,us,h1,h2,h3⟩:=hr
  rw[P6,Reps]
  exact⟨u,us,h1,Rep.ren hn (fun b hb=>hm b (by simp[Fw,hb])) h2,Reps.ren hn (fun b hb=>hm b (by simp[Fw,hb])) h3⟩
end
theorem SimH.ren (S:SimH J β h w) (e:(ids.map ρ).Nodup) (B:∀ b ∈ Hi (Ak h) ids,b ∈ ids):SimH J (BN ρ ids β) (sub (Ak h) ρ ids) w:=by
 refine⟨S.jlt,S.jft,S.gl,fun c y n s C=>?_,fun c y n s C=>by
   obtain⟨b,x,f,rfl,l,rfl⟩:=Jn e c y n
   obtain⟨m,t,k,ob,D,F,A,G⟩:=S.mblk b x l s C
   have:(T7 ρ x).cells=x.cells:=by unfold T7;rw[m];rfl
   exact⟨m,t,k,ob,by rw[Ey e f];exact D,F,by rw[ObjIs,show(T7 ρ x).sz=x.sz from rfl,this];exact A,G⟩,?_⟩
 ·obtain⟨b,x,f,rfl,l,rfl⟩:=Jn e c y n
  rcases S.blk b x l s C with⟨m,t⟩ | ⟨k,o,cs,ty,fr,m,t,D,F,A,G,U⟩
  ·refine .inl ⟨by rw[Ey e f];exact m,?_⟩
   have:=Ip ρ x;rw[t] at this;simpa using this
  ·refine .inr ⟨k,o,cs,ty,fr,by rw[Ey e f];exact m,t,D,by rw[Ip];exact F,⟨fun I=>?_,fun I j q O=>?_⟩,G,U⟩
   ·have d:x.pure=true:=I
    have:(T7 ρ x).cells=x.cells:=by unfold T7;rw[d];rfl
    rw[this];exact A.1 d
   ·have d:x.pure=false:=I
    have:(T7 ρ x).cells=P6 ρ x.cells:=by unfold T7;rw[d];rfl
    rw[this] at O
    obtain⟨V,hq,rfl⟩:=oK O
    obtain⟨u,X,Y,ho⟩:=A.2 d j V hq
    exact⟨u,X,Rep.ren e (fun v i=>B v (ZU f l d v (ZV hq v i))) Y,ho⟩
 ·intro c c' y y' k o o' n K s L hs T z
  obtain⟨b,x,f,rfl,l,rfl⟩:=Jn e c y n
  obtain⟨v,x',i,rfl,M,rfl⟩:=Jn e c' y' K
  rw[Ey e f] at T
  rw[Ey e i] at z
  rw[S.sep b v x x' k o o' l M s L hs T z]
theorem qs (d:(ids.map ρ).Nodup) {k:Nat} (f:tH (BN ρ ids β) (sub (Ak h) ρ ids) k):tH β h k:=by
 obtain⟨c,y,o,i,j,l,e⟩:=f
 obtain⟨b,x,m,rfl,n,rfl⟩:=Jn d c y i
 rw[Ey d m] at e
 exact⟨b,x,o,n,j,l,e⟩
end
end Gx

namespace Gx
open Go
theorem Kl {ids:List Nat}:∀ {l:List Nat},BF ids l=true→∀ b ∈ l,b ∈ ids
 | [],_,b,c=>by simp at c
 | i::r,h,b,c=>by
  rw[BF] at h
  simp at h
  rcases List.mem_cons.1 c with rfl | c
  ·exact Hk.1 h.1
  ·exact Kl h.2 b c
theorem R7 {d:Nat}:∀ {l:List Nat} {base b:Nat},b ∈ l→base≤Gb d (Ar base l) b∧Gb d (Ar base l) b<base+l.length
 | [],base,b,c=>by simp at c
 | i::r,base,b,c=>by
  rw[Ar,Gb]
  cases f:Nat.beq i b with
  | true=>simp
  | false =>
   have e:=P7 f
   have j:b ∈ r:=by
    rcases List.mem_cons.1 c with h | h
    ·exact absurd h.symm e
    ·exact h
   have:=R7 (d:=d) (base:=base+1) j
   simp only[cond_false,List.length_cons]
   omega
theorem th {free ids:List Nat} {b:Nat} (h:W7 free b=true):R3 free ids b=b:=by unfold R3;rw[h];rfl
theorem qt {free ids:List Nat} {b:Nat} (h:W7 free b=false) (c:b ∈ ids):300000≤R3 free ids b:=by
 unfold R3 Ac8;rw[h]
 exact(R7 (List.mem_filter.2 ⟨c,by simp[h]⟩)).1
theorem iD {b:Nat}:g9 b=true↔100000≤b∧b<200000:=by unfold g9;simp
theorem cO {free ids:List Nat} {b c:Nat} (f:b ∈ ids) (i:100000≤c∧c<200000) (d:R3 free ids b=c):b=c:=by
 cases e:W7 free b with
 | true=>rw[th e] at d;exact d
 | false=>have:=qt e f;omega
theorem Xd {ρ:Nat→Nat} {K:List Nat}:∀ {s:Ev} {i:Nat},D2 (Ac9 ρ K s) i=if Fx K i=true then KU ρ (D2 s i) else .undef
 | [],i=>by
  show AV.undef=if Fx K i=true then KU ρ .undef else AV.undef
  simp[KU]
 | (t,v)::r,i=>by
  rw[Ac9]
  by_cases e:t=i
  ·subst e
   cases b:Fx K t with
   | true=>simp[D2]
   | false=>simp only[cond_false];rw[Xd];simp[b]
  ·have c:Nat.beq t i=false:=EC e
   cases b:Fx K t with
   | true=>simp only[cond_true,D2,c,cond_false];exact Xd
   | false=>simp only[cond_false,D2,c];exact Xd
theorem ti {g:A0} {l:List Nat} {b:Nat} (h:b ∈ Ua g l):∃ x,g b=some x∧x.dead=false:=by
 unfold Ua at h
 obtain⟨_,c⟩:=List.mem_filter.1 h
 unfold D3 at c
 cases d:g b with
 | none=>simp[d] at c
 | some x =>
  cases e:x.dead with
  | false=>exact⟨x,rfl,e⟩
  | true=>simp[d,e] at c
section
variable {Z:Start} {nt:Nat} {J:Bool→Nat→Prop} {β:Bl} {st st':St} {a:Act} {w:World}
def AV.isz:AV→Nat
 | .imm _ _ s _ _=>s
 | _=>0
theorem Jo {live:List Nat}:∀ (nils:List (Nat×Nat)) {st:St} {J:Bool→Nat→Prop} {β:Bl},Inv Z nt J β st a w→Y6 live nils st=some st'→∃ J' β',Inv Z nt J' β' st' a w
 | [],st,J,β,I,f=>by simp[Y6] at f;subst f;exact⟨J,β,I⟩
 | (t,sz)::r,st,J,β,I,f=>by
  rw[Y6] at f
  cases z:Nat.ble 1000000 sz with
  | true =>
   rw[z,cond_true] at f
   split at f
   ·rename_i S l
    refine Jo r (J:=J) (β:=β) (st:={ s:=PW st.s t (.imm [] 0 (sz - 1000000) false false),h:=st.h }) ?_ f
    refine { I with ss:=⟨fun i v k=>?_,fun i m=>?_⟩ }
    ·rw[Jk]
     by_cases e:i=t
     ·subst e
      have:=I.ss.slot i v k
      rw[l,Rep] at this
      subst this
      rw[if_pos rfl,Rep,RepC]
      exact⟨by simp,none,0,rfl,Nat.le_refl _,fun _=>rfl,.inl rfl⟩
     ·rw[if_neg e];exact I.ss.slot i v k
    ·rw[Jk]
     by_cases e:i=t
     ·subst e
      have:=I.ss.out i m
      rw[l] at this;cases this
     ·rw[if_neg e];exact I.ss.out i m
   ·rename_i b off n S l
    obtain⟨⟨v',ups,org⟩,B,U⟩:=ub f
    by_cases C:∃ v,a.tmps[t]?=some v
    ·obtain⟨v0,D⟩:=C
     have T:=I.ss.slot t v0 D
     rw[l] at T
     obtain⟨J1,A,q,_⟩:=EP I.sim (fun b x V=>⟨x,V,rfl⟩) B T
     have I1:=I.step A (fun c x u G=>by
      exfalso
      unfold K' at B
      obtain⟨y,L,j⟩:=ub B
      obtain⟨_,j⟩:=uc j
      simp at j
      obtain⟨_,j,_⟩:=j
      subst j
      simp only[Ai,Ae] at u
      unfold D3 at L
      obtain⟨y0,F,_⟩:=ub L
      by_cases e:c=b
      ·subst e;rw[G] at F;cases F
      ·rw[if_neg e,G] at u;cases u)
     refine Jo r (J:=J1) (β:=β) (st:={ s:=PW st.s t v',h:=Ai ups st.h }) ?_ U
     have M:∃ c,v'=.imm c n (v'.isz) false org:=by
      unfold K' at B
      obtain⟨y,L,j⟩:=ub B
      obtain⟨_,j⟩:=uc j
      simp at j
      obtain⟨j,_,X⟩:=j
      subst j X
      exact⟨_,rfl⟩
     refine { I1 with ss:=⟨fun i v k=>?_,fun i m=>?_⟩ }
     ·rw[Jk]
      by_cases e:i=t
      ·subst e
       rw[if_pos rfl]
       rw[D] at k;simp at k;subst k
       obtain⟨c,Y⟩:=M
       rw[Y] at q ⊢
       rw[Rep];exact q
      ·rw[if_neg e];exact I1.ss.slot i v k
     ·rw[Jk]
      by_cases e:i=t
      ·subst e
       have:=I.ss.out i m
       rw[l] at this;cases this
      ·rw[if_neg e];exact I1.ss.out i m
    ·exfalso
     have:=I.ss.out t (by
      cases h:a.tmps[t]? with
      | none=>simp at h;omega
      | some v=>exact absurd ⟨v,h⟩ C)
     rw[l] at this;cases this
   ·exact Jo r I f
  | false =>
   rw[z,cond_false] at f
   split at f
   ·rename_i S l
    cases O:Ak st.h (nid t+15) with
    | some x=>simp[O] at f
    | none =>
     simp[O] at f
     have A:=Step.newNone I.sim (d:=nid t+15) (x:=D4 sz) O rfl
     have I1:=I.step A (fun b x u G=>by
      rw[Ae] at u
      by_cases e:b=nid t+15
      ·subst e;unfold nid Fc;omega
      ·rw[if_neg e,G] at u;cases u)
     refine Jo r (J:=J) (β:=fun b=>if b=nid t+15 then none else β b) (st:={ s:=PW st.s t (.own (nid t+15) 0 0),h:=Dk st.h (nid t+15) (D4 sz) }) ?_ f
     refine { I1 with ss:=⟨fun i v k=>?_,fun i m=>?_⟩ }
     ·rw[Jk]
      by_cases e:i=t
      ·subst e
       rw[if_pos rfl,Rep]
       have:=I.ss.slot i v k
       rw[l,Rep] at this
       subst this
       exact⟨D4 sz,none,0,⟨by rw[Ae,if_pos rfl],rfl⟩,rfl,Nat.le_refl _,.inl rfl⟩
      ·rw[if_neg e];exact I1.ss.slot i v k
     ·rw[Jk]
      by_cases e:i=t
      ·subst e
       have:=I.ss.out i m
       rw[l] at this;cases this
      ·rw[if_neg e];exact I1.ss.out i m
   ·exact Jo r I f
theorem EW {E:Env} {live roots:List Nat} (I:Inv Z nt J β st a w) (l:SM E live roots st=some st'):∃ J' β',Inv Z nt J' β' st' a w:=by
 unfold SM at l
 obtain⟨s1,t,u⟩:=ub l
 obtain⟨J1,β1,I1⟩:=Jo _ I t
 obtain⟨m,n⟩:=uc u
 simp at m n
 subst n
 obtain⟨c,y,e,_⟩:=m
 have c:=Nt c
 have f:∀ b ∈ Hi (Ak s1.h) (Ua (Ak s1.h) (Rx (Ak s1.h) (gZ live s1.s++roots))),b ∈ Ua (Ak s1.h) (Rx (Ak s1.h) (gZ live s1.s++roots)):=Kl e
 refine⟨J1,BN _ _ β1,{ I1 with sim:=I1.sim.ren c f,ss:=⟨fun i v z=>?_,fun i e=>?_⟩,wr:=fun k A=>I1.wr k (qs c A),outs:=fun b x0 x j B C=>?_ }⟩
 ·rw[Xd]
  cases D:Fx live i with
  | false=>simp[Rep]
  | true =>
   simp only[if_true]
   exact Rep.ren c (fun b F=>Kl y b (gv D b F)) (I1.ss.slot i v z)
 ·rw[Xd,I1.ss.out i e];simp[KU]
 ·obtain⟨G,x',d,q,K,rfl⟩:=Jn c b x B
  have:=cO d ⟨I1.zge b x0 j,I1.zlt b x0 j⟩ q
  subst this
  obtain⟨⟨L,em⟩,M,O,S⟩:=I1.outs G x0 x' j K C
  refine⟨⟨?_,em⟩,M,by rw[Ip];exact O,S⟩
  have:=Ey (β:=β1) c d
  rw[q] at this
  rw[this];exact L
end
end Gx

namespace Gx
open Go
section
variable {R:Type} {r:R} {Z:Start} {E:Env}
theorem tj (hC:QC E) (B:E.P.follows .mixedOrders=true) {roots:List Nat} {N:Nat}:∀ (c:Code) {H:Hint} {kn:St→O R} {kx:Nat→St→O R} {kr:St→O R} {st:St} {a:Act} {w:World} {J:Bool→Nat→Prop} {β:Bl} {Q:Exit→Act→World→Prop},
  Inv Z E.nt J β st a w→D5 E roots N c H kn kx kr st=some r →
  (∀ st' d w' J' β',Inv Z E.nt J' β' st' d w'→kn st'=some r→Q .normal d w') →
  (∀ id st' d w' J' β',Inv Z E.nt J' β' st' d w'→kx id st'=some r→Q (.exit id) d w') →
  (∀ st' d w' J' β',Inv Z E.nt J' β' st' d w'→kr st'=some r→Q .ret d w')→c.wp E.P Q a w:=by
 intro c
 induction c with
 | skip=>intro H kn kx kr st a w J β Q I b e f i;exact wp_skip (e _ _ _ _ _ I b)
 | region id ops draw=>intro H kn kx kr st a w J β Q I b e f i;exact m5 hC B I b e
 | seq x y m l =>
  intro H kn kx kr st a w J β Q I b e f i
  rw[D5] at b
  refine wp_seq (m I b (fun st' d w' J' β' I' h'=>?_) (fun id st' d w' J' β' I' h'=>f id st' d w' J' β' I' h') (fun st' d w' J' β' I' h'=>i st' d w' J' β' I' h'))
  unfold zg at h'
  cases q:H.isJoin with
  | true =>
   rw[q,cond_true,Ub] at h'
   obtain⟨s2,s,u⟩:=ub h'
   obtain⟨J2,β2,I2⟩:=EW I' s
   exact l I2 u e f i
  | false=>rw[q] at h';exact l I' h' e f i
 | cond c x y m l =>
  intro H kn kx kr st a w J β Q I b e f i
  rw[D5] at b
  split at b
  ·rename_i t C
   have A:=Az I.ss c
   rw[C,Rep] at A
   refine wp_cond A ?_
   cases t with
   | true=>exact m I b e f i
   | false=>exact l I b e f i
  ·simp at b
 | block id c v =>
  intro H kn kx kr st a w J β Q I b e f i
  rw[D5] at b
  refine wp_block (v I b (fun st' d w' J' β' I' h'=>e _ _ _ _ _ I' h') (fun j st' d w' J' β' I' h'=>?_) (fun st' d w' J' β' I' h'=>i _ _ _ _ _ I' h'))
  cases q:Nat.beq j id with
  | true =>
   rw[q] at h'
   have:=Nat.eq_of_beq_eq_true q
   subst this
   simp only[Exit.inBlock,if_true]
   exact e _ _ _ _ _ I' h'
  | false =>
   rw[q] at h'
   simp only[Exit.inBlock]
   rw[if_neg (P7 q)]
   exact f _ _ _ _ _ _ I' h'
 | loop c v =>
  intro H kn kx kr st a w J β Q I b e f i
  rw[D5,Ub] at b
  refine wp_loop_rounds N ?_
  have key:∀ (n:Nat) {st:St} {a:Act} {w:World} {J:Bool→Nat→Prop} {β:Bl},Inv Z E.nt J β st a w→EM (SM E H.live roots) (fun k st=>D5 E roots N c H.a k kx kr st) n st=some r→Code.rounds E.P c Q n a w:=by
   intro n
   induction n with
   | zero=>intro st a w J β I h';simp[EM] at h'
   | succ n z =>
    intro st a w J β I h'
    rw[EM] at h'
    rw[rounds_succ]
    refine v I h' (fun st' d w' J' β' I' h''=>?_) (fun id st' d w' J' β' I' h''=>f _ _ _ _ _ _ I' h'') (fun st' d w' J' β' I' h''=>i _ _ _ _ _ I' h'')
    obtain⟨s2,s,u⟩:=ub h''
    obtain⟨J2,β2,I2⟩:=EW I' s
    exact z I2 u
  obtain⟨s2,s,u⟩:=ub b
  obtain⟨J2,β2,I2⟩:=EW I s
  exact key N I2 u
 | exit id=>intro H kn kx kr st a w J β Q I b e f i;exact wp_exit (f _ _ _ _ _ _ I b)
 | ret=>intro H kn kx kr st a w J β Q I b e f i;exact wp_ret (i _ _ _ _ _ I b)
 | rangeFunc=>intro H kn kx kr st a w J β Q I b;simp[D5] at b
 | scope=>intro H kn kx kr st a w J β Q I b;simp[D5] at b
 | label=>intro H kn kx kr st a w J β Q I b;simp[D5] at b
 | goto=>intro H kn kx kr st a w J β Q I b;simp[D5] at b
 | refuse=>intro H kn kx kr st a w J β Q I b;simp[D5] at b
end
end Gx

namespace Gx
open Go
structure FDone (Z:Start) (J:Bool→Nat→Prop) (β:Bl) (h:Ah) (w:World):Prop where
 sim:SimH J β h w
 os:w.os=Z.w.os
 tape:w.tape=Z.w.tape
 output:w.output=Z.w.output
 size:Z.w.heap.size≤w.heap.size
 frame:∀ k,k<Z.w.heap.size→¬ tH Z.β Z.h k→w.heap[k]?=Z.w.heap[k]?
 wr:∀ k,tH β h k→k<Z.w.heap.size→tH Z.β Z.h k
 jsub:∀ o k,Z.J o k→J o k
 jup:∀ o k,J o k→Z.J o k∨tH Z.β Z.h k∨Z.w.heap.size≤k
 sizes:∀ k,A1 Z.w k≤A1 w k
 outs:∀ b x0 x,Ak Z.h b=some x0→Ak h b=some x→x.dead=false→(β b=Z.β b∧x.mp=x0.mp)∧x.sz=x0.sz∧(x0.mp=false→x.cells.length=x0.cells.length)∧x0.dead=false
 live:∀ b x,Ak h b=some x→x.dead=false
def Ai1 (P:Program) (f:Nat) (args:LA) (h:Ah) (res:AV) (h':Ah):Prop :=
 ∀ (J:Bool→Nat→Prop) (β:Bl) (w:World) (vs:List Value),SimH J β h w→Reps J β h w args vs →
  Calls P f vs.toArray w fun e w'=>∃ vc J' β',e=.returned vc∧FDone ⟨J,β,h,w⟩ J' β' h' w'∧Rep J' β' h' w' res vc
def tm (P:Program) (f:Nat) (t:Tw):Prop:=∀ args h res h',(t.runK args h fun v h'=>some (v,h'))=some (res,h')→Ai1 P f args h res h'
def iE (P:Program):List (Nat×Tw)→Prop
 | []=>True
 | p::r=>tm P p.1 p.2∧iE P r
theorem tn {P:Program} {R:Type} {r:R}:∀ {T:List (Nat×Tw)},iE P T→∀ {f:Nat} {b:LA} {h:Ah} {k:AV→Ah→O R},SI T f b h k=some r →
  ∃ c h',Ai1 P f b h c h'∧k c h'=some r
 | [],_,f,b,h,k,d=>by simp[SI] at d
 | (g,t)::T,hT,f,b,h,k,d=>by
  rw[SI] at d
  cases e:Nat.beq g f with
  | false=>rw[e] at d;exact tn hT.2 d
  | true =>
   rw[e] at d
   have:=Nat.eq_of_beq_eq_true e
   subst this
   simp only[cond_true] at d
   rw[t.eq] at d
   obtain⟨⟨c,h'⟩,i,j⟩:=ub d
   exact⟨c,h',hT.1 b h c h' i,j⟩
section
variable {R:Type} {r:R} {Z:Start} {nt:Nat} {J:Bool→Nat→Prop} {β:Bl} {st:St} {a:Act} {w:World}
def SY (tmps:Array Value):ResultVar→Sem Value
 | .tmp t=>pure (tmps.getD t undef)
 | .cell a t=>do loadVar t (←Go.asAddr (tmps.getD a undef))
theorem Adk {α β:Type} (f:α→Sem β) (xs:Array α):xs.mapM f=(List.toArray <$> xs.toList.mapM f):=by
 rw[←List.mapM_toArray]
theorem xI (fn:Func) (tmps:Array Value):results fn tmps=(do let vs ←fn.results.mapM (SY tmps);pure (if h:vs.size=1 then vs[0] else .tuple vs)):=by
 unfold results
 congr 1
def tp (l:List Value):Value:=match l with | [v]=>v | l=>.tuple l.toArray
theorem tq {P:Program} (fn:Func) (tmps:Array Value) {vs:List Value} (h:(fn.results.toList.mapM (SY tmps)).run P w=.ok vs w):(results fn tmps).run P w=.ok (tp vs) w:=by
 rw[xI,Adk]
 simp only[map_eq_pure_bind,Sem.run_bind,h,Result.andThen_ok,Sem.run_pure]
 congr 1
 match vs with
 | []=>rfl
 | [v]=>rfl
 | v::u::r=>simp[tp]
theorem tt {P:Program} {t:TypeId} {v vc:Value} (h:(Instr.loadAt t v).run P w=.ok vc w):(do loadVar t (←Go.asAddr v):Sem Value).run P w=.ok vc w:=by
 unfold Instr.loadAt at h
 cases v with
 | pointer a =>
  cases a with
  | some a=>exact h
  | none=>simp[Instr.sureAddr] at h
 | _=>simp[Instr.sureAddr] at h
theorem V8 {E:Env} (S:SimH J β st.h w) (SS:SimS J β st.h w st.s a.tmps):∀ (l:List ResultVar) {b:LA} {k:LA→O R},Jj E st l b k=some r →
  ∃ vals vs,k (b.reverse++vals)=some r∧(l.mapM (SY a.tmps)).run E.P w=.ok vs w∧Reps J β st.h w vals vs
 | [],b,k,c=>⟨[],[],by simpa[Jj] using c,by simp,by rw[Reps]⟩
 | .tmp t::l,b,k,c=>by
  rw[Jj] at c
  obtain⟨vals,vs,d,e,f⟩:=V8 S SS l c
  refine⟨D2 st.s t::vals,a.tmps.getD t undef::vs,by simpa using d,?_,by rw[Reps];exact⟨_,_,rfl,Az SS (.tmp t),f⟩⟩
  simp only[List.mapM_cons,SY,Sem.run_bind,Sem.run_pure,Result.andThen_ok,e]
 | .cell ad t::l,b,k,c=>by
  rw[Jj] at c
  obtain⟨v,vc,i,d,e⟩:=cA S (fun _ _ h=>h) c (Az SS (.tmp ad))
  obtain⟨vals,vs,f,j,m⟩:=V8 S SS l i
  refine⟨v::vals,vc::vs,by simpa using f,?_,by rw[Reps];exact⟨_,_,rfl,e,m⟩⟩
  have:(SY a.tmps (.cell ad t)).run E.P w=.ok vc w:=tt d
  simp only[List.mapM_cons,Sem.run_bind,this,Sem.run_pure,Result.andThen_ok,j]
theorem xJ {i:Nat} {m:Nat×Nat} {v v':AV} {ups:C9} {vc:Value} {h:Ah} (S:SimH J β h w) (d:Agx (Ak h) i m v=some (v',ups)) (f:Rep J β h w v vc) :
  ∃ J' β',Step J β h w J' β' (Ai ups h) w∧Rep J' β' (Ai ups h) w v' vc∧(∀ b x,Ak (Ai ups h) b=some x→Ak h b=none→Fc≤b):=by
 have old:∀ {ups:C9},(∀ b,Ax ups b=true→∃ x,Ak h b=some x)→∀ b x,Ak (Ai ups h) b=some x→Ak h b=none→Fc≤b:=by
  intro ups D b x j q
  cases u:Ax ups b with
  | true=>obtain⟨y,F⟩:=D b u;rw[F] at q;cases q
  | false=>rw[Br _ _ _ u,q] at j;cases j
 unfold Agx at d
 cases z:Nat.beq m.1 0 with
 | true =>
  rw[z] at d;simp at d
  obtain⟨rfl,rfl⟩:=d
  exact⟨J,β,Step.refl S,f,old (by simp[Ax])⟩
 | false =>
  rw[z,cond_false] at d
  cases B:Nat.beq m.1 1 with
  | true =>
   rw[B,cond_true] at d
   split at d
   ·simp at d;obtain⟨rfl,rfl⟩:=d
    rw[Rep] at f;subst f
    refine⟨J,β,Step.refl S,?_,old (by simp[Ax])⟩
    rw[Rep,RepC]
    exact⟨by simp,none,0,rfl,Nat.le_refl _,by simp,.inl rfl⟩
   ·simp at d;obtain⟨rfl,rfl⟩:=d
    refine⟨J,β,Step.refl S,?_,old (by simp[Ax])⟩
    rw[Rep,RepC] at f ⊢
    obtain⟨G,A,cap,I,L,Y,M⟩:=f
    exact⟨G,A,cap,I,L,by simp,M⟩
   ·obtain⟨⟨O,T,U⟩,hq,l⟩:=ub d
    simp at l;obtain⟨rfl,rfl⟩:=l
    obtain⟨J',A,hA,_⟩:=EP S (Looks.s fun _ _ h=>h) hq f
    refine⟨J',β,A,?_,old (oE hq)⟩
    unfold K' at hq
    obtain⟨x,j,k⟩:=ub hq
    obtain⟨_,C⟩:=uc k
    simp at C
    obtain⟨rfl,rfl,rfl⟩:=C
    rw[Rep];exact hA
   ·simp at d
  | false =>
   rw[B,cond_false] at d
   cases l:Nat.beq m.1 2 with
   | true =>
    rw[l,cond_true] at d
    split at d
    ·obtain⟨q,k⟩:=wn d
     simp at k;obtain⟨rfl,rfl⟩:=k
     have t:Ak h (nid 90000+i)=none:=by cases j:Ak h (nid 90000+i)<;>simp_all
     have A:=Step.newNone S (x:=D4 m.2) t rfl
     refine⟨J,fun b=>if b=nid 90000+i then none else β b,A,?_,fun b x j V=>?_⟩
     ·rw[Rep] at f;subst f;rw[Rep]
      exact⟨D4 m.2,none,0,⟨by simp only[Ai];rw[Ae,if_pos rfl],rfl⟩,rfl,Nat.le_refl _,.inl rfl⟩
     ·simp only[Ai] at j
      rw[Ae] at j
      by_cases e:b=nid 90000+i
      ·subst e;unfold nid Fc;omega
      ·rw[if_neg e,V] at j;cases j
    ·simp at d;obtain⟨rfl,rfl⟩:=d
     exact⟨J,β,Step.refl S,f,old (by simp[Ax])⟩
   | false =>
    rw[l,cond_false] at d
    split at d
    ·rename_i c
     obtain⟨⟨O,T,U⟩,hq,k⟩:=ub d
     simp at k;obtain⟨rfl,rfl⟩:=k
     rw[Rep] at f
     obtain⟨cs,rfl,X⟩:=f
     obtain⟨J',A,hA,n,_⟩:=Mg S (Looks.s fun _ _ h=>h) hq X
     refine⟨J',β,A,?_,old (R4 hq)⟩
     rw[Rep]
     exact⟨cs,rfl,n.symm,hA⟩
    ·simp at d;obtain⟨rfl,rfl⟩:=d
     exact⟨J,β,Step.refl S,f,old (by simp[Ax])⟩
    ·simp at d
theorem cP {s:Ev}:∀ (vals:LA) {i:Nat} {ms:List (Nat×Nat)} {h h':Ah} {vals':LA} {vs:List Value} {J:Bool→Nat→Prop} {β:Bl},
  Inv Z nt J β { s:=s,h:=h } a w→tF h i ms vals=some (vals',h')→Reps J β h w vals vs →
  ∃ J' β',Inv Z nt J' β' { s:=s,h:=h' } a w∧Reps J' β' h' w vals' vs∧∀ x v,Rep J β h w x v→Rep J' β' h' w x v
 | [],i,ms,h,h',vals',vs,J,β,I,b,d=>by
  simp[tF] at b;obtain⟨rfl,rfl⟩:=b
  exact⟨J,β,I,d,fun _ _ h=>h⟩
 | v::r,i,ms,h,h',vals',vs,J,β,I,b,d=>by
  rw[tF] at b
  obtain⟨⟨v1,u1⟩,l,m⟩:=ub b
  obtain⟨⟨t,y⟩,n,j⟩:=ub m
  simp at j;obtain⟨rfl,rfl⟩:=j
  rw[Reps] at d
  obtain⟨u,q,rfl,e,f⟩:=d
  obtain⟨J1,β1,A,hA,c⟩:=xJ I.sim l e
  have I1:=I.step A c
  obtain⟨J2,β2,I2,hB,k⟩:=cP r I1 n (Reps.ext A.ext f)
  refine⟨J2,β2,I2,?_,fun x v h=>k x v (Rep.ext A.ext h)⟩
  rw[Reps]
  exact⟨u,q,rfl,k _ _ hA,hB⟩
theorem m6 {E:Env} {fn:Func} {modes:List (Nat×Nat)} {outs:List Nat} {k:AV→Ah→O R} (I:Inv Z nt J β st a w) (z:Qm E fn modes outs k st=some r) :
  ∃ f h' vc J' β',k f h'=some r∧(results fn a.tmps).run E.P w=.ok vc w∧FDone Z J' β' h' w∧Rep J' β' h' w f vc:=by
 unfold Qm at z
 obtain⟨vals,vs,A,F,G⟩:=V8 I.sim I.ss _ z
 simp only[List.reverse_nil,List.nil_append] at A
 obtain⟨⟨vals',h'⟩,K,L⟩:=ub A
 obtain⟨J1,β1,I1,hR,_⟩:=cP (s:=st.s) vals I K G
 obtain⟨B,M⟩:=uc L
 simp at B
 obtain⟨e,i,S,_⟩:=B
 have e:=Nt e
 have j:=Kl S
 have i:=Kl i
 refine⟨_,_,tp vs,J1,BN _ _ β1,M,tq fn a.tmps F,?_,Rep.ren e i ?_⟩
 ·exact⟨I1.sim.ren e j,I1.os,I1.tape,I1.output,I1.size,I1.frame,fun k T=>I1.wr k (qs e T),I1.jsub,I1.jup,I1.sizes,fun b x0 x m n U=>by
   obtain⟨C,x',d,q,t,rfl⟩:=Jn e b x n
   have:=cO d ⟨I1.zge b x0 m,I1.zlt b x0 m⟩ q
   subst this
   obtain⟨⟨V,em⟩,X,Y,e4⟩:=I1.outs C x0 x' m t U
   refine⟨⟨?_,em⟩,X,by rw[Ip];exact Y,e4⟩
   have:=Ey (β:=β1) e d
   rw[q] at this
   rw[this];exact V,fun b x n=>by
   obtain⟨C,x',d,q,t,rfl⟩:=Jn e b x n
   obtain⟨x2,y,h8⟩:=ti d
   rw[t] at y;simp at y;subst y;exact h8⟩
 ·match vals',vs,hR with
  | [],vs,hR=>rw[Reps] at hR;subst hR;simp only[tp,Agy];rw[Rep];exact⟨[],rfl,by rw[Reps]⟩
  | [v],vs,hR =>
   rw[Reps] at hR
   obtain⟨u,us,rfl,D,c⟩:=hR
   rw[Reps] at c;subst c
   exact D
  | v::v2::l,vs,hR =>
   have hR':=hR
   rw[Reps] at hR
   obtain⟨u,us,rfl,D,c⟩:=hR
   rw[Reps] at c
   obtain⟨u2,us2,rfl,_,_⟩:=c
   simp only[tp,Agy]
   rw[Rep]
   exact⟨_,rfl,hR'⟩
end
end Gx

namespace Gx
open Go
section
variable {J J':Bool→Nat→Prop} {β:Bl} {h:Ah} {w:World}
mutual
theorem Rep.noOrg:∀ {x:AV} {v:Value},V4 x=false→Rep J β h w x v→Rep (fun _=>J false) β h w x v
 | .own ..,v,_,hr=>by rw[Rep] at hr ⊢;exact hr
 | .optr ..,v,_,hr=>by rw[Rep] at hr ⊢;exact hr
 | .omap ..,v,_,hr=>by rw[Rep] at hr ⊢;exact hr
 | .pagg c o,v,ho,hr=>by
  rw[V4] at ho;subst ho
  rw[Rep] at hr ⊢;exact hr
 | .agg c,v,ho,hr=>by
  rw[V4] at ho
  rw[Rep] at hr ⊢
  obtain⟨cs,h1,h2⟩:=hr
  exact⟨cs,h1,Reps.noOrg ho h2⟩
 | .tup c,v,ho,hr=>by
  rw[V4] at ho
  rw[Rep] at hr ⊢
  obtain⟨cs,h1,h2⟩:=hr
  exact⟨cs,h1,Reps.noOrg ho h2⟩
 | .fn f c,v,ho,hr=>by
  rw[V4] at ho
  rw[Rep] at hr ⊢
  obtain⟨cs,h1,h2⟩:=hr
  exact⟨cs,h1,Reps.noOrg ho h2⟩
 | .undef,_,_,_=>by rw[Rep];trivial
 | .imm c n sz t o,v,ho,hr=>by
  rw[V4] at ho;subst ho
  rw[Rep] at hr ⊢;exact hr
 | .iptr c o,v,ho,hr=>by
  rw[V4] at ho;subst ho
  rw[Rep] at hr ⊢;exact hr
 | .int ..,v,_,hr=>by rw[Rep] at hr ⊢;exact hr
 | .bool _,v,_,hr=>by rw[Rep] at hr ⊢;exact hr
 | .str _,v,_,hr=>by rw[Rep] at hr ⊢;exact hr
 | .nsl,v,_,hr=>by rw[Rep] at hr ⊢;exact hr
 | .nilptr,v,_,hr=>by rw[Rep] at hr ⊢;exact hr
 | .nilfn,v,_,hr=>by rw[Rep] at hr ⊢;exact hr
theorem Reps.noOrg:∀ {c:List AV} {cs:List Value},Ol c=false→Reps J β h w c cs→Reps (fun _=>J false) β h w c cs
 | [],_,_,hr=>by rw[Reps] at hr ⊢;exact hr
 | x::r,cs,ho,hr=>by
  rw[Ol] at ho
  simp at ho
  rw[Reps] at hr ⊢
  obtain⟨u,us,h1,h2,h3⟩:=hr
  exact⟨u,us,h1,Rep.noOrg ho.1 h2,Reps.noOrg ho.2 h3⟩
end
theorem iF:∀ {c:LA} {j:Nat} {x:AV},Ol c=false→c[j]?=some x→V4 x=false
 | [],j,x,_,b=>by simp at b
 | y::r,j,x,d,b=>by
  rw[Ol] at d
  simp at d
  cases j with
  | zero=>simp at b;subst b;exact d.1
  | succ j=>exact iF d.2 (by simpa using b)
theorem iG:∀ {h:Ah} {b:Nat} {x:Blk},SK h=false→Ak h b=some x→x.taint=false∧(x.pure=false→Ol x.cells=false)
 | [],b,x,_,c=>by simp[Ak] at c
 | (i,y)::r,b,x,d,c=>by
  rw[SK] at d
  simp at d
  rw[Ak] at c
  cases e:Nat.beq i b with
  | true =>
   rw[e] at c;simp at c;subst c
   refine⟨d.1.1,fun f=>?_⟩
   have:=d.1.2
   rw[f] at this;simpa using this
  | false=>rw[e] at c;exact iG d.2 (by simpa using c)
theorem SimH.noOrg (S:SimH J β h w) (z:SK h=false):SimH (fun _=>J false) β h w:=by
 refine⟨fun _ k d=>S.jlt _ k d,fun k d=>d,S.gl.to (fun _ h=>h) (fun _ _=>rfl),fun b x e i l=>?_,fun b x e i l=>by
   obtain⟨m,n,k,ob,q,A,B,C⟩:=S.mblk b x e i l
   exact⟨m,n,k,ob,q,A,B,fun _ D=>C false D⟩,S.sep⟩
 obtain⟨v,F⟩:=iG z e
 rcases S.blk b x e i l with s | ⟨k,o,cs,ty,fr,s,G,I,K,y,L,M⟩
 ·exact .inl s
 ·refine .inr ⟨k,o,cs,ty,fr,s,G,I,K,⟨fun f=>?_,fun f j c d=>?_⟩,fun t _=>L t _,fun t=>?_⟩
  ·have:=y.1 f;rw[v] at this;exact this
  ·obtain⟨u,m,n,q⟩:=y.2 f j c d
   exact⟨u,m,Rep.noOrg (iF (F f) d) n,q⟩
  ·have:=M t;rw[v] at this;exact this
theorem Ext.grow (hJ:∀ o k,J o k→J' o k):Ext J β h w J' β h w:=⟨hJ,fun _ _ _=>rfl,fun b x c=>⟨x,⟨c,rfl⟩,by cases d:x.dead<;>simp⟩,fun _ _ _ _=>Nat.le_refl _⟩
theorem SimH.grow (S:SimH J β h w) (hJ:∀ o k,J o k→J' o k) (i:∀ o k,J' o k→k<w.heap.size) (j:∀ k,J' false k→J' true k)
  (c:∀ b x k o,Ak h b=some x→x.dead=false→x.sealed=false→β b=some (k,o)→∀ g,¬ J' g k):SimH J' β h w:=by
 refine⟨i,j,S.gl.to (hJ false) (fun _ _=>rfl),fun b x d e l=>?_,fun b x d e l=>by
   obtain⟨s,n,k,ob,q,t,u,C⟩:=S.mblk b x d e l
   exact⟨s,n,k,ob,q,t,u,c b x k 0 d e n q⟩,S.sep⟩
 rcases S.blk b x d e l with f | ⟨k,o,cs,ty,fr,f,v,y,z,A,D,B⟩
 ·exact .inl f
 ·exact .inr ⟨k,o,cs,ty,fr,f,v,y,z,A.ext (Ext.grow hJ),fun m=>c b x k o d e m f,fun m=>hJ _ _ (B m)⟩
def Aia (β:Bl) (h:Ah) (fz:List Nat) (k:Nat):Prop:=∃ b x o,b ∈ fz∧Ak h b=some x∧x.dead=false∧x.sealed=false∧β b=some (k,o)
def JS (J:Bool→Nat→Prop) (β:Bl) (h:Ah) (fz:List Nat):Bool→Nat→Prop:=fun o k=>J o k∨(o=true∧Aia β h fz k)
theorem iH {g:A0} {b off n:Nat} {x:Blk} {vc:Value} {fz:List Nat} (S:SimH J β h w) (v:Looks g h) (c:D3 g b=some x) (y:x.pure=true) (z:x.sealed=false→b ∈ fz) (t:Rep J β h w (.own b off n) vc) :
  Rep (JS J β h fz) β h w (.imm ((x.cells.drop off).take (n*x.sz)) n x.sz false (!x.sealed||x.taint)) vc:=by
 unfold D3 at c
 obtain⟨x0,m,c⟩:=ub c
 obtain⟨q,c⟩:=wn c
 simp at c;subst c
 have j:=v b _ m
 rw[Rep]
 have key:=(zD (J':=fun o k=>o≠x0.taint∨JS J β h fz (!x0.sealed||x0.taint) k) S j q y t (fun k o s=>.inr ?_) (fun o k f=>?_) false (!x0.sealed||x0.taint)).2 (by simp)
 ·exact RepC.keep (fun k i=>by rcases i with i | i;exact absurd rfl i;exact i) (fun _ _=>rfl) key
 ·cases l:x0.sealed with
  | false =>
   simp only[Bool.not_false,Bool.true_or]
   exact .inr ⟨rfl,b,x0,o,z l,j,q,l,s⟩
  | true =>
   simp only[Bool.not_true,Bool.false_or]
   rcases S.blk b x0 j q (Adb j t) with⟨d,_⟩ | ⟨B,o',cs,ty,fr,d,C,D,F,G,I,A⟩
   ·rw[s] at d;cases d
   ·rw[s] at d;simp at d;obtain⟨rfl,rfl⟩:=d
    exact .inl (A l)
 ·by_cases e:o=x0.taint
  ·subst e
   right
   cases l:x0.sealed with
   | false =>
    simp only[Bool.not_false,Bool.true_or]
    left
    cases u:x0.taint with
    | false=>rw[u] at f;exact S.jft k f
    | true=>rw[u] at f;exact f
   | true=>simp only[Bool.not_true,Bool.false_or];exact .inl f
  ·exact .inl e
theorem JS.mono (S:SimH J β h w) {fz:List Nat} {a b:Bool} (k:Nat) (c:JS J β h fz a k):JS J β h fz (a||b) k:=by
 cases a
 ·cases b
  ·exact c
  ·rcases c with c | ⟨d,_⟩
   ·exact .inl (S.jft k c)
   ·cases d
 ·exact c
theorem m7 {g:A0} {v v':AV} {o:Bool} {vc:Value} {fz:List Nat} (S:SimH J β h w) (q:Looks g h) (d:Y3 g v=some (v',o)) (s:∀ b off n x,v=.own b off n→g b=some x→x.sealed=false→b ∈ fz) (f:Rep J β h w v vc) :
  RepC (JS J β h fz o) w v' vc:=by
 cases v
 case own b off n =>
  rw[Y3] at d
  obtain⟨x,e,u⟩:=ub d
  obtain⟨y,m⟩:=uc u
  simp at m
  obtain⟨rfl,rfl⟩:=m
  have:=iH S q e y (fun z=>by
   unfold D3 at e
   obtain⟨x0,i,e⟩:=ub e
   obtain⟨K,e⟩:=wn e
   simp at e;subst e
   exact s b off n x0 rfl i z) f
  rw[Rep] at this;exact this
 case imm c n sz t org =>
  simp[Y3] at d;obtain⟨rfl,rfl⟩:=d
  rw[Rep,RepC] at f
  rw[RepC]
  obtain⟨B,A,cap,C,D,L,j⟩:=f
  refine⟨B,A,cap,C,D,by simp,?_⟩
  rcases j with j | ⟨a,F,G,I⟩
  ·exact .inl j
  ·exact .inr ⟨a,F,.inl G,RepCs.keep (fun k l=>.inl l) (fun _ _=>rfl) (fun _=>rfl) I⟩
 case iptr c org =>
  simp[Y3] at d;obtain⟨rfl,rfl⟩:=d
  rw[Rep] at f
  exact RepC.keep (fun k l=>.inl l) (fun _ _=>rfl) f
 all_goals first
  | (simp[Y3] at d;done)
  | (simp[Y3] at d;obtain⟨rfl,rfl⟩:=d;rw[Rep] at f;rw[RepC];exact f)
theorem EX {g:A0} {fz:List Nat} (S:SimH J β h w) (t:Looks g h):∀ {c c':LA} {o:Bool} {cs:List Value},EI g c=some (c',o)→(∀ b ∈ Gy g c,b ∈ fz)→Reps J β h w c cs →
  cs.length=c'.length∧∀ (j:Nat) (x:AV),c'[j]?=some x→∃ u,cs[j]?=some u∧RepC (JS J β h fz o) w x u
 | [],c',o,cs,d,l,f=>by
  simp[EI] at d;obtain⟨rfl,rfl⟩:=d
  rw[Reps] at f;subst f
  exact⟨rfl,fun j x i=>by simp at i⟩
 | v::r,c',o,cs,d,l,f=>by
  rw[EI] at d
  obtain⟨⟨v1,o1⟩,y,d⟩:=ub d
  obtain⟨⟨M,o2⟩,z,d⟩:=ub d
  simp at d;obtain⟨rfl,rfl⟩:=d
  rw[Reps] at f
  obtain⟨u,O,rfl,A,B⟩:=f
  have m:∀ b ∈ Gy g r,b ∈ fz:=fun b q=>l b (by
   cases v<;>simp only[Gy]<;>try exact q
   split
   ·rename_i x _;cases x.sealed<;>simp[q]
   ·exact q)
  have a1:=m7 (fz:=fz) S t y (fun b off n x e C D=>l b (by subst e;simp[Gy,C,D])) A
  obtain⟨F,G⟩:=EX S t z m B
  refine⟨by simp[F],fun j x i=>?_⟩
  cases j with
  | zero=>simp at i;subst i;exact⟨u,by simp,RepC.keep (fun k s=>JS.mono S k s) (fun _ _=>rfl) a1⟩
  | succ j =>
   obtain⟨I,K,L⟩:=G j x (by simpa using i)
   exact⟨I,by simpa using K,RepC.keep (fun k s=>by rw[Bool.or_comm];exact JS.mono S k s) (fun _ _=>rfl) L⟩
theorem m8 {g:A0} {v v':AV} {q:Bool} {vc:Value} {fz:List Nat} (S:SimH J β h w) (C:Looks g h) (e:qV g v=some (v',q)) (D:∀ b ∈ W3 g v,b ∈ fz) (i:Rep J β h w v vc) :
  Rep (JS J β h fz) β h w v' vc∧Ew v'=[]:=by
 unfold qV at e
 split at e
 ·rename_i b off n
  obtain⟨x,d,f⟩:=ub e
  obtain⟨F,m⟩:=uc f
  simp at m
  obtain⟨rfl,_⟩:=m
  exact⟨iH S C d F (fun y=>by
   unfold D3 at d
   obtain⟨x0,s,d⟩:=ub d
   obtain⟨z,d⟩:=wn d
   simp at d;subst d
   exact D b (by simp[W3,s,y])) i,by simp[Ew]⟩
 ·simp at e;obtain⟨rfl,_⟩:=e
  refine⟨?_,by simp[Ew]⟩
  rw[Rep,RepC] at i ⊢
  obtain⟨G,A,cap,I,U,e4,K⟩:=i
  refine⟨G,A,cap,I,U,by simp,?_⟩
  rcases K with K | ⟨a,V,X,Y⟩
  ·exact .inl K
  ·exact .inr ⟨a,V,.inl X,RepCs.keep (fun k hk=>.inl hk) (fun _ _=>rfl) (fun _=>rfl) Y⟩
 ·rename_i b off
  obtain⟨x,d,f⟩:=ub e
  obtain⟨F,m⟩:=uc f
  simp at m
  obtain⟨rfl,_⟩:=m
  unfold D3 at d
  obtain⟨x0,s,d⟩:=ub d
  obtain⟨z,d⟩:=wn d
  simp at d;subst d
  have L:=C b _ s
  refine⟨?_,by simp[Ew]⟩
  rw[Rep] at i
  obtain⟨x1,k,o,⟨M,gm⟩,g2,t⟩:=i
  rw[L] at M;simp at M;subst M
  rcases t with t | t
  ·simp[z] at t
  ·rcases S.blk b x0 L z gm with⟨f,_⟩ | ⟨k',o',cs,ty,fr,f,m,h3,h4,h5,h6,h7⟩
   ·rw[t] at f;cases f
   ·rw[t] at f;simp at f;obtain⟨rfl,rfl⟩:=f
    have O:∀ B,J x0.taint B→JS J β h fz (!x0.sealed||x0.taint) B:=by
     intro B l
     left
     cases y:x0.sealed with
     | false =>
      simp only[Bool.not_false,Bool.true_or]
      cases T:x0.taint with
      | false=>rw[T] at l;exact S.jft B l
      | true=>rw[T] at l;exact l
     | true=>simp only[Bool.not_true,Bool.false_or];exact l
    rw[Rep,RepC]
    refine⟨_,g2,?_,?_⟩
    ·cases y:x0.sealed with
     | false =>
      simp only[Bool.not_false,Bool.true_or]
      exact .inr ⟨rfl,b,x0,o,D b (by simp[W3,s,y]),L,z,y,t⟩
     | true =>
      simp only[Bool.not_true,Bool.false_or]
      exact .inl (h7 y)
    ·refine RepCs.keep O (fun _ _=>rfl) (fun j=>?_) ((h5.1 F).drop off)
     rw[Addr.add_mid,Mf m,Nat.add_assoc]
 ·rename_i c
  obtain⟨⟨c1,o1⟩,f,m⟩:=ub e
  simp at m;obtain⟨rfl,_⟩:=m
  rw[Rep] at i
  obtain⟨cs,rfl,i⟩:=i
  obtain⟨b1,b2⟩:=EX (fz:=fz) S C f (by simpa[W3] using D) i
  refine⟨?_,by simp[Ew]⟩
  rw[Rep]
  refine⟨cs,rfl,b1,?_⟩
  rw[Bi]
  intro j x l
  obtain⟨u,G,I⟩:=b2 j x l
  exact⟨u,by simpa using G,I⟩
 ·simp at e;obtain⟨rfl,_⟩:=e
  exact⟨Rep.ext (Ext.grow fun _ _ l=>.inl l) i,by simp[Ew,Fw]⟩
 ·simp at e
 ·simp at e
 ·simp at e
 ·simp at e
 ·simp at e;obtain⟨rfl,_⟩:=e
  refine⟨Rep.ext (Ext.grow fun _ _ l=>.inl l) i,?_⟩
  cases v<;>first | rfl | simp_all
theorem R8 {g:A0} {fz:List Nat} (S:SimH J β h w) (n:Looks g h):∀ {f:LA} {ms:List Bool} {args':LA} {im e:List Nat} {vs:List Value},
  W4 g ms f=some (args',im,e)→(∀ b ∈ e,b ∈ fz)→Reps J β h w f vs→Reps (JS J β h fz) β h w args' vs∧∀ b ∈ Fw args',b ∈ im
 | [],ms,args',im,e,vs,d,m,i=>by
  simp[W4] at d;obtain⟨rfl,rfl,rfl⟩:=d
  rw[Reps] at i;subst i
  exact⟨by rw[Reps],by simp[Fw]⟩
 | v::r,ms,args',im,e,vs,d,m,i=>by
  rw[W4] at d
  rw[Reps] at i
  obtain⟨u,x,rfl,j,k⟩:=i
  cases y:ms.headD false with
  | true =>
   rw[y,cond_true] at d
   obtain⟨⟨a2,i2,z⟩,q,l⟩:=ub d
   simp at l;obtain⟨rfl,rfl,rfl⟩:=l
   obtain⟨s,t⟩:=R8 S n q m k
   refine⟨by rw[Reps];exact⟨u,x,rfl,Rep.ext (Ext.grow fun _ _ A=>.inl A) j,s⟩,fun b c=>?_⟩
   rw[Fw] at c
   rcases List.mem_append.1 c with c | c
   ·exact List.mem_append.2 (.inl c)
   ·exact List.mem_append.2 (.inr (t b c))
  | false =>
   rw[y,cond_false] at d
   obtain⟨⟨v1,F⟩,B,d⟩:=ub d
   obtain⟨⟨a2,i2,z⟩,q,l⟩:=ub d
   simp at l;obtain⟨rfl,rfl,rfl⟩:=l
   obtain⟨C,D⟩:=m8 S n B (fun b c=>m b (List.mem_append.2 (.inl c))) j
   obtain⟨s,t⟩:=R8 S n q (fun b c=>m b (List.mem_append.2 (.inr c))) k
   refine⟨by rw[Reps];exact⟨u,x,rfl,C,s⟩,fun b c=>?_⟩
   rw[Fw,D] at c
   exact t b (by simpa using c)
end
end Gx

namespace Gx
open Go
theorem oL {g g':A0} {ρ:Nat→Nat}:∀ {ids:List Nat},(∀ b ∈ ids,g b=g' b)→sub g ρ ids=sub g' ρ ids
 | [],_=>rfl
 | b::r,h=>by
  rw[sub,sub,h b (by simp),oL (fun c d=>h c (by simp[d]))]
theorem EY {g:A0}:∀ {l:List Nat},EK g l=true→∀ b ∈ l,∃ x,g b=some x∧x.dead=false
 | [],_,b,c=>by simp at c
 | i::r,h,b,c=>by
  rw[EK] at h
  simp at h
  rcases List.mem_cons.1 c with rfl | c
  ·cases d:g b with
   | none=>rw[d] at h;simp at h
   | some x=>rw[d] at h;exact⟨x,rfl,by simpa using h.1⟩
  ·exact EY h.2 b c
theorem zK:∀ {l m:List Nat},tD l m=true→∀ b ∈ l,b ∉ m
 | [],m,_,b,c=>by simp at c
 | i::r,m,h,b,c=>by
  rw[tD] at h
  simp at h
  rcases List.mem_cons.1 c with rfl | c
  ·intro d;have:=Hk.2 d;rw[this] at h;simp at h
  ·exact zK h.2 b c
theorem Xe {d:Nat}:∀ {l:List (Nat×Nat)} {b:Nat},b ∈ l.map (·.1)→Gb d l b ∈ l.map (·.2)
 | [],b,c=>by simp at c
 | (i,x)::r,b,c=>by
  rw[Gb]
  cases e:Nat.beq i b with
  | true=>simp
  | false =>
   have f:b ∈ r.map (·.1):=by
    rw[List.map_cons] at c
    rcases List.mem_cons.1 c with h | h
    ·exact absurd h.symm (P7 e)
    ·exact h
   simp only[cond_false,List.map_cons]
   exact List.mem_cons_of_mem _ (Xe f)
theorem Qq {d:Nat}:∀ {l m:List (Nat×Nat)} {b:Nat},Gb d (l++m) b=if b ∈ l.map (·.1) then Gb d l b else Gb d m b
 | [],m,b=>by simp
 | (i,x)::r,m,b=>by
  rw[List.cons_append,Gb,Gb,Qq]
  cases e:Nat.beq i b with
  | true=>have:=Nat.eq_of_beq_eq_true e;subst this;simp
  | false =>
   have:=P7 e
   simp only[cond_false,List.map_cons,List.mem_cons]
   by_cases c:b ∈ r.map (·.1)
   ·rw[if_pos c,if_pos (.inr c)]
   ·rw[if_neg c,if_neg (by rintro(h | h);exact this h.symm;exact c h)]
theorem G0:∀ {base:Nat} {l:List Nat},(Ar base l).map (·.1)=l
 | _,[]=>rfl
 | base,i::r=>by rw[Ar,List.map_cons,G0]
theorem iI {d d':Nat}:∀ {l:List Nat} {base b:Nat},b ∈ l→Gb d' ((Ar base l).map fun p=>(p.2,p.1)) (Gb d (Ar base l) b)=b
 | [],base,b,c=>by simp at c
 | i::r,base,b,c=>by
  rw[Ar,Gb,List.map_cons,Gb]
  cases e:Nat.beq i b with
  | true=>have:=Nat.eq_of_beq_eq_true e;subst this;simp
  | false =>
   have f:b ∈ r:=by
    rcases List.mem_cons.1 c with h | h
    ·exact absurd h.symm (P7 e)
    ·exact h
   simp only[cond_false]
   have j:=R7 (d:=d) (base:=base+1) f
   rw[EC (show base≠Gb d (Ar (base+1) r) b by omega)]
   exact iI f
theorem Nv:∀ {base:Nat} {l:List Nat} {c:Nat},c ∈ (Ar base l).map (·.2)→base≤c∧c<base+l.length
 | _,[],c,b=>by simp[Ar] at b
 | base,i::r,c,b=>by
  rw[Ar,List.map_cons] at b
  rcases List.mem_cons.1 b with h | h
  ·simp at h;subst h;simp
  ·have:=Nv h;simp only[List.length_cons];omega
theorem R9:∀ {base:Nat} {l:List Nat},((Ar base l).map (·.2)).Nodup
 | _,[]=>by simp[Ar]
 | base,i::r=>by
  rw[Ar,List.map_cons,List.nodup_cons]
  exact⟨fun h=>by have:=Nv h;simp at this;omega,R9⟩
theorem EZ:∀ {base:Nat} {l:List Nat} {b:Nat},b ∈ l→(b,Gb 0 (Ar base l) b) ∈ Ar base l
 | _,[],b,c=>by simp at c
 | base,i::r,b,c=>by
  rw[Ar,Gb]
  cases d:Nat.beq i b with
  | true=>have:=Nat.eq_of_beq_eq_true d;subst this;simp
  | false =>
   have e:b ∈ r:=by
    rcases List.mem_cons.1 c with h | h
    ·exact absurd h.symm (P7 d)
    ·exact h
   simp only[cond_false]
   exact List.mem_cons_of_mem _ (EZ e)
def xK (x:Blk):Blk:={ x with dead:=true,pure:=true,cells:=[] }
theorem Iq:∀ {ups:C9} {h:Ah} {b:Nat} {o:Option Blk},(ups.map (·.1)).Nodup→(b,o) ∈ ups→Ak (Ai ups h) b=match o with | some x=>some x | none=>(Ak h b).map xK
 | [],h,b,o,_,k=>by simp at k
 | (i,y)::r,h,b,o,d,k=>by
  rw[List.map_cons,List.nodup_cons] at d
  rcases List.mem_cons.1 k with l | c
  ·simp at l
   obtain⟨rfl,rfl⟩:=l
   have f:Ax r b=false:=by
    have:∀ {r:C9},b ∉ r.map (·.1)→Ax r b=false:=by
     intro r
     induction r with
     | nil=>intro _;rfl
     | cons p r m =>
      intro h
      simp only[List.map_cons,List.mem_cons,not_or] at h
      rw[Ax,EC (fun e=>h.1 e.symm)]
      exact m h.2
    exact this d.1
   cases o with
   | some x=>rw[Ai,Br _ _ _ f,Ae,if_pos rfl]
   | none =>
    rw[Ai,Br _ _ _ f]
    cases n:Ak h b with
    | none=>simp[n]
    | some x=>simp only[Option.map_some];rw[Ae,if_pos rfl];rfl
  ·have j:b≠i:=fun e=>by subst e;exact d.1 (List.mem_map.2 ⟨_,c,rfl⟩)
   cases y with
   | some x =>
    rw[Ai,Iq d.2 c]
    cases o with
    | some _=>rfl
    | none=>simp only;rw[Ae,if_neg j]
   | none =>
    rw[Ai,Iq d.2 c]
    cases o with
    | some _=>rfl
    | none =>
     simp only
     split
     ·rw[Ae,if_neg j]
     ·rfl
theorem ZX:∀ {ups:C9} {b:Nat},Ax ups b=true↔b ∈ ups.map (·.1)
 | [],b=>by simp[Ax]
 | (i,y)::r,b=>by
  rw[Ax,List.map_cons,List.mem_cons,←ZX]
  cases c:Nat.beq i b with
  | true=>have:=Nat.eq_of_beq_eq_true c;subst this;simp
  | false=>have:=P7 c;simp;intro e;exact absurd e.symm this
theorem iJ {β:Bl} {h:Ah} {ρ:Nat→Nat} {ids:List Nat} (d:(ids.map ρ).Nodup) {k:Nat} (i:tH (BN ρ ids β) (sub (Ak h) ρ ids) k) :
  ∃ b x o,b ∈ ids∧Ak h b=some x∧x.dead=false∧x.sealed=false∧β b=some (k,o):=by
 obtain⟨c,y,o,j,l,m,e⟩:=i
 obtain⟨b,x,f,rfl,n,rfl⟩:=Jn d c y j
 rw[Ey d f] at e
 exact⟨b,x,o,f,n,l,m,e⟩
theorem SimH.unJ {J:Bool→Nat→Prop} {β:Bl} {h:Ah} {w:World} (S:SimH J β h w) {b:Nat} {x:Blk} {k o:Nat} (e:Ak h b=some x) (f:x.dead=false) (l:x.sealed=false) (d:β b=some (k,o)):∀ g,¬ J g k:=by
 cases i:x.mp with
 | false =>
  rcases S.blk b x e f i with⟨c,_⟩ | ⟨m,o2,cs,ty,fr,c,j,q,s,t,n,u⟩
  ·rw[d] at c;cases c
  ·rw[d] at c;simp at c;obtain⟨rfl,rfl⟩:=c
   exact n l
 | true =>
  obtain⟨_,_,m,ob,c,_,_,j⟩:=S.mblk b x e f i
  rw[d] at c;simp at c;obtain⟨rfl,_⟩:=c
  exact j
theorem SimH.seJ {J:Bool→Nat→Prop} {β:Bl} {h:Ah} {w:World} (S:SimH J β h w) {b:Nat} {x:Blk} {k o:Nat} (d:Ak h b=some x) (e:x.dead=false) (f:x.sealed=true) (i:β b=some (k,o)):J x.taint k:=by
 cases j:x.mp with
 | false =>
  rcases S.blk b x d e j with⟨c,_⟩ | ⟨m,o2,cs,ty,fr,c,n,q,s,t,u,l⟩
  ·rw[i] at c;cases c
  ·rw[i] at c;simp at c;obtain⟨rfl,rfl⟩:=c
   exact l f
 | true =>
  have:=(S.mblk b x d e j).2.1
  rw[f] at this;cases this
theorem Step.merge {J J0 J1:Bool→Nat→Prop} {β β1:Bl} {h O H:Ah} {w w':World} {D ids:List Nat} (S:SimH J β h w) (S1:SimH J0 β1 O w')
  (hH:∀ b,b ∉ D→Ak H b=Ak h b)
  (hD:∀ b x,b ∈ D→Ak H b=some x→x.dead=false→Ak O b=some x)
  (hD1:∀ b x,Ak O b=some x→b ∈ D∧Ak H b=some x)
  (T:∀ b x,b ∈ D→b ∉ ids→Ak h b≠some x)
  (U:∀ b x,b ∈ ids→Ak h b=some x→∃ x',(Ak H b=some x'∧x'.mp=x.mp)∧(x'.dead=true∨(x.dead=false∧β1 b=β b∧x'.sz=x.sz∧(x.mp=false→x'.cells.length=x.cells.length))))
  (u:∀ b ∈ ids,b ∈ D)
  (os:w'.os=w.os) (tape:w'.tape=w.tape) (output:w'.output=w.output) (size:w.heap.size≤w'.heap.size)
  (frame:∀ k,k<w.heap.size→(¬ ∃ b x o,b ∈ ids∧Ak h b=some x∧x.dead=false∧x.sealed=false∧β b=some (k,o))→w'.heap[k]?=w.heap[k]?)
  (wr:∀ k,tH β1 O k→k<w.heap.size→∃ b x o,b ∈ ids∧Ak h b=some x∧x.dead=false∧x.sealed=false∧β b=some (k,o))
  (jup:∀ o k,J0 o k→J o k∨(∃ b x o,b ∈ ids∧Ak h b=some x∧x.dead=false∧x.sealed=false∧β b=some (k,o))∨w.heap.size≤k)
  (sizes:∀ k,A1 w k≤A1 w' k) :
  Step J β h w (fun o k=>J o k∨J0 o k) (fun b=>if b ∈ D then β1 b else β b) H w'∧Ext J0 β1 O w' (fun o k=>J o k∨J0 o k) (fun b=>if b ∈ D then β1 b else β b) H w':=by
 have E0:Ext J0 β1 O w' (fun o k=>J o k∨J0 o k) (fun b=>if b ∈ D then β1 b else β b) H w':=by
  refine⟨fun _ _ c=>.inr c,fun _ _ _=>rfl,fun b x d=>?_,fun _ _ _ _=>Nat.le_refl _⟩
  obtain⟨q,t⟩:=hD1 b x d
  refine⟨x,⟨t,rfl⟩,?_⟩
  cases f:x.dead
  ·exact .inr ⟨rfl,by simp[q],rfl,fun _=>rfl⟩
  ·exact .inl rfl
 have keepJ:∀ o k,J o k→w'.heap[k]?=w.heap[k]?:=by
  intro o k c
  refine frame k (S.jlt o k c) ?_
  rintro⟨b,x,o',_,d,f,l,m⟩
  exact S.unJ d f l m o c
 have E:Ext J β h w (fun o k=>J o k∨J0 o k) (fun b=>if b ∈ D then β1 b else β b) H w':=by
  refine⟨fun _ _ c=>.inl c,keepJ,fun b x d=>?_,fun b k o _=>sizes k⟩
  by_cases hi:b ∈ ids
  ·obtain⟨x',q,t⟩:=U b x hi d
   refine⟨x',q,?_⟩
   simp only[u b hi,if_true]
   exact t
  ·have V:b ∉ D:=fun f=>T b x f hi d
   refine⟨x,⟨by rw[hH b V];exact d,rfl⟩,?_⟩
   cases f:x.dead
   ·exact .inr ⟨rfl,by simp[V],rfl,fun _=>rfl⟩
   ·exact .inl rfl
 have out:∀ {b x},b ∉ D→Ak H b=some x→Ak h b=some x:=fun d s=>by rw[←hH _ d];exact s
 refine⟨⟨E,⟨?_,?_,S.gl.ext E,fun b x s f K=>?_,fun b x s f K=>by
   by_cases d:b ∈ D
   ·have q:=hD b x d s f
    have M:=S1.mblk b x q f K
    refine M.keep (by simp[d]) (fun _ _ _=>rfl) (fun g k o m c=>?_)
    rcases c with c | c
    ·exfalso
     by_cases z:k<w.heap.size
     ·obtain⟨A,x',o',j,n,i,v,e⟩:=wr k ⟨b,x,o,q,f,M.2.1,m⟩ z
      exact S.unJ n i v e g c
     ·exact z (S.jlt g k c)
    ·exact c
   ·have q:=out d s
    have M:=S.mblk b x q f K
    have y:∀ k o,β b=some (k,o)→¬ ∃ b x o,b ∈ ids∧Ak h b=some x∧x.dead=false∧x.sealed=false∧β b=some (k,o):=by
     rintro k o t ⟨A,x',o',j,n,i,v,e⟩
     have:=S.sep b A x x' k o o' q n f i M.2.1 t e
     subst this
     exact d (u b j)
    refine M.keep (by simp[d]) (fun k o m=>frame k (Px S q f m) (y k o m)) (fun g k o m c=>?_)
    rcases c with c | c
    ·exact c
    ·rcases jup g k c with c | c | c
     ·exact c
     ·exact absurd c (y k o m)
     ·have:=Px S q f m;omega,?_⟩,os,tape,output,size,?_,?_,?_⟩,E0⟩
 ·rintro o k (c | c)
  ·exact Nat.lt_of_lt_of_le (S.jlt o k c) size
  ·exact S1.jlt o k c
 ·rintro k (c | c)
  ·exact .inl (S.jft k c)
  ·exact .inr (S1.jft k c)
 ·by_cases d:b ∈ D
  ·have q:=hD b x d s f
   rcases S1.blk b x q f K with⟨t,I⟩ | ⟨k,o,cs,ty,fr,t,I,h5,h6,h7,Y,h9⟩
   ·exact .inl ⟨by simp[d,t],I⟩
   ·refine .inr ⟨k,o,cs,ty,fr,by simp[d,t],I,h5,h6,h7.ext E0,fun l g c=>?_,fun l=>.inr (h9 l)⟩
    rcases c with c | c
    ·by_cases z:k<w.heap.size
     ·obtain⟨A,x',o',j,n,i,v,e⟩:=wr k ⟨b,x,o,q,f,l,t⟩ z
      exact S.unJ n i v e g c
     ·exact z (S.jlt g k c)
    ·exact Y l g c
  ·have q:=out d s
   rcases S.blk b x q f K with⟨t,I⟩ | ⟨k,o,cs,ty,fr,t,I,h5,h6,h7,Y,h9⟩
   ·exact .inl ⟨by simp[d,t],I⟩
   ·have z:=Y9 I
    have y:x.sealed=false→¬ ∃ b x o,b ∈ ids∧Ak h b=some x∧x.dead=false∧x.sealed=false∧β b=some (k,o):=by
     rintro l ⟨A,x',o',j,n,i,v,e⟩
     have:=S.sep b A x x' k o o' q n f i l t e
     subst this
     exact d (u b j)
    have same:w'.heap[k]?=w.heap[k]?:=by
     cases l:x.sealed with
     | false=>exact frame k z (y l)
     | true=>exact keepJ _ k (h9 l)
    refine .inr ⟨k,o,cs,ty,fr,by simp[d,t],by rw[same];exact I,h5,h6,h7.ext E,fun l g c=>?_,fun l=>.inl (h9 l)⟩
    rcases c with c | c
    ·exact Y l g c
    ·rcases jup g k c with c | c | c
     ·exact Y l g c
     ·exact y l c
     ·omega
 ·intro b A x x' k o o' s n f i l m e
  by_cases d:b ∈ D<;>by_cases j:A ∈ D
  ·simp[d] at m;simp[j] at e
   exact S1.sep b A x x' k o o' (hD b x d s f) (hD A x' j n i) f i l m e
  ·exfalso
   simp[d] at m;simp[j] at e
   have q:=out j n
   have z:=Px S q i e
   obtain⟨X,x2,o2,L,B,C,G,F⟩:=wr k ⟨b,x,o,hD b x d s f,f,l,m⟩ z
   have:=S.sep X A x2 x' k o2 o' B q C i G F e
   subst this
   exact j (u _ L)
  ·exfalso
   simp[d] at m;simp[j] at e
   have q:=out d s
   have t:=hD A x' j n i
   have z:=Px S q f m
   have y:¬ ∃ b x o,b ∈ ids∧Ak h b=some x∧x.dead=false∧x.sealed=false∧β b=some (k,o):=by
    rintro⟨X,x2,o2,L,B,C,G,F⟩
    have:=S.sep b X x x2 k o o2 q B f C l m F
    subst this
    exact d (u _ L)
   cases v:x'.sealed with
   | false=>exact y (wr k ⟨A,x',o',t,i,v,e⟩ z)
   | true =>
    rcases jup _ k (S1.seJ t i v e) with c | c | c
    ·exact S.unJ q f l m _ c
    ·exact y c
    ·omega
  ·simp[d] at m;simp[j] at e
   exact S.sep b A x x' k o o' (out d s) (out j n) f i l m e
 ·intro k z K
  exact frame k z (fun ⟨b,x,o,_,s,f,l,m⟩=>K ⟨b,x,o,s,f,l,m⟩)
 ·rintro k ⟨b,x,o,s,f,l,m⟩ z
  by_cases d:b ∈ D
  ·simp[d] at m
   obtain⟨X,x2,o2,_,B,C,G,F⟩:=wr k ⟨b,x,o,hD b x d s f,f,l,m⟩ z
   exact⟨X,x2,o2,B,C,G,F⟩
  ·simp[d] at m
   exact⟨b,x,o,out d s,f,l,m⟩
 ·rintro o k (c | c)
  ·exact .inl c
  ·rcases jup o k c with c | ⟨b,x,o2,_,s,f,l,m⟩ | c
   ·exact .inl c
   ·exact .inr (.inl ⟨b,x,o2,s,f,l,m⟩)
   ·exact .inr (.inr c)
end Gx

namespace Gx
open Go
theorem xL {l:List Nat}:qW l=true↔l=[]:=by cases l<;>simp[qW]
theorem Zj {α β:Type} {f:α→β}:∀ {l:List α},(l.map f).Nodup→l.Nodup
 | [],_=>List.nodup_nil
 | a::r,h=>by
  rw[List.map_cons,List.nodup_cons] at h
  exact List.nodup_cons.2 ⟨fun b=>h.1 (List.mem_map.2 ⟨a,b,rfl⟩),Zj h.2⟩
theorem Zk {α:Type} {p:α→Bool}:∀ {l:List α},l.Nodup→(l.filter p).Nodup
 | [],_=>List.nodup_nil
 | a::r,h=>by
  rw[List.nodup_cons] at h
  rw[List.filter_cons]
  split
  ·exact List.nodup_cons.2 ⟨fun b=>h.1 (List.mem_filter.1 b).1,Zk h.2⟩
  ·exact Zk h.2
theorem SZ {base:Nat} {l:List Nat} {p:Nat×Nat} (b:p ∈ Ar base l):p.1 ∈ l:=by
 have:p.1 ∈ (Ar base l).map (·.1):=List.mem_map.2 ⟨p,b,rfl⟩
 rw[G0] at this;exact this
theorem zL {σ:Nat→Nat}:∀ {l:List Nat} {a b:Nat},(l.map σ).Nodup→a ∈ l→b ∈ l→σ a=σ b→a=b
 | [],a,b,_,f,_,_=>by simp at f
 | i::r,a,b,e,f,k,j=>by
  rw[List.map_cons,List.nodup_cons] at e
  rcases List.mem_cons.1 f with c | c<;>rcases List.mem_cons.1 k with d | d
  ·rw[c,d]
  ·subst c;exact absurd (List.mem_map.2 ⟨b,d,j.symm⟩) e.1
  ·subst d;exact absurd (List.mem_map.2 ⟨a,c,j⟩) e.1
  ·exact zL e.2 c d j
theorem Adl {E:Env} (hT:iE E.P E.tbl):QC E:=by
 intro R r k J β h w g d f args vs S hl hh hv
 unfold oA at hh
 obtain⟨⟨args',im,fz⟩,B,h1⟩:=ub hh
 simp only at h1
 obtain⟨n,h2⟩:=uc h1
 simp only[Bool.and_eq_true] at n
 obtain⟨T,X,U,Y,s,_⟩:=n
 generalize hids:Rx g im=ids at *
 generalize hρ:Gb 0 (Ar 100000 ids)=ρ at *
 have T:=EY T
 have X:=Kl X
 have Y:=zK Y
 have s:=Nt s
 have hg:∀ b ∈ ids,g b=Ak h b:=fun b j=>by obtain⟨x,m,_⟩:=T b j;rw[m,hl b x m]
 rw[Ue (g:=Ak h) hg] at U
 have U:=Kl U
 rw[oL (g':=Ak h) hg] at h2
 obtain⟨hA,hB⟩:=R8 (fz:=fz) S hl B (fun _ h=>h) hv
 have aliveH:∀ b ∈ ids,∃ x,Ak h b=some x∧x.dead=false:=fun b j=>by obtain⟨x,m,C⟩:=T b j;exact⟨x,hl b x m,C⟩
 have SJ:SimH (JS J β h fz) (BN ρ ids β) (sub (Ak h) ρ ids) w:=by
  refine(S.ren s U).grow (fun o k t=>.inl t) ?_ ?_ ?_
  ·rintro o k (t | ⟨_,b,x,o',_,m,C,_,hβ⟩)
   ·exact S.jlt o k t
   ·exact Px S m C hβ
  ·rintro k (t | ⟨h0,_⟩)
   ·exact .inl (S.jft k t)
   ·cases h0
  ·intro c y k o hy C hs hβ q t
   obtain⟨b,x,j,rfl,m,rfl⟩:=Jn s c y hy
   rw[Ey s j] at hβ
   rcases t with t | ⟨_,b',x',o',hb',hx',hd',hs',hβ'⟩
   ·exact S.unJ m C hs hβ _ t
   ·have:=S.sep b b' x x' k o o' m hx' C hd' hs hβ hβ'
    subst this
    exact Y b hb' j
 have RJ:Reps (JS J β h fz) (BN ρ ids β) (sub (Ak h) ρ ids) w (P6 ρ args') vs:=Reps.ren s (fun b j=>X b (hB b j)) hA
 obtain⟨rv,rh,hF,h3⟩:=tn hT h2
 have hcall:=hF _ _ w vs SJ RJ
 obtain⟨z,h4⟩:=wn h3
 obtain⟨hc2,h5⟩:=uc h4
 simp only[Bool.and_eq_true] at hc2
 obtain⟨G,V,hrv,v,I,u⟩:=hc2
 generalize hall:Rx (Ak rh) (Ew rv++(Ar 100000 ids).map (·.2))=all at *
 generalize K:all.filter (fun b=>!Fx ((Ar 100000 ids).map (·.2)) b)=new at *
 generalize hσ:Gb 0 ((Ar 100000 ids).map (fun p=>(p.2,p.1))++Ar (nid d) new)=σ at *
 have G:=EY G
 have hrv:=Kl hrv
 have v:=Kl v
 have I:=Kl I
 have u:=Nt u
 have V:new.length≤16:=by simpa using V
 refine⟨_,_,h5,fun hfree=>Calls.mono hcall ?_⟩
 rintro e w' ⟨vc,J',β',rfl,F,hR⟩
 refine⟨vc,rfl,?_⟩
 have back:∀ b ∈ ids,σ (ρ b)=b:=by
  intro b j
  rw[←hσ,Qq,if_pos,←hρ]
  ·exact iI j
  ·rw[List.map_map]
   have:=Xe (d:=0) (l:=Ar 100000 ids) (b:=b) (by rw[G0];exact j)
   rw[hρ] at this
   exact this
 have ρall:∀ b ∈ ids,ρ b ∈ all:=by
  intro b j
  refine v _ ?_
  have:=Xe (d:=0) (l:=Ar 100000 ids) (b:=b) (by rw[G0];exact j)
  rw[hρ] at this
  exact this
 have σout:∀ c ∈ all,c ∈ (Ar 100000 ids).map (·.2)→σ c ∈ ids:=by
  intro c _ n
  rw[←hσ,Qq,if_pos (by rw[List.map_map];exact n)]
  have:=Xe (d:=0) (l:=(Ar 100000 ids).map (fun p=>(p.2,p.1))) (b:=c) (by rw[List.map_map];exact n)
  rw[List.map_map] at this
  have e:(Ar 100000 ids).map ((fun x=>x.2)∘fun p=>(p.2,p.1))=ids:=G0
  rw[e] at this
  exact this
 have newmem:∀ c ∈ new,c ∈ all∧c ∉ (Ar 100000 ids).map (·.2):=by
  intro c n
  rw[←K] at n
  obtain⟨L,h7⟩:=List.mem_filter.1 n
  refine⟨L,fun A=>?_⟩
  rw[Hk.2 A] at h7;simp at h7
 have σnew:∀ c ∈ new,σ c=Gb 0 (Ar (nid d) new) c:=by
  intro c n
  rw[←hσ,Qq,if_neg]
  rw[List.map_map];exact(newmem c n).2
 have allcases:∀ c ∈ all,c ∈ (Ar 100000 ids).map (·.2)∨c ∈ new:=by
  intro c n
  by_cases A:c ∈ (Ar 100000 ids).map (·.2)
  ·exact .inl A
  ·refine .inr ?_
   rw[←K]
   refine List.mem_filter.2 ⟨n,?_⟩
   cases hq:Fx ((Ar 100000 ids).map (·.2)) c with
   | false=>rfl
   | true=>exact absurd (Hk.1 hq) A
 generalize O:((Ar 100000 ids).map fun p=>(p.1,(Ak rh p.2).map (T7 σ)))++(Ar (nid d) new).map (fun p=>(p.2,(Ak rh p.1).map (T7 σ)))=ups at *
 have keys:ups.map (·.1)=ids++(Ar (nid d) new).map (·.2):=by
  rw[←O,List.map_append,List.map_map,List.map_map]
  congr 1
  exact G0
 have newFree:∀ c ∈ (Ar (nid d) new).map (·.2),Ak h c=none:=by
  intro c n
  refine hfree c (ZX.2 (by rw[keys];exact List.mem_append.2 (.inr n))) ?_
  have:=Nv n
  unfold W5
  simp;omega
 have keysN:(ups.map (·.1)).Nodup:=by
  rw[keys,List.nodup_append]
  refine⟨Zj s,R9,fun a ha b j e=>?_⟩
  subst e
  obtain⟨x,m,_⟩:=aliveH a ha
  rw[newFree a j] at m;cases m
 have upsOld:∀ b ∈ ids,(b,(Ak rh (ρ b)).map (T7 σ)) ∈ ups:=by
  intro b j
  rw[←O]
  refine List.mem_append.2 (.inl (List.mem_map.2 ⟨(b,ρ b),?_,rfl⟩))
  rw[←hρ];exact EZ j
 have upsNew:∀ c ∈ new,(σ c,(Ak rh c).map (T7 σ)) ∈ ups:=by
  intro c n
  rw[←O]
  refine List.mem_append.2 (.inr (List.mem_map.2 ⟨(c,σ c),?_,rfl⟩))
  rw[σnew c n];exact EZ n
 have J0:∃ J0:Bool→Nat→Prop,SimH J0 β' rh w'∧Rep J0 β' rh w' rv vc∧∀ o k,J0 o k→J o k∨tH (BN ρ ids β) (sub (Ak h) ρ ids) k∨w.heap.size≤k:=by
  cases he:qW fz with
  | true =>
   have:=xL.1 he
   subst this
   refine⟨J',F.sim,hR,fun o k t=>?_⟩
   rcases F.jup o k t with(t | ⟨_,b,x,o',j,_⟩) | t
   ·exact .inl t
   ·simp at j
   ·exact .inr t
  | false =>
   rw[he] at z
   simp at z
   refine⟨fun _=>J' false,F.sim.noOrg z.2,Rep.noOrg z.1 hR,fun o k t=>?_⟩
   rcases F.jup false k t with(L | ⟨h0,_⟩) | L
   ·left
    cases o
    ·exact L
    ·exact S.jft k L
   ·cases h0
   ·exact .inr L
 obtain⟨J0,S0,R0,jup0⟩:=J0
 have S1:=S0.ren u I
 have R1:=Rep.ren u hrv R0
 have M:=Step.merge (J:=J) (J0:=J0) (J1:=J0) (H:=Ai ups h) (D:=ids++(Ar (nid d) new).map (·.2)) (ids:=ids) S S1
  (fun b j=>Br _ _ _ (by
   cases hi:Ax ups b with
   | false=>rfl
   | true=>exact absurd (by rw[←keys];exact ZX.1 hi) j))
  (fun b x j m C=>by
   rcases List.mem_append.1 j with j | j
   ·rw[Iq keysN (upsOld b j)] at m
    cases hq:Ak rh (ρ b) with
    | none =>
     rw[hq] at m;simp at m
     obtain⟨y,_,rfl⟩:=m
     simp[xK] at C
    | some y =>
     rw[hq] at m;simp at m;subst m
     have:=Uf (g:=Ak rh) u (ρ b) y (ρall b j) hq
     rw[back b j] at this
     exact this
   ·obtain⟨c,n,rfl⟩:∃ c ∈ new,σ c=b:=by
     obtain⟨p,B,rfl⟩:=List.mem_map.1 j
     have hp1:p.1 ∈ new:=SZ B
     refine⟨p.1,hp1,?_⟩
     rw[σnew _ hp1]
     have:∀ {base:Nat} {l:List Nat} {p:Nat×Nat},l.Nodup→p ∈ Ar base l→Gb 0 (Ar base l) p.1=p.2:=by
      intro base l
      induction l generalizing base with
      | nil=>intro p _ B;simp[Ar] at B
      | cons i r ih =>
       intro p hn B
       rw[List.nodup_cons] at hn
       rw[Ar] at B ⊢
       rw[Gb]
       rcases List.mem_cons.1 B with rfl | B
       ·simp
       ·have:p.1 ∈ r:=SZ B
        rw[EC (fun e=>hn.1 (by rw[e];exact this))]
        exact ih hn.2 B
     refine this ?_ B
     rw[←K]
     exact Zk (Zj u)
    rw[Iq keysN (upsNew c n)] at m
    obtain⟨y,hy,_⟩:=G c n
    rw[hy] at m;simp at m;subst m
    exact Uf (g:=Ak rh) u c y (newmem c n).1 hy)
  (fun b x j=>by
   obtain⟨c,y,n,rfl,hy,rfl⟩:=Jn u b x j
   rcases allcases c n with A | A
   ·have L:=σout c n A
    have h7:ρ (σ c)=c:=by
     have:(all.map σ).Nodup:=u
     have e1:=back (σ c) L
     have e2:=ρall (σ c) L
     exact zL this e2 n e1
    refine⟨List.mem_append.2 (.inl L),?_⟩
    rw[Iq keysN (upsOld (σ c) L),h7,hy];rfl
   ·refine⟨List.mem_append.2 (.inr ?_),?_⟩
    ·rw[σnew c A]
     exact Xe (by rw[G0];exact A)
    ·rw[Iq keysN (upsNew c A),hy];rfl)
  (fun b x j hni m=>by
   rcases List.mem_append.1 j with j | j
   ·exact hni j
   ·rw[newFree b j] at m;cases m)
  (fun b x j m=>by
   rw[Iq keysN (upsOld b j)]
   cases hq:Ak rh (ρ b) with
   | none=>exact⟨xK x,⟨by simp[m],rfl⟩,.inl rfl⟩
   | some y =>
    cases C:y.dead with
    | true=>have:=F.live _ _ hq;rw[C] at this;cases this
    | false =>
     have e0:=Uf (g:=Ak h) s b x j m
     obtain⟨⟨e1,em⟩,e2,e3,e4⟩:=F.outs (ρ b) _ y e0 hq C
     refine⟨T7 σ y,⟨by simp,em⟩,.inr ?_⟩
     refine⟨e4,?_,e2,fun hmx=>?_⟩
     ·have:=Ey (β:=β') u (ρall b j)
      rw[back b j] at this
      rw[this,e1]
      exact Ey s j
     ·rw[Ip,e3 hmx,Ip])
  (fun b j=>List.mem_append.2 (.inl j))
  F.os F.tape F.output F.size
  (fun k hk A=>F.frame k hk (fun hm'=>A (iJ s hm')))
  (fun k A hk=>iJ s (F.wr k (qs u A) hk))
  (fun o k t=>by
   rcases jup0 o k t with t | t | t
   ·exact .inl t
   ·exact .inr (.inl (iJ s t))
   ·exact .inr (.inr t))
  F.sizes
 exact⟨_,_,M.1,Rep.ext M.2 R1⟩
theorem tw {P:Program} {muts:Nat→List Bool} {T:List (Nat×Tw)} {q:Hints} {N f:Nat} {d:LA} {h:Ah} {n:AV} {h':Ah} (hT:iE P T) (K:P.follows .mixedOrders=true)
  (u:BG P muts T q N f d h (fun v h'=>some (v,h'))=some (n,h')):Ai1 P f d h n h':=by
 unfold BG at u
 split at u
 ·simp at u
 ·rename_i fn L
  split at u
  ·simp at u
  ·rename_i c V
   simp only at u
   obtain⟨z,X⟩:=uc u
   simp only[Bool.and_eq_true] at z
   obtain⟨t,k⟩:=z
   have t:d.length≤fn.ntmps:=by simpa using t
   intro J β w vs S U
   have Y:vs.length=d.length:=((Bm).1 U).1
   refine calls_of_wp L V ?_
   have roots:∀ {h:Ah} {b:Nat} {x:Blk},gE h=true→Ak h b=some x→g9 b=true:=by
    intro h
    induction h with
    | nil=>intro b x _ e;simp[Ak] at e
    | cons p r M =>
     intro b x C e
     obtain⟨i,y⟩:=p
     rw[gE] at C
     simp at C
     rw[Ak] at e
     cases m:Nat.beq i b with
     | true=>have:=Nat.eq_of_beq_eq_true m;subst this;exact C.1
     | false=>rw[m] at e;exact M C.2 (by simpa using e)
   have sgetI:∀ {d:LA} {j i:Nat},D2 (oC j d) i=if j≤i then (d[i - j]?).getD .undef else .undef:=by
    intro d
    induction d with
    | nil=>intro j i;simp[oC,D2]
    | cons v r M =>
     intro j i
     rw[oC,D2]
     cases m:Nat.beq j i with
     | true=>have:=Nat.eq_of_beq_eq_true m;subst this;simp
     | false =>
      have:=P7 m
      simp only[cond_false]
      rw[M]
      by_cases A:j+1≤i
      ·rw[if_pos A,if_pos (by omega),show i - j=(i - (j+1))+1 by omega];simp
      ·rw[if_neg A]
       by_cases l:j≤i
       ·omega
       ·rw[if_neg l]
   have I:Inv ⟨J,β,h,w⟩ fn.ntmps J β { s:=oC 0 d,h:=h } { tmps:=vs.toArray++Array.replicate (fn.ntmps - vs.toArray.size) undef,defers:=[] } w:=by
    refine⟨S,⟨fun i v m=>?_,fun i m=>?_⟩,?_,rfl,rfl,rfl,rfl,Nat.le_refl _,fun _ _ _=>rfl,fun _ K _=>K,fun _ _ O=>O,fun _ _ O=>.inl O,fun _=>Nat.le_refl _,?_,?_,?_⟩
    ·rw[sgetI,if_pos (Nat.zero_le _)]
     by_cases B:i<d.length
     ·have l:d[i - 0]?=some d[i]:=by simp[B]
      rw[l]
      have D:vs[i]?=some v:=by
       rw[Array.getElem?_append_left (by simp;omega)] at m
       simpa using m
      exact((Bm).1 U).2 i _ _ (by simp[B]) D
     ·have l:d[i - 0]?=none:=by simp;omega
      rw[l];simp[Rep]
    ·simp at m
     rw[sgetI,if_pos (Nat.zero_le _)]
     have l:d[i - 0]?=none:=by simp;omega
     rw[l];rfl
    ·simp;omega
    ·intro b x0 e;exact(iD.1 (roots k e)).2
    ·intro b x0 e;exact(iD.1 (roots k e)).1
    ·intro b x0 x e F hd
     change Ak h b=some x0 at e
     change Ak h b=some x at F
     rw[e] at F;simp at F;subst F
     exact⟨⟨rfl,rfl⟩,rfl,fun _=>rfl,hd⟩
   have fin:∀ st' G w' J' β',Inv ⟨J,β,h,w⟩ fn.ntmps J' β' st' G w'→Qm { P:=P,nt:=fn.ntmps,muts:=muts,nils:=q.nils,free:=q.free,cob:=q.cob,tbl:=T } fn q.modes (h.map (·.1)) (fun v h'=>some (v,h')) st'=some (n,h') →
     G.defers=[]∧∃ v,(results fn G.tmps).run P w'=.ok v w'∧∃ vc J' β',Ending.returned v=.returned vc∧FDone ⟨J,β,h,w⟩ J' β' h' w'∧Rep J' β' h' w' n vc:=by
    intro st' G w' J' β' I' l
    obtain⟨res2,h2',vc,J2,β2,D,h4,h5,h6⟩:=m6 I' l
    simp at D
    obtain⟨rfl,rfl⟩:=D
    exact⟨I'.defers,vc,h4,vc,J2,β2,rfl,h5,h6⟩
   exact tj (E:={ P:=P,nt:=fn.ntmps,muts:=muts,nils:=q.nils,free:=q.free,cob:=q.cob,tbl:=T }) (Adl hT) K c I X fin (fun _ _ _ _ _ _ _ l=>by simp at l) fin
end Gx

namespace Gx
open Go
section
variable {R R':Type}
theorem xM (E:Env) (ops:Array Oper) (o:Oper) (st:St) (k:St→Foot→O R) (g:R→Option R'):(tE E ops o st k).bind g=tE E ops o st fun st f=>(k st f).bind g:=by
 rw[JO,JO,Option.bind_assoc]
theorem qu (ops:Array Oper) (o:Oper) (st:St) (k:St→O R) (g:R→Option R'):(ZK ops o st k).bind g=ZK ops o st fun st=>(k st).bind g:=by
 unfold ZK
 split
 ·rfl
 ·split
  ·rfl
  ·split
   ·rw[Am]
   ·rfl
theorem iK (E:Env) (ops:Array Oper) (g:R→Option R'):∀ (l:List Oper) (st:St) (tr:List Foot) (k:St→List Foot→O R),(gY E ops l st tr k).bind g=gY E ops l st tr fun st tr=>(k st tr).bind g
 | [],st,tr,k=>rfl
 | o::r,st,tr,k=>by
  rw[gY,gY,qu]
  congr 1;funext st
  rw[xM]
  congr 1;funext st f
  exact iK E ops g r st (f::tr) k
theorem m9 (E:Env) (roots:List Nat) (ops:Array Oper) (draw:Bool) (st:St) (k:St→O R) (g:R→Option R'):(JI E roots ops draw st k).bind g=JI E roots ops draw st fun st=>(k st).bind g:=by
 unfold JI
 rw[iK]
 congr 1;funext st tr
 rw[Am,Option.bind_assoc];rfl
theorem xN (E:Env) (roots:List Nat) (H:Hint) (f:St→O R) (g:R→Option R') (st:St):(zg E roots H f st).bind g=zg E roots H (fun st=>(f st).bind g) st:=by
 unfold zg
 rw[Am,Option.bind_assoc,Ub,Ub]
theorem cQ (cn:St→Option St) (b:(St→O R)→St→O R) (c:(St→Option R')→St→Option R') (g:R→Option R') (d:∀ k st,(b k st).bind g=c (fun st=>(k st).bind g) st):∀ n st,(EM cn b n st).bind g=EM cn c n st
 | 0,st=>rfl
 | n+1,st=>by
  rw[EM,EM,d]
  congr 1;funext st
  rw[Option.bind_assoc]
  congr 1;funext st
  exact cQ cn b c g d n st
theorem tz (E:Env) (roots:List Nat) (N:Nat) (g:R→Option R'):∀ (c:Code) (H:Hint) (k:St→O R) (x:Nat→St→O R) (r:St→O R) (st:St),
  (D5 E roots N c H k x r st).bind g=D5 E roots N c H (fun st=>(k st).bind g) (fun j st=>(x j st).bind g) (fun st=>(r st).bind g) st:=by
 intro c
 induction c with
 | skip=>intro H k x r st;rfl
 | region id ops draw=>intro H k x r st;exact m9 ..
 | seq a b d e =>
  intro H k x r st
  rw[D5,D5,d]
  congr 1;funext st
  rw[xN]
  congr 1;funext st
  exact e ..
 | cond c a b d e =>
  intro H k x r st
  rw[D5,D5]
  split
  ·rw[Am,d,e]
  ·rfl
 | block id c f =>
  intro H k x r st
  rw[D5,D5,f]
  simp only[Am]
 | loop c f =>
  intro H k x r st
  rw[D5,D5,Option.bind_assoc,Ub,Ub]
  congr 1;funext st
  exact cQ _ _ _ g (fun k st=>f ..) N st
 | exit id=>intro H k x r st;rfl
 | ret=>intro H k x r st;rfl
 | rangeFunc=>intro H k x r st;rfl
 | scope=>intro H k x r st;rfl
 | label=>intro H k x r st;rfl
 | goto=>intro H k x r st;rfl
 | refuse=>intro H k x r st;rfl
theorem V9 (E:Env) (st:St) (g:R→Option R'):∀ (l:List ResultVar) (b:LA) (k:LA→O R),(Jj E st l b k).bind g=Jj E st l b fun l=>(k l).bind g
 | [],b,k=>rfl
 | .tmp t::r,b,k=>by rw[Jj,Jj];exact V9 E st g r _ k
 | .cell a t::r,b,k=>by
  rw[Jj,Jj,Zh,Zh (R:=R'),Option.bind_assoc]
  congr 1;funext v
  exact V9 E st g r _ k
theorem m_ (E:Env) (fn:Func) (modes:List (Nat×Nat)) (outs:List Nat) (k:AV→Ah→O R) (g:R→Option R') (st:St):(Qm E fn modes outs k st).bind g=Qm E fn modes outs (fun v h=>(k v h).bind g) st:=by
 unfold Qm
 rw[V9]
 congr 1;funext l
 rw[Option.bind_assoc]
 congr 1;funext q
 rw[Am];rfl
theorem xO (P:Program) (muts:Nat→List Bool) (T:List (Nat×Tw)) (c:Hints) (N f:Nat) (b:LA) (h:Ah) (k:AV→Ah→O R) :
  BG P muts T c N f b h k=(BG P muts T c N f b h fun v h=>some (v,h)).bind fun p=>k p.1 p.2:=by
 unfold BG
 split
 ·rfl
 ·split
  ·rfl
  ·simp only
   rw[Am,tz]
   simp only[m_]
   rfl
structure Cut (R:Type) where
 c:Code
 H:Hint
 k:St→O R
 x:Nat→St→O R
 r:St→O R
noncomputable def Ag1 (E:Env) (roots:List Nat) (N:Nat):List Nat→Code→Hint→(St→O R)→(Nat→St→O R)→(St→O R)→List (St→O R)→Cut R
 | [],c,H,k,x,r,_=>⟨c,H,k,x,r⟩
 | d::p,.seq a b,H,k,x,r,ks=>cond (Nat.beq d 0) (Ag1 E roots N p a H.a (zg E roots H fun st=>D5 E roots N b H.b k x r st) x r ks) (Ag1 E roots N p b H.b k x r ks)
 | d::p,.cond _ a b,H,k,x,r,ks=>cond (Nat.beq d 0) (Ag1 E roots N p a H.a k x r ks) (Ag1 E roots N p b H.b k x r ks)
 | _::p,.block id c,H,k,x,r,ks=>Ag1 E roots N p c H.a k (fun j st=>cond (Nat.beq j id) (k st) (x j st)) r ks
 | _::p,.loop c,H,_,x,r,q::ks=>Ag1 E roots N p c H.a (fun st=>(SM E H.live roots st).bind q) x r ks
 | _::_,c,H,k,x,r,_=>⟨c,H,k,x,r⟩
def uA:Code→Code
 | .loop c=>c
 | c=>c
structure CutB (R:Type) where
 E:Env
 roots:List Nat
 N:Nat
 c:Cut R
noncomputable def Cm (q:CutB R) (st:St):O R:=D5 q.E q.roots q.N q.c.c q.c.H q.c.k q.c.x q.c.r st
noncomputable def Adm (q:CutB R) (st:St):O R:=Ada true (fun st=>D5 q.E q.roots q.N q.c.c q.c.H q.c.k q.c.x q.c.r st) st
theorem A2 (q:CutB R) (st:St):Adm q st=Cm q st:=by unfold Adm;rw[Ub];rfl
noncomputable def Au (q:CutB R) (n:Nat) (st:St):O R:=EM (SM q.E q.c.H.live q.roots) (fun k st=>D5 q.E q.roots q.N (uA q.c.c) q.c.H.a k q.c.x q.c.r st) n st
noncomputable def Agb (q:CutB R) (st:St):O R:=Ada true (EM (SM q.E q.c.H.live q.roots) (fun k st=>D5 q.E q.roots q.N (uA q.c.c) q.c.H.a k q.c.x q.c.r st) q.N) st
theorem Ap (q:CutB R) (st:St):Agb q st=Au q q.N st:=by unfold Agb;rw[Ub];rfl
def Ag2 (fn:Func):Code:=match fn.body with | some c=>c | none=>.skip
def Agc:List (Nat×List Bool)→Nat→List Bool
 | [],_=>[]
 | (i,l)::r,f=>cond (Nat.beq i f) l (Agc r f)
end
end Gx

namespace Gx
open Go
abbrev KF (R:Type):=AV→Ah→Option R
abbrev D8:=List (Nat×Tw)
abbrev hL:Hint:=.leaf
abbrev hS (a b:Hint):Hint:=.node [] a b
abbrev hP (l:List Nat) (a:Hint):Hint:=.node l a .leaf
abbrev hJ (l:List Nat) (a b:Hint):Hint:=.join l a b
def Afa (P:Program) (muts:Nat→List Bool) (nt:Nat) (hs:Hints) (T:List (Nat×Tw)):Env:={ P,nt,muts,nils:=hs.nils,free:=hs.free,cob:=hs.cob,tbl:=T }
noncomputable def Aj0 {R:Type} (P:Program) (muts:Nat→List Bool) (fn:Func) (hs:Hints) (T:List (Nat×Tw)) (roots:List Nat) (N:Nat) (F:KF R) (p:List Nat) (ks:List (St→O R)):CutB R :=
 ⟨Afa P muts fn.ntmps hs T,roots,N,Ag1 (Afa P muts fn.ntmps hs T) roots N p (Ag2 fn) hs.H (Qm (Afa P muts fn.ntmps hs T) fn hs.modes roots F) (fun _ _=>none) (Qm (Afa P muts fn.ntmps hs T) fn hs.modes roots F) ks⟩
def iv (n:Int):AV:=.int .i64 n
def op (k:Nat):AV:=.optr (300000+k) 0
def Ajo:Nat→List Blk→Ah
 | _,[]=>[]
 | i,b::r=>(i,b)::Ajo (i+1) r
def hq (l:List Blk):Ah:=Ajo 300000 l
def bQ (sz:Nat) (c:LA):Blk:=⟨false,false,true,false,sz,c,false,none⟩
def bN (sz:Nat) (c:LA):Blk:=⟨false,false,false,false,sz,c,false,none⟩
def bP (t:Bool) (sz:Nat) (c:LA):Blk:=⟨false,false,true,t,sz,c,false,none⟩
def Bw {R:Type} (kd:IntKind) (c:LA) (k:Int→O R):O R:=(c.head?).bind fun x=>(bp kd x).bind k
def Pa {R:Type} (c:LA) (k:Bool→O R):O R:=(c.head?).bind fun x=>(asBool x).bind k
def Ag3 {R:Type} (c:LA) (k:List UInt8→O R):O R:=(c.head?).bind fun x=>(gR x).bind k
def Kk {R:Type} (sz:Nat) (c:LA) (k:LA→Nat→O R):O R:=(c.head?).bind fun x=>(Ae6 sz x).bind fun p=>k p.1 p.2
def xP (k:IntKind) (a b:Int):Int:=k.wrap ((BitVec.ofInt k.bits a &&& BitVec.ofInt k.bits b).toNat:Int)
def Lp (k:IntKind) (a b:Int):Int:=k.wrap ((BitVec.ofInt k.bits a ||| BitVec.ofInt k.bits b).toNat:Int)
def Bj (s:List UInt8):LA:=s.map fun b=>.int .u8 (b.toNat:Int)
def Ag4 (P:Program) (muts:Nat→List Bool) (N f:Nat) (run:(R:Type)→Nat→LA→Ah→KF R→O R):Prop:=∀ {R Q:Type} (args:LA) (h:Ah) (k:KF R) (j:KF Q),
 (∃ T hs,iE P T∧run R N args h k=BG P muts T hs N f args h k∧run Q N args h j=BG P muts T hs N f args h j)∨(run R N args h k=none∧run Q N args h j=none)
theorem As {P:Program} {muts:Nat→List Bool} {T:List (Nat×Tw)} {d:Hints} {N f:Nat} {c:LA} {h:Ah} {R Q:Type} {k:KF R} {j:KF Q} {a:O R} {b:Option Q} {p:Prop}
  (e:BG P muts T d N f c h k=a) (i:BG P muts T d N f c h j=b) (hT:iE P T):(∃ T d,iE P T∧a=BG P muts T d N f c h k∧b=BG P muts T d N f c h j)∨p:=.inl ⟨T,d,hT,e.symm,i.symm⟩
theorem Av {R Q:Type} {p:Prop}:p∨((none:O R)=none∧(none:Option Q)=none):=.inr ⟨rfl,rfl⟩
def At {P:Program} {muts:Nat→List Bool} {N f:Nat} {run:(R:Type)→Nat→LA→Ah→KF R→O R} (H:Ag4 P muts N f run):Tw:=⟨fun {R} args h k=>run R N args h k,fun args h k=>by
 rcases H args h k (fun v h=>some (v,h)) with⟨T,hs,_,e1,e2⟩ | ⟨e1,e2⟩
 ·rw[e1,e2];exact xO ..
 ·rw[e1,e2];rfl⟩
theorem Ai8 {P:Program} {muts:Nat→List Bool} {N f:Nat} {run:(R:Type)→Nat→LA→Ah→KF R→O R} (H:Ag4 P muts N f run) (e:P.follows .mixedOrders=true):tm P f (At H):=by
 intro b h i h' c
 change run _ N b h _=_ at c
 rcases H b h (fun v h=>some (v,h)) (fun v h=>some (v,h)) with⟨T,j,hT,d,_⟩ | ⟨d,_⟩
 ·rw[d] at c;exact tw hT e c
 ·rw[d] at c;cases c
theorem Da {α δ:Type} (f:α→δ) {a b:α} (c:a=b):f a=f b:=by rw[c]
theorem uB {α β δ:Type} (f:α→β→δ) {a c:α} {b d:β} (e:a=c) (i:b=d):f a b=f c d:=by rw[e,i]
theorem Aj1 {α β γ δ:Type} (f:α→β→γ→δ) {a d:α} {b e:β} {c c':γ} (i:a=d) (j:b=e) (k:c=c'):f a b c=f d e c':=by rw[i,j,k]
end Gx

namespace Gx
open Go Go.RowKit
theorem zt {P:Program} {f:Nat} {t:Tw} (i:tm P f t) {W:World} {avs:LA} {vs:List Value} (m:Reps (fun _ k=>k<W.heap.size) (fun _=>none) [] W avs vs)
  (d:(t.runK avs [] fun v h=>some (v,h))=some (.bool true,[])) (j:GlobOk (fun _ k=>k<W.heap.size) W):Calls P f vs.toArray W fun e w'=>e=.returned (.bool true)∧Below W.heap.size W w':=by
 have S:SimH (fun _ k=>k<W.heap.size) (fun _=>none) [] W:=⟨fun _ _ h=>h,fun _ h=>h,j,fun b x c=>by simp[Ak] at c,fun b x c=>by simp[Ak] at c,fun b q x x' k o o' c=>by simp[Ak] at c⟩
 refine Calls.mono (i avs [] _ _ d _ _ W vs S m) ?_
 rintro e w' ⟨vc,J',β',rfl,F,l⟩
 rw[Rep] at l;subst l
 refine⟨rfl,F.os,F.tape,F.output,F.size,fun k n=>F.frame k n ?_⟩
 rintro⟨b,x,o,c,_⟩
 change Ak [] b=some x at c
 simp[Ak] at c
structure Opens (P:Program) (t:TypeId) {α:Type} (e:α→List AV) (n:Nat):Prop where
 size:P.cellsOf t=n
 pos:0<n
 len:∀ a,(e a).length=n
 read:∀ {H:Type} (enc:TypeId×Value→H) (W:World) (fuel:Nat) (cs:List Value) (d:DataW H) (ps:List MemPlace),DataW.trod enc P W 0 (fun _=>true) true fuel t cs=some (d,ps) →
  cs.length=n∧∃ a,RepCs (fun k=>k<W.heap.size) W (e a) (fun j=>cs[j]?) 0
theorem zu {P:Program} {t:TypeId} {k:IntKind} (c:P.underlying t=some (.int k)) (e:P.cellsOf t=1):Opens P t (α:={ n:Int // (Lit.int k n).wf=true }) (fun n=>[.int k n.1]) 1:=by
 refine⟨e,by omega,fun _=>rfl,fun enc W b cs d ps h=>?_⟩
 obtain⟨n,rfl,_,f⟩:=DataW.trod_int c h
 exact⟨rfl,⟨n,f⟩,by simp[RepCs,RepC]⟩
theorem xQ {P:Program} {t:TypeId} (e:P.underlying t=some .bool) (f:P.cellsOf t=1):Opens P t (α:=Bool) (fun b=>[.bool b]) 1:=by
 refine⟨f,by omega,fun _=>rfl,fun enc W c cs d ps h=>?_⟩
 obtain⟨b,rfl,_⟩:=DataW.trod_bool e h
 exact⟨rfl,b,by simp[RepCs,RepC]⟩
theorem Adn {P:Program} {t:TypeId} (e:P.underlying t=some (.int .u8)) (f:P.cellsOf t=1):Opens P t (α:=UInt8) (fun b=>[.int .u8 (b.toNat:Int)]) 1:=by
 refine⟨f,by omega,fun _=>rfl,fun enc W c cs d ps h=>?_⟩
 obtain⟨n,rfl,_,i⟩:=DataW.trod_int e h
 have j:0≤n∧n≤255:=by simpa[Lit.wf,IntKind.min,IntKind.max,IntKind.signed,IntKind.bits] using i
 refine⟨rfl,UInt8.ofNat n.toNat,?_⟩
 have:((UInt8.ofNat n.toNat).toNat:Int)=n:=by
  rw[UInt8.toNat_ofNat'];omega
 simp[RepCs,RepC]
 omega
theorem cR {α β:Type} {e:α→List β} {n:Nat} (d:0<n) (b:∀ a,(e a).length=n):∀ (l:List α) (j:Nat),(l.flatMap e)[j]?=(l[j/n]?).bind fun a=>(e a)[j%n]?
 | [],j=>by simp
 | a::r,j=>by
  rw[List.flatMap_cons]
  by_cases c:j<n
  ·rw[List.getElem?_append_left (by rw[b];exact c),Nat.div_eq_of_lt c,Nat.mod_eq_of_lt c];simp
  ·rw[List.getElem?_append_right (by rw[b];omega),b,cR d b r (j - n)]
   have f:j/n=(j - n)/n+1:=by
    have:=Nat.add_div_right (j - n) d
    rw[show j - n+n=j by omega] at this;exact this
   have i:j%n=(j - n)%n:=by
    have:=Nat.add_mod_right (j - n) n
    rw[show j - n+n=j by omega] at this;exact this
   rw[f,i];simp
theorem cS {α β:Type} {e:α→List β} {n:Nat} (b:∀ a,(e a).length=n):∀ (l:List α),(l.flatMap e).length=l.length*n
 | []=>by simp
 | a::r=>by rw[List.flatMap_cons,List.length_append,b,cS b r,List.length_cons,Nat.succ_mul];omega
theorem uC {α β:Type} {f:α→Option β}:∀ {l:List α} {r:List β},l.mapM f=some r→r.length=l.length∧∀ (i:Nat) (a:α),l[i]?=some a→f a=r[i]?
 | [],r,h=>by simp at h;subst h;simp
 | x::l,r,h=>by
  rw[List.mapM_cons] at h
  cases b:f x with
  | none=>simp[b] at h
  | some y =>
   cases c:l.mapM f with
   | none=>simp[b,c] at h
   | some ys =>
    simp[b,c] at h
    subst h
    obtain⟨e,j⟩:=uC c
    refine⟨by simp[e],fun i a d=>?_⟩
    cases i with
    | zero=>simp at d;subst d;simpa using b
    | succ i=>simpa using j i a (by simpa using d)
theorem cT {P:Program} {t D:TypeId} {α:Type} {e:α→LA} {n:Nat} (X:P.underlying t=some (.slice D)) (Y:P.cellsOf t=1) (s:Opens P D e n) :
  Opens P t (α:={ l:List α // l.length≤maxLen }) (fun l=>[.imm (l.1.flatMap e) l.1.length n false false]) 1:=by
 refine⟨Y,by omega,fun _=>rfl,fun enc W b cs d ps h=>?_⟩
 cases b with
 | zero=>simp[DataW.trod] at h
 | succ b =>
  unfold DataW.trod at h
  simp only[X] at h
  split at h
  all_goals first | (rename_i c;simp at c;done) | (rename_i c _;simp at c;done) | (rename_i c _ _;simp at c;done) | skip
  ·refine⟨rfl,⟨[],by simp⟩,?_⟩
   simp[RepCs,RepC]
  ·rename_i e' a len cap c
   simp at c;subst c
   split at h
   ·rename_i v
    obtain⟨hb,hlc,hcm⟩:=v
    refine⟨rfl,?_⟩
    cases K:(List.range len).mapM (fun i=>(W.cells? 0 (a.add (i*P.cellsOf D)) (P.cellsOf D)).bind (DataW.trod enc P W 0 (fun _=>true) true b D)) with
    | none=>rw[K] at h;simp at h
    | some gT =>
     obtain⟨h1,T⟩:=uC K
     rw[s.size] at T
     have each:∀ i:Nat,i<len→∃ x:α,∃ cs,W.cells? 0 (a.add (i*n)) n=some cs∧RepCs (fun k=>k<W.heap.size) W (e x) (fun j=>cs[j]?) 0:=by
      intro i U
      have F:=T i i (by simp[U])
      rw[List.getElem?_eq_getElem (by rw[h1];simpa using U)] at F
      cases f:W.cells? 0 (a.add (i*n)) n with
      | none=>rw[f] at F;simp at F
      | some cs =>
       rw[f] at F
       obtain⟨_,x,c⟩:=s.read enc W b cs _ _ F
       exact⟨x,cs,rfl,c⟩
     have build:∀ m,m≤len→∃ l:List α,l.length=m∧∀ i x,l[i]?=some x→∃ cs,W.cells? 0 (a.add (i*n)) n=some cs∧RepCs (fun k=>k<W.heap.size) W (e x) (fun j=>cs[j]?) 0:=by
      intro m
      induction m with
      | zero=>intro _;exact⟨[],rfl,by simp⟩
      | succ m ih =>
       intro K
       obtain⟨l,I,z⟩:=ih (by omega)
       obtain⟨x,cs,L,M⟩:=each m (by omega)
       refine⟨l++[x],by simp[I],fun i y B=>?_⟩
       rw[List.getElem?_append] at B
       split at B
       ·exact z i y B
       ·have:i=m:=by
         have:=(List.getElem?_eq_some_iff.1 B).1
         simp at this;omega
        subst this
        simp[I] at B;subst B
        exact⟨cs,L,M⟩
     obtain⟨l,I,z⟩:=build len (Nat.le_refl _)
     refine⟨⟨l,by omega⟩,?_⟩
     simp only[RepCs,RepC,and_true]
     refine⟨_,rfl,?_,some a,cap,by rw[I],by omega,by simp,?_⟩
     ·exact cS s.len l
     ·by_cases h0:l.length=0
      ·exact .inl h0
      ·right
       refine⟨a,rfl,?_,?_⟩
       ·obtain⟨x,cs,c,_⟩:=each 0 (by omega)
        have:=World.cells?_block c s.pos
        rwa [Nq] at this
       ·rw[Bi]
        intro j x C
        rw[cR s.pos s.len] at C
        cases hq:l[j/n]? with
        | none=>rw[hq] at C;simp at C
        | some y =>
         rw[hq] at C
         simp at C
         obtain⟨cs,f,q⟩:=z (j/n) y hq
         rw[Bi] at q
         obtain⟨u,G,O⟩:=q (j%n) x C
         refine⟨u,?_,O⟩
         obtain⟨_,V,A⟩:=World.cells?_some f
         have S:j%n<n:=Nat.mod_lt _ s.pos
         have:=A (j%n) S
         rw[Addr.add_add,show j/n*n+j%n=j by rw[Nat.mul_comm];exact Nat.div_add_mod j n] at this
         simp only[Nat.zero_add] at G ⊢
         rw[this];exact G
   ·simp at h
  ·simp at h
end Gx

namespace Gx
open Go Go.RowKit
theorem xR {J:Bool→Nat→Prop} {β:Bl} {w w':World} (S:SimH J β [] w) (B:Below w.heap.size w w'):SimH J β [] w' :=
 ⟨fun o k h=>Nat.lt_of_lt_of_le (S.jlt o k h) B.size,S.jft,S.gl.to (fun _ h=>h) (fun k d=>B.block k (S.jlt _ k d)),fun b x c=>by simp[Ak] at c,fun b x c=>by simp[Ak] at c,fun b e x x' k o o' c=>by simp[Ak] at c⟩
theorem JQ {P:Program} {f:Nat} {c:LA} {d:AV}
  (l:∀ (J:Bool→Nat→Prop) (β:Bl) (w:World) (vs:List Value),GlobOk J w→Reps J β [] w c vs→Calls P f vs.toArray w fun e w'=>∃ vc,e=.returned vc∧Below w.heap.size w w'∧∀ J β w,Rep J β [] w d vc):Ai1 P f c [] d []:=by
 intro J β w vs S m
 refine(l J β w vs S.gl m).mono ?_
 rintro e w' ⟨vc,rfl,B,n⟩
 refine⟨vc,J,β,rfl,⟨xR S B,B.os,B.tape,B.output,B.size,fun k j _=>B.block k j,?_,fun _ _ h=>h,fun _ _ h=>.inl h,fun k=>?_,fun b x0 x i=>by simp[Ak] at i,fun b x i=>by simp[Ak] at i⟩,n _ _ _⟩
 ·rintro k ⟨b,x,o,i,_⟩;simp[Ak] at i
 ·by_cases j:k<w.heap.size
  ·simp[A1,B.block k j]
  ·simp[A1,Array.getElem?_eq_none (Nat.le_of_not_lt j)]
theorem iL {J:Bool→Nat→Prop} {β:Bl} {h:Ah} {w:World} {x:AV} {vs:List Value} (H:Reps J β h w [x] vs):∃ u,vs=[u]∧Rep J β h w x u:=by
 rw[Reps] at H
 obtain⟨u,d,rfl,c,b⟩:=H
 rw[Reps] at b;subst b
 exact⟨u,rfl,c⟩
theorem uD {J:Bool→Nat→Prop} {β:Bl} {h:Ah} {w:World} {x y:AV} {vs:List Value} (H:Reps J β h w [x,y] vs):∃ u v,vs=[u,v]∧Rep J β h w x u∧Rep J β h w y v:=by
 rw[Reps] at H
 obtain⟨u,e,rfl,b,c⟩:=H
 obtain⟨v,rfl,d⟩:=iL c
 exact⟨u,v,rfl,b,d⟩
theorem GlobOk.tab {J:Bool→Nat→Prop} {w:World} (h:GlobOk J w) {P:Program} {g:Nat} {name:String} {k:IntKind} {zs:List Int} (b:(g,zs.map fun z=>Value.int k z) ∈ zC) (c:P.globalNamed name=some g):Lib.TabIs P w name k zs:=by
 obtain⟨ty,fr,d⟩:=(h.1 _ b).2
 unfold Lib.TabIs World.var?
 rw[c]
 simp only[Option.bind_some]
 rw[d]
theorem Ado {W:World} {P:Program} {g:Nat} {name:String} {k:IntKind} {zs:List Int} (h:Lib.TabIs P W name k zs) (b:P.globalNamed name=some g):∃ ty fr,W.heap[g]?=some (.cells (zs.map fun z=>Value.int k z).toArray ty fr):=by
 unfold Lib.TabIs World.var? at h
 rw[b] at h
 simp only[Option.bind_some] at h
 split at h
 ·rename_i cs ty fr c
  simp at h;subst h
  exact⟨ty,fr,c⟩
 ·cases h
theorem GlobOk.int {J:Bool→Nat→Prop} {w:World} (h:GlobOk J w) {g:Nat} (b:g ∈ wl):∃ m,w.cell? ⟨g,0,none⟩=some (.int .i64 m):=(h.2 g b).2
theorem Adp {W:World} {g i:Nat} {v:Value} (h:W.cell? ⟨g,i,none⟩=some v):g<W.heap.size:=by
 rcases Nat.lt_or_ge g W.heap.size with b | b
 ·exact b
 ·simp[World.cell?,Array.getElem?_eq_none b] at h
end Gx

namespace Gx
open Go
theorem am {a b:Bool} (c:a=true) (d:b=true):(a&&b)=true:=by rw[c,d];rfl
theorem Ag5 {P:Program} (M:laidOutB P=true) (O:mapsRowed P=true) (S:(P.stops==[])=true) (T:(P.stopKnobs==[])=true) (b:P.stopsHeard=true) (d:P.mayEnter=true) {f:FuncId} {fn:Func} {s:ChangeSpec} {c:OpenClaim} (e:(c.inPlace==P.inPlace f)=true) (i:(c.unfollowed==P.unfollowed f)=true) (j:(c.recurses==P.recurses f)=true) (l:(c.named==P.varsNamed f)=true)
  (m:(c.lifted==P.liftsFinal)=true) (n:(P.make==some c.make)=true) (q:(c.plainKeys==P.plainKeys)=true)
  (U:c.wf (OpenSpec.ofChange s)=true) (V:fn.params.all (P.readableRec ·)=true) (X:namedTie P c.named s.vars=true) (Y:(c.stops==[])=true) (h8:(c.knobs==[])=true)
  (u:(c.maps==(fn.params.toList++s.plain.varTypes P).any (P.mapsRec ·))=true) (v:(c.ifaces==(fn.params.toList++s.plain.varTypes P).any (P.ifacesRec ·))=true) (x:(c.mapsOut==P.mapsAmong fn.resultTypes.toList)=true)
  (y:(c.loops==(fn.params.toList++s.plain.varTypes P).any (P.loopsFrom ·))=true) (z:(c.wideKeys==(fn.params.toList++s.plain.varTypes P++fn.resultTypes.toList).any (P.wideKeysFrom ·))=true)
  (A:s.vars.all (P.varReadable ·)=true) (B:fn.resultTypes.all (fun t=>P.readableRec t&&decide (t<P.types.size))=true) (C:(c.ifacesOut==fn.resultTypes.toList.any (P.ifacesRec ·))=true) (D:(c.loopsOut==fn.resultTypes.toList.any (P.loopsFrom ·))=true)
  (F:c.shortTexts.isNone=true) (G:(c.kinds==(if c.domain.isEmpty then [] else fn.params.toList.map fun t=>match P.underlying t with | some (.int k)=>some k | _=>none))=true) (I:(c.pinned==c.pinnedBy)=true)
  (K:(c.veiled==(fn.params.toList++s.plain.varTypes P++fn.resultTypes.toList).any (P.veiledRec ·))=true) (L:c.veiledFits P fn.params.toList (fn.params.toList++s.plain.varTypes P++fn.resultTypes.toList)=true):joinedFacts P f fn s c=true:=by
 unfold joinedFacts
 exact am (am (am (am (am (am (am (am (am (am (am (am (am (am (am (am (am (am (am (am (am (am (am (am (am (am (am (am (am (am (am U M) O) V) X) Y) S) h8) T) e) i) j) l) u) v) x) y) z) A) B) C) D) q) F) b) d) m) n) G) I) K) L
end Gx

namespace Go.Proofs.YtjmfofdghmlldaaGreatDoor
open Go.ChangeShapes Go.WideShapes Go.ChangeAt Go.RowKit
theorem Ai9:ownKnob Tryz.prog.godebug=none:=by kernel_rfl
theorem iM:laidOutB Tryz.prog=true:=by kernel_rfl
theorem Aja : Tryz.prog.globalNamed "internal/strconv.uint64pow10" = some 3 := by kernel_rfl
theorem Aj2:(Tryz.prog.globals[3]?).map (·.type)=some 333:=by kernel_rfl
theorem Ajb:Tryz.prog.underlying 333=some (.array 20 114):=by kernel_rfl
theorem Ajc:Tryz.prog.underlying 114=some (.int .u64):=by kernel_rfl
theorem Ajd:Tryz.prog.cellsOf 333=20:=by kernel_rfl
theorem Aje:Tryz.prog.cellsOf 114=1:=by kernel_rfl
def Aib:List Int:=(List.range 20).map fun i=>((10 ^ i:Nat):Int)
theorem zw {H:Type}:(Rows.laid_internal_strconv_uint64pow10:DataW H)=Lib.tabData .u64 Aib:=rfl
theorem Ag6 {W:World} (hL:laidMetH Tryz.prog Rows.numtextNativeRow.laid W) (c:W.ShapedOpen Tryz.prog):Gx.GlobOk (fun _ k=>k<W.heap.size) W:=by
 have s : Lib.TabIs Tryz.prog W "internal/strconv.uint64pow10" .u64 Aib := by
  have d:laidMet Tryz.prog Rows.numtextNativeRow.laid W:=hL
  obtain⟨ps,⟨D,t0,cs0,F,G,I,u,v,x,y,⟨K,t1,cs1,L,M,O,z,A,B,C,⟨S,t2,cs2,T,U,V,e,f,i,b,_,_⟩,_⟩,_⟩,_⟩:=d
  obtain rfl:=Option.some.inj (Aja.symm.trans e)
  obtain rfl:=Option.some.inj (Aj2.symm.trans f)
  unfold Lib.TabIs
  rw[zw] at b
  rw[i,←Lib.cells_of_tab Ajb Ajc Aje Ajd b]
 obtain⟨ty,fr,j⟩:=Gx.Ado s Aja
 obtain⟨m,l⟩:=cell_of_shapedOpen_int (P:=Tryz.prog) (g:=0) (t:=3) (zero:=#[.int .i64 0]) c (of_decide_eq_true (by kernel_rfl)) (by kernel_rfl) rfl (by kernel_rfl) (by kernel_rfl) Tryz.underlying3
 refine⟨fun p n=>?_,fun g q=>?_⟩
 ·simp only[Gx.zC,List.mem_singleton] at n
  subst n
  refine⟨?_,ty,fr,?_⟩
  ·show 3<W.heap.size
   rcases Nat.lt_or_ge 3 W.heap.size with h | h
   ·exact h
   ·rw[Array.getElem?_eq_none h] at j;cases j
  ·rw[j];rfl
 ·simp only[Gx.wl,List.mem_singleton] at q
  subst q
  exact⟨Gx.Adp l,m,l⟩
noncomputable def Ag7 (os:Os):World:=World.doorLaid Tryz.prog 3000 os
theorem Adq (os:Os) (b:Array Value):laidMetH Tryz.prog Rows.numtextNativeRow.laid ((Ag7 os).forCall (fun _ _=>0) ⟨#[],b,[]⟩).memory :=
 laidMet_of_run' 8 (by kernel_rfl) (by kernel_rfl)
theorem Aic:mapsRowed Tryz.prog=true:=by kernel_rfl
theorem Ag8:(Tryz.prog.stops==[])=true:=by kernel_rfl
theorem Ag9:(Tryz.prog.stopKnobs==[])=true:=by kernel_rfl
theorem Aha:Tryz.prog.stopsHeard=true:=by kernel_rfl
theorem Ahb:Tryz.prog.mayEnter=true:=by kernel_rfl
theorem Ahc:(Rows.numtextNativeRow.lifted==Tryz.prog.liftsFinal)=true:=by kernel_rfl
theorem Aid:(Tryz.prog.make==some Rows.numtextNativeRow.make)=true:=by kernel_rfl
theorem Aie:(Rows.numtextNativeRow.plainKeys==Tryz.prog.plainKeys)=true:=by kernel_rfl
end Go.Proofs.YtjmfofdghmlldaaGreatDoor

namespace Gx
open Go
theorem wrap_u8 (a:Nat):IntKind.wrap .u8 (a:Int)=((a%256:Nat):Int):=by rw[IntKind.wrap_u8];omega
theorem wrap_u32 (a:Nat) (h:a<4294967296):IntKind.wrap .u32 (a:Int)=(a:Int):=IntWalk.u32_in _ (by omega)
theorem zx (a:Nat):IntKind.wrap .u32 (a:Int)=((a%4294967296:Nat):Int):=by rw[IntKind.wrap_u32];omega
theorem wrap_i64 (a:Int) (h:-9223372036854775808≤a∧a≤9223372036854775807):IntKind.wrap .i64 a=a:=IntWalk.i64_in _ h
theorem wrap_u64 (a:Nat) (h:a<18446744073709551616):IntKind.wrap .u64 (a:Int)=(a:Int):=IntWalk.u64_in _ (by omega)
theorem JR (w a:Nat):BitVec.ofInt w (a:Int)=BitVec.ofNat w a:=by simp
theorem xS {k:IntKind} (d:k.signed=false) {a b:Nat} (e:a<2 ^ k.bits) (c:b<2 ^ k.bits):xP k a b=((a &&& b:Nat):Int):=by
 unfold xP
 rw[JR,JR]
 have f:(BitVec.ofNat k.bits a &&& BitVec.ofNat k.bits b).toNat=a &&& b:=by
  rw[BitVec.toNat_and,BitVec.toNat_ofNat,BitVec.toNat_ofNat,Nat.mod_eq_of_lt e,Nat.mod_eq_of_lt c]
 rw[f]
 have i:a &&& b<2 ^ k.bits:=Nat.and_lt_two_pow _ c
 unfold IntKind.wrap
 simp only[d,Bool.false_and,Bool.false_eq_true,if_false]
 have:(2 ^ k.bits:Int)=((2 ^ k.bits:Nat):Int):=by simp
 rw[this,←Int.natCast_emod,Nat.mod_eq_of_lt i]
theorem oM {k:IntKind} (e:k.signed=false) {a b:Nat} (c:a<2 ^ k.bits) (d:b<2 ^ k.bits):Lp k a b=((a ||| b:Nat):Int):=by
 unfold Lp
 rw[JR,JR]
 have f:(BitVec.ofNat k.bits a ||| BitVec.ofNat k.bits b).toNat=a ||| b:=by
  rw[BitVec.toNat_or,BitVec.toNat_ofNat,BitVec.toNat_ofNat,Nat.mod_eq_of_lt c,Nat.mod_eq_of_lt d]
 rw[f]
 have i:a ||| b<2 ^ k.bits:=Nat.or_lt_two_pow c d
 unfold IntKind.wrap
 simp only[e,Bool.false_and,Bool.false_eq_true,if_false]
 have:(2 ^ k.bits:Int)=((2 ^ k.bits:Nat):Int):=by simp
 rw[this,←Int.natCast_emod,Nat.mod_eq_of_lt i]
theorem Mi (a k:Nat):Int.fdiv (a:Int) (2 ^ k)=((a/2 ^ k:Nat):Int):=by
 have:(2 ^ k:Int)=((2 ^ k:Nat):Int):=by simp
 rw[this,Int.fdiv_eq_ediv_of_nonneg (a:Int) (Int.natCast_nonneg (2 ^ k))]
 rfl
theorem Xf {R:Type} {k:IntKind} {n:Int} {r:LA} {f:Int→O R}:Bw k (.int k n::r) f=f n:=by simp[Bw,bp,Mc]
theorem Al {i n:Nat} (h:i<n):Aj (i:Int) n=true:=by simp[Aj];omega
end Gx

namespace Gx
open Go Go.RowKit
section
variable {P:Program} {W:World} {H:Type} {enc:TypeId×Value→H} {β:Bl} {h:Ah}
theorem Afb {t i:TypeId} {α:Type} {e:α→LA} {n:Nat} {a:Option Addr} {len cap:Nat} {d:DataW H} {p:List MemPlace} (c:P.underlying t=some (.slice i)) (j:P.cellsOf t=1) (m:Opens P i e n)
  (q:DataW.Trod enc P W 0 (fun _=>true) true t (.slice a len cap) d p):∃ l:List α,l.length≤maxLen∧Rep (fun _ k=>k<W.heap.size) β h W (.imm (l.flatMap e) l.length n false false) (.slice a len cap):=by
 obtain⟨b,s⟩:=q
 obtain⟨_,⟨l,v⟩,f⟩:=(cT c j m).read enc W b _ _ _ s
 refine⟨l,v,?_⟩
 simp only[RepCs,Value.cells,and_true] at f
 obtain⟨u,c,f⟩:=f
 simp at c;subst c
 rw[Rep];exact f
theorem iN:∀ l:List UInt8,l.flatMap (fun b=>[AV.int .u8 (b.toNat:Int)])=Bj l
 | []=>rfl
 | b::r=>by rw[List.flatMap_cons,iN r];rfl
theorem Adr:Reps (fun _ k=>k<W.heap.size) β h W [] []:=by rw[Reps]
theorem oN {x:AV} {xs:LA} {v:Value} {vs:List Value} (b:Rep (fun _ k=>k<W.heap.size) β h W x v) (c:Reps (fun _ k=>k<W.heap.size) β h W xs vs):Reps (fun _ k=>k<W.heap.size) β h W (x::xs) (v::vs):=by
 rw[Reps];exact⟨v,vs,rfl,b,c⟩
end
end Gx

namespace Gx
open Go Go.RowKit
theorem Opens.map {P:Program} {t:TypeId} {α β:Type} {e:α→LA} {n:Nat} (h:Opens P t e n) (f:β→LA) (g:α→β) (i:∀ a,e a=f (g a)) (j:∀ b,(f b).length=n):Opens P t f n:=by
 refine⟨h.size,h.pos,j,fun enc W c cs d ps k=>?_⟩
 obtain⟨l,a,m⟩:=h.read enc W c cs d ps k
 exact⟨l,g a,by rw[←i];exact m⟩
structure OpensF (P:Program) (fs:List Field) (off:Nat) {α:Type} (e:α→List AV) (n:Nat):Prop where
 len:∀ a,(e a).length=n
 read:∀ {H:Type} (enc:TypeId×Value→H) (W:World) (fuel:Nat) (cs:List Value),(∀ (i:Nat) (f:Field),fs[i]?=some f→∃ d ps,DataW.trod enc P W 0 (fun _=>true) true fuel f.type ((cs.drop f.offset).take (P.cellsOf f.type))=some (d,ps)) →
  ∃ a,RepCs (fun k=>k<W.heap.size) W (e a) (fun j=>cs[j]?) off
theorem iO {P:Program} {off:Nat}:OpensF P [] off (α:=Unit) (fun _=>[]) 0:=⟨fun _=>rfl,fun _ _ _ _ _=>⟨(),by simp[RepCs]⟩⟩
theorem Ug {P:Program} {f:Field} {fs:List Field} {off:Nat} {α β:Type} {e:α→LA} {n:Nat} {v:β→LA} {m:Nat} (B:f.offset=off) (k:Opens P f.type e n) (y:OpensF P fs (off+n) v m) :
  OpensF P (f::fs) off (α:=α×β) (fun p=>e p.1++v p.2) (n+m):=by
 refine⟨fun p=>by rw[List.length_append,k.len,y.len],fun enc W c cs h=>?_⟩
 obtain⟨d,ps,C⟩:=h 0 f rfl
 obtain⟨F,a,z⟩:=k.read enc W c _ _ _ C
 obtain⟨b,A⟩:=y.read enc W c cs fun i g D=>h (i+1) g (by simpa using D)
 refine⟨(a,b),?_⟩
 rw[Bi] at z A ⊢
 intro j x s
 by_cases q:j<n
 ·rw[List.getElem?_append_left (by rw[k.len];exact q)] at s
  obtain⟨u,l,t⟩:=z j x s
  refine⟨u,?_,t⟩
  simp only[Nat.zero_add] at l
  rw[k.size,List.getElem?_take_of_lt q,List.getElem?_drop,B] at l
  exact l
 ·rw[List.getElem?_append_right (by rw[k.len];omega),k.len] at s
  obtain⟨u,l,t⟩:=A (j - n) x s
  refine⟨u,?_,t⟩
  rw[show off+n+(j - n)=off+j by omega] at l
  exact l
theorem S_ {P:Program} {t:TypeId} {fs:Array Field} {α:Type} {e:α→LA} {n:Nat} (m:P.underlying t=some (.struct fs)) (j:P.cellsOf t=n) (q:0<n) (h:OpensF P fs.toList 0 e n):Opens P t e n:=by
 refine⟨j,q,h.len,fun enc W k cs d ps s=>?_⟩
 obtain⟨xs,g,_,_,u,b,v⟩:=DataW.trod_struct m s
 refine⟨by rw[u,j],?_⟩
 exact h.read enc W g cs fun i f x=>by
  have l:fs[i]?=some f:=by simpa using x
  have:=v i f l
  have c:i<xs.length:=by
   rw[b];exact(Array.getElem?_eq_some_iff.1 l).1
  rw[List.getElem?_eq_getElem c] at this
  exact⟨_,_,this⟩
end Gx

namespace Gx
open Go Go.RowKit
section
variable {P:Program} {W:World} {H:Type} {enc:TypeId×Value→H} {β:Bl} {h:Ah}
theorem mc {t:TypeId} {fs:Array Field} {b:Nat} {r:Reach} {v:Value} (c:P.underlying t=some (.struct fs)) (h:Value.okWide P W r b t v):∃ cs,v=.agg cs:=by
 unfold Value.okWide at h
 rw[c] at h
 obtain⟨cs,h,_⟩:=h
 exact⟨cs,h⟩
theorem Ads {J:Nat→Prop}:∀ {x:AV} {u:Value},RepC J W x u→Rep (fun _=>J) β h W x u
 | .int ..,_,h=>by rw[Rep];rw[RepC] at h;exact h
 | .bool _,_,h=>by rw[Rep];rw[RepC] at h;exact h
 | .str _,_,h=>by rw[Rep];rw[RepC] at h;exact h
 | .nsl,_,h=>by rw[Rep];rw[RepC] at h;exact h
 | .imm ..,_,h=>by rw[Rep];exact h
 | .iptr ..,_,h=>by rw[Rep];exact h
 | .nilptr,_,h=>by rw[Rep];rw[RepC] at h;exact h
 | .nilfn,_,h=>by rw[Rep];rw[RepC] at h;exact h
 | .fn f [],_,h=>by
  rw[Rep];rw[RepC] at h
  exact⟨[],by simpa using h,by rw[Reps]⟩
 | .fn _ (_::_),_,h=>by simp[RepC] at h
 | .pagg ..,_,h=>by simp[RepC] at h
 | .agg _,_,h=>by simp[RepC] at h
 | .tup _,_,h=>by simp[RepC] at h
 | .own ..,_,h=>by simp[RepC] at h
 | .omap _,_,h=>by simp[RepC] at h
 | .optr ..,_,h=>by simp[RepC] at h
 | .undef,_,h=>by simp[RepC] at h
theorem zM {J:Nat→Prop}:∀ {c:LA} {cs:List Value} {rd:Nat→Option Value} {i:Nat},cs.length=c.length→(∀ j,cs[j]?=rd (i+j))→RepCs J W c rd i→Reps (fun _=>J) β h W c cs
 | [],cs,_,_,b,_,_=>by rw[Reps];simpa using b
 | x::r,[],_,_,b,_,_=>by simp at b
 | x::r,u::l,rd,i,b,f,e=>by
  rw[RepCs] at e
  obtain⟨⟨n,d,m⟩,e⟩:=e
  have k:=f 0
  simp only[List.getElem?_cons_zero,Nat.add_zero] at k
  rw[←k] at d
  cases d
  rw[Reps]
  refine⟨u,l,rfl,Ads m,zM (by simpa using b) (fun j=>?_) e⟩
  have:=f (j+1)
  rw[List.getElem?_cons_succ] at this
  rw[this];congr 1;omega
theorem Afc {c:LA} {v:Value} (b:Rep (fun _ k=>k<W.heap.size) β h W (.pagg c false) v):Rep (fun _ k=>k<W.heap.size) β h W (.agg c) v:=by
 rw[Rep] at b
 obtain⟨cs,d,e,f⟩:=b
 rw[Rep]
 exact⟨cs,d,zM e (fun j=>by rw[Nat.zero_add]) f⟩
end
end Gx

namespace Gx
open Go Go.Proofs
open IntKind (wrap)
set_option maxRecDepth 100000
noncomputable section
variable {R:Type} (N:Nat)
def muts:Nat→List Bool:=Agc [(66,[false,true]),(97,[true,false]),(98,[true,false,false]),(100,[true,false,false,false,false]),(101,[true,false,false,false]),(102,[true,false,false,false]),(111,[true]),(113,[true,false]),(116,[true]),(132,[false,true]),(157,[true,false]),(158,[true,false]),(159,[true,false,false,false]),(160,[true,false,false,false,false,false,false,false]),(161,[true,false,false,false,false,false]),(163,[true,false,false]),(164,[true,false,false]),(165,[true,false,false]),(166,[true,false,false]),(167,[true,false,false]),(171,[true]),(172,[true]),(173,[true]),(174,[true]),(175,[true]),(176,[true]),(177,[true]),(178,[true]),(181,[true,true]),(182,[false,true,true,true,true,true,true,true,true]),(184,[true,true]),(185,[false,true,true,true,true,true,true,true,true]),(191,[true]),(204,[true,false]),(205,[true]),(214,[true]),(225,[true,false,false,false,false,false]),(227,[true,false,false,false,false,false]),(228,[true,false,false]),(233,[true,false,false]),(234,[true,false,false,false,false]),(235,[true,false,false,false,false]),(236,[true,false,false,false]),(237,[true,false,true]),(238,[false,true,true,true,true,true,true,true,true]),(239,[false,true,true,true,true,true,true,true,true]),(240,[true,false,false]),(242,[true,false,false]),(243,[false,true,true,true,true,true,true,true,true]),(244,[true,false]),(245,[false,true,true,true,true,true,true,true,true]),(246,[false,true,true,true,true,true,true,true,true]),(247,[false,true,true,true,true,true,true,true,true]),(249,[true,false]),(254,[false,true]),(271,[true,false]),(277,[true,false]),(314,[false,true,true,true,true,true,true,true,true])]
def Ov {R:Type}:=@Aj0 R Tryz.prog muts
abbrev Cd {R:Type}:=@BG R Tryz.prog muts
abbrev An:=@Ag4 Tryz.prog muts
theorem follows:Tryz.prog.follows .mixedOrders=true:=by kernel_rfl
theorem Cg {N f:Nat} {run:(R:Type)→Nat→LA→Ah→KF R→O R} (H:An N f run):tm Tryz.prog f (At H):=Ai8 H follows
def C1:Hints:={ H:=hL }
def Hl:Hints:={ H:=hL,modes:=[(3,0)] }
def oO:Hints:={ H:=hL,modes:=[(3,0),(0,0)] }
def cU:Hints:={ H:=(hS hL (hS hL (hS (hS (hP [0,3] hL) hL) hL))),nils:=[(2,1)],modes:=[(2,1)] }
def Adt:Hints:={ H:=hL,nils:=[(2,1)],modes:=[(2,1)] }
def oP:Hints:={ H:=(hS hL (hS hL (hS hL (hS (hS hL (hS (hP [0,1,5] hL) hL)) hL)))) }
def Adu:Hints:={ H:=hL,modes:=[(3,0),(3,0),(0,0)] }
def Agd:Hints:={ H:=(hS hL (hS (hS hL (hS (hP [0,3] hL) hL)) hL)) }
end
end Gx

namespace Gx
def val:List Nat→Nat
 | []=>0
 | x::r=>x+4294967296*val r
def Ad (l:List Nat):Prop:=∀ x ∈ l,x<4294967296
def uE:Nat→Nat→List Nat
 | 0,_=>[]
 | f+1,n=>if n=0 then [] else n%4294967296::uE f (n/4294967296)
def Af (n:Nat):List Nat:=uE n n
theorem zN:∀ (f n:Nat),n≤f→∀ g,n≤g→uE f n=uE g n
 | 0,n,h,g,_=>by
  have:n=0:=by omega
  subst this;cases g<;>simp[uE]
 | f+1,n,h,g,c=>by
  by_cases b:n=0
  ·subst b;cases g<;>simp[uE]
  ·cases g with
   | zero=>omega
   | succ g=>simp only[uE,b,if_false];rw[zN f _ (by omega) g (by omega)]
theorem Cc:Af 0=[]:=rfl
theorem Uh {n:Nat} (h:n≠0):Af n=n%4294967296::Af (n/4294967296):=by
 unfold Af
 cases n with
 | zero=>omega
 | succ n=>simp only[uE,h,if_false];rw[zN n _ (by omega) ((n+1)/4294967296) (by omega)]
theorem Ac:∀ n,val (Af n)=n:=by
 intro n
 induction n using Nat.strongRecOn with
 | _ n b =>
  by_cases h:n=0
  ·subst h;rfl
  ·rw[Uh h,val,b _ (by omega)];omega
theorem Ab:∀ n,Ad (Af n):=by
 intro n
 induction n using Nat.strongRecOn with
 | _ n c =>
  by_cases h:n=0
  ·subst h;intro x b;simp[Cc] at b
  ·rw[Uh h];intro x b
   simp at b
   rcases b with rfl | b
   ·omega
   ·exact c _ (by omega) x b
theorem Nw:Ad []:=by intro x b;simp at b
theorem Ce {x:Nat} {r:List Nat}:Ad (x::r)↔x<4294967296∧Ad r:=by simp[Ad]
theorem TA {a b:List Nat}:Ad (a++b)↔Ad a∧Ad b:=by simp[Ad,or_imp,forall_and]
theorem Bo {a:List Nat} (h:Ad a) (n:Nat):Ad (a.take n):=fun x b=>h x (List.mem_of_mem_take b)
theorem Zl {a:List Nat} (h:Ad a) (n:Nat):Ad (a.drop n):=fun x b=>h x (List.mem_of_mem_drop b)
theorem Aw {a:List Nat} (h:Ad a) {i:Nat} (b:i<a.length):a[i]<4294967296:=h _ (List.getElem_mem b)
theorem Bt {a:List Nat} (h:Ad a) {v:Nat} (d:v<4294967296) (i:Nat):Ad (a.set i v):=fun x c=>by
 rcases List.mem_or_eq_of_mem_set c with b | b
 ·exact h x b
 ·omega
theorem Bs (n:Nat):Ad (List.replicate n 0):=fun x b=>by simp at b;omega
theorem Ld:∀ (a b:List Nat),val (a++b)=val a+4294967296 ^ a.length*val b
 | [],b=>by simp[val]
 | x::r,b=>by
  simp only[List.cons_append,val,List.length_cons,Ld r b,Nat.pow_succ]
  rw[Nat.mul_add,←Nat.add_assoc,←Nat.mul_assoc];congr 2;rw[Nat.mul_comm]
theorem Cx:∀ n,val (List.replicate n 0)=0
 | 0=>rfl
 | n+1=>by rw[List.replicate_succ,val,Cx n]
theorem Be:∀ {a:List Nat},Ad a→val a<4294967296 ^ a.length
 | [],_=>by simp[val]
 | x::r,h=>by
  have b:=Ce.1 h
  have c:=Be b.2
  rw[val,List.length_cons,Nat.pow_succ]
  omega
theorem xT (a:List Nat) (x:Nat):val (a++[x])=val a+4294967296 ^ a.length*x:=by rw[Ld];simp[val]
theorem QI {n:Nat} (h:n≠0):Af n≠[]:=by rw[Uh h];simp
theorem iP {n:Nat}:Af n=[]↔n=0:=by
 constructor
 ·intro h;by_cases b:n=0;exact b;exact absurd h (QI b)
 ·intro h;rw[h];rfl
theorem A8 {n:Nat}:(Af n).length=0↔n=0:=by rw[List.length_eq_zero_iff,iP]
theorem A3:∀ {l:List Nat},Ad l→l=Af (val l)++List.replicate (l.length - (Af (val l)).length) 0∧(Af (val l)).length≤l.length
 | [],_=>by simp[val,Cc]
 | x::r,h=>by
  have d:=Ce.1 h
  obtain⟨b,e⟩:=A3 d.2
  rw[val]
  by_cases c:x+4294967296*val r=0
  ·have f:x=0:=by omega
   have i:val r=0:=by omega
   rw[c,Cc]
   rw[i,Cc] at b
   simp at b
   subst f
   refine⟨?_,by simp⟩
   rw[List.nil_append,List.length_nil,Nat.sub_zero,List.length_cons,List.replicate_succ,←b]
  ·rw[Uh c,show(x+4294967296*val r)%4294967296=x by omega,show(x+4294967296*val r)/4294967296=val r by omega]
   refine⟨?_,by simp;exact e⟩
   rw[List.cons_append,List.length_cons,List.length_cons,Nat.add_sub_add_right,←b]
theorem iQ:∀ (n:Nat) (h:Af n≠[]),(Af n).getLast h≠0:=by
 intro n
 induction n using Nat.strongRecOn with
 | _ n d =>
  intro h
  have f:n≠0:=fun e=>h (by rw[e];rfl)
  have e:=Uh f
  by_cases c:n/4294967296=0
  ·rw[c,Cc] at e
   have:n<4294967296:=by omega
   simp[e];omega
  ·have b:=QI c
   have:=d _ (by omega) b
   have i:(Af n).getLast h=(Af (n/4294967296)).getLast b:=by
    simp only[e];rw[List.getLast_cons b]
   rw[i];exact this
theorem Ahd:∀ {l:List Nat},Ad l→(∀ h:l≠[],l.getLast h≠0)→Af (val l)=l:=by
 intro l h i
 obtain⟨b,j⟩:=A3 h
 by_cases d:l.length - (Af (val l)).length=0
 ·rw[d] at b;simpa using b.symm
 ·exfalso
  obtain⟨k,d⟩:=Nat.exists_eq_succ_of_ne_zero d
  rw[d,List.replicate_succ',←List.append_assoc] at b
  have c:l≠[]:=by intro e;rw[e] at b;simp at b
  apply i c
  have f:l.getLast?=some 0:=by rw[b,List.getLast?_append];rfl
  rw[List.getLast?_eq_some_getLast c] at f
  simpa using f
theorem Bp {n k:Nat} (h:n<4294967296 ^ k):(Af n).length≤k:=by
  induction k generalizing n with
  | zero => have : n = 0 := by simpa using h
            subst this;simp[Cc]
  | succ k c =>
    by_cases b:n=0
    · subst b;simp[Cc]
    · rw[Uh b,List.length_cons]
      have:n/4294967296<4294967296 ^ k:=by
        rw[Nat.pow_succ] at h
        exact Nat.div_lt_of_lt_mul (by rw[Nat.mul_comm];exact h)
      have:=c this
      omega
theorem A4 {a b:Nat} (h:a≤b):(Af a).length≤(Af b).length:=by
 apply Bp
 have:=Be (Ab b)
 rw[Ac] at this
 omega
end Gx

namespace Gx
theorem oQ {U V U3 V2 P d:Nat} (hV:V2*P≤V) (hU:U<(U3+1)*P) (h:U3<d*V2) (b:0<V):U/V<d:=by
 rw[Nat.div_lt_iff_lt_mul b]
 have e:(U3+1)*P≤d*V2*P:=Nat.mul_le_mul_right _ h
 have c:d*(V2*P)≤d*V:=Nat.mul_le_mul_left _ hV
 rw[←Nat.mul_assoc] at c
 omega
theorem oR {U V U3 V2 P d:Nat} (hV:V<(V2+1)*P) (hU:U3*P≤U) (h:d*V2≤U3) (c:d≤V2+1) (b:0<V):d≤U/V+1:=by
 cases d with
 | zero=>exact Nat.zero_le _
 | succ d =>
  have:d≤U/V:=by
   rw[Nat.le_div_iff_mul_le b]
   have e:(d+1)*V2*P≤U3*P:=Nat.mul_le_mul_right _ h
   have f:d*V≤d*((V2+1)*P):=Nat.mul_le_mul_left _ (by omega)
   have i:d*((V2+1)*P)≤(d+1)*V2*P:=by
    rw[←Nat.mul_assoc]
    apply Nat.mul_le_mul_right
    rw[Nat.mul_add,Nat.add_mul];omega
   omega
  omega
theorem uF {a b u v s t x y:Nat} (e:x+v*b=u*a) (f:y+s*a=t*b) (c:u*t=v*s+1):Nat.gcd x y=Nat.gcd a b:=by
 have i:t*x+v*y=a:=by
  have d:t*x+t*v*b=t*u*a:=by rw[←Nat.mul_assoc t u a |>.symm,Nat.mul_assoc t v b,←Nat.mul_add,e]
  have j:v*y+v*s*a=v*t*b:=by rw[Nat.mul_assoc,Nat.mul_assoc,←Nat.mul_add,f]
  have k:t*u*a=v*s*a+a:=by rw[Nat.mul_comm t u,c,Nat.add_mul,Nat.one_mul]
  have l:t*v*b=v*t*b:=by rw[Nat.mul_comm t v]
  omega
 have m:s*x+u*y=b:=by
  have d:s*x+s*v*b=s*u*a:=by rw[Nat.mul_assoc,Nat.mul_assoc,←Nat.mul_add,e]
  have j:u*y+u*s*a=u*t*b:=by rw[Nat.mul_assoc,Nat.mul_assoc,←Nat.mul_add,f]
  have k:u*t*b=v*s*b+b:=by rw[c,Nat.add_mul,Nat.one_mul]
  have l:s*u*a=u*s*a:=by rw[Nat.mul_comm s u]
  have n:s*v*b=v*s*b:=by rw[Nat.mul_comm s v]
  omega
 apply Nat.dvd_antisymm
 ·apply Nat.dvd_gcd
  ·rw[←i];exact Nat.dvd_add (Nat.dvd_mul_left_of_dvd (Nat.gcd_dvd_left x y) t) (Nat.dvd_mul_left_of_dvd (Nat.gcd_dvd_right x y) v)
  ·rw[←m];exact Nat.dvd_add (Nat.dvd_mul_left_of_dvd (Nat.gcd_dvd_left x y) s) (Nat.dvd_mul_left_of_dvd (Nat.gcd_dvd_right x y) u)
 ·apply Nat.dvd_gcd
  ·have d:Nat.gcd a b∣x+v*b:=by rw[e];exact Nat.dvd_mul_left_of_dvd (Nat.gcd_dvd_left a b) u
   exact(Nat.dvd_add_left (Nat.dvd_mul_left_of_dvd (Nat.gcd_dvd_right a b) v)).1 d
  ·have d:Nat.gcd a b∣y+s*a:=by rw[f];exact Nat.dvd_mul_left_of_dvd (Nat.gcd_dvd_right a b) t
   exact(Nat.dvd_add_left (Nat.dvd_mul_left_of_dvd (Nat.gcd_dvd_left a b) s)).1 d
theorem Ui {a b x y P u v w:Nat} (c:x*P≤a) (e:b<(y+1)*P) (d:u*x=w+v*y) (f:v≤w):v*b≤u*a:=by
 have i:u*(x*P)≤u*a:=Nat.mul_le_mul_left _ c
 have j:v*b≤v*((y+1)*P):=Nat.mul_le_mul_left _ (by omega)
 have k:v*((y+1)*P)≤u*(x*P):=by
  rw[←Nat.mul_assoc,←Nat.mul_assoc]
  apply Nat.mul_le_mul_right
  rw[d,Nat.mul_add];omega
 omega
end Gx

namespace Gx
open Go
section
variable {R:Type}
def Aa (l:List Nat):LA:=l.map fun n:Nat=>.int .u32 (n:Int)
theorem Rg (x:Nat) (l:List Nat):Aa (x::l)=.int .u32 (x:Int)::Aa l:=rfl
theorem Bb (l:List Nat):(Aa l).length=l.length:=by simp[Aa]
theorem zy (l:List Nat) (n:Nat):(Aa l).drop n=Aa (l.drop n):=by simp[Aa,List.map_drop]
theorem Nx (l:List Nat) (n:Nat):(Aa l).take n=Aa (l.take n):=by simp[Aa,List.map_take]
theorem TB (l:List Nat) (j:Nat) (v:Nat):List.set (Aa l) j (.int .u32 (v:Int))=Aa (l.set j v):=by simp[Aa,List.map_set]
theorem B0 (n:Nat):List.replicate n (AV.int .u32 0)=Aa (List.replicate n 0):=by simp[Aa]
theorem uG {l:List Nat} {i:Nat} (h:i<l.length) {f:Int→O R}:Bw .u32 (List.drop i (Aa l)) f=f (l[i]:Nat):=by
 rw[zy,List.drop_eq_getElem_cons h,Rg,Xf]
theorem Uj:∀ l:List Nat,Cw (Aa l)=true
 | []=>rfl
 | x::r=>by rw[Rg,Cw];exact Uj r
theorem Wa (a b:Nat):(a:Int)+(b:Int)=((a+b:Nat):Int):=by omega
theorem iR (a b:Nat):(a:Int)*(b:Int)=((a*b:Nat):Int):=by simp
theorem Fv {a:Nat} (h:a<18446744073709551616):IntKind.wrap .u64 (a:Int)=(a:Int):=wrap_u64 a h
theorem zO {a:Nat} (h:a<4294967296):IntKind.wrap .u32 (a:Int)=(a:Int):=wrap_u32 a h
theorem QJ (a:Nat):IntKind.wrap .u32 (a:Int)=((a%4294967296:Nat):Int):=zx a
theorem KV (a:Int):IntKind.wrap .u64 a=a%18446744073709551616:=IntKind.wrap_u64 a
theorem ZY {a b:Nat} (c:a<18446744073709551616) (d:b≤a):IntKind.wrap .u64 ((a:Int) - (b:Int))=((a - b:Nat):Int):=by rw[KV];omega
theorem Adv {a b:Nat} (h:a<b) (c:b≤18446744073709551616):IntKind.wrap .u64 ((a:Int) - (b:Int))=((18446744073709551616+a - b:Nat):Int):=by rw[KV];omega
theorem ZZ (a:Nat):Int.fdiv (a:Int) (2 ^ 32)=((a/4294967296:Nat):Int):=Mi a 32
theorem Aif (a:Nat):Int.fdiv (a:Int) (2 ^ 63)=((a/9223372036854775808:Nat):Int):=Mi a 63
theorem i64 {a:Int} (h:-9223372036854775808≤a∧a≤9223372036854775807):IntKind.wrap .i64 a=a:=wrap_i64 a h
theorem xU {a b:Nat} (c:a<18446744073709551616) (d:b<18446744073709551616):Lp .u64 (a:Int) (b:Int)=((a ||| b:Nat):Int):=oM rfl c d
theorem Z_ {a b k:Nat} (h:b<2 ^ k):a*2 ^ k ||| b=a*2 ^ k+b:=by
 rw[←Nat.shiftLeft_eq,Nat.shiftLeft_add_eq_or_of_lt h]
end
end Gx

namespace Gx
open Go Go.Proofs Go.RowKit Go.ChangeShapes
open Go.Proofs.YtjmfofdghmlldaaGreatDoor (Rows.uptoBulk Rows.uptoBulkAll)
theorem Ahe {H:Type} (d:DataW H):1≤Rows.uptoBulk d:=by
 cases d with
 | lit l=>cases l<;>simp[Rows.uptoBulk]
 | _=>simp[Rows.uptoBulk]
theorem Adw {H:Type} (l:List (DataW H)):l.length≤Rows.uptoBulkAll l:=by
 induction l with
 | nil=>simp[Rows.uptoBulkAll]
 | cons x r b=>have:=Ahe x;simp only[Rows.uptoBulkAll,List.length_cons];omega
theorem Adx {n:Int} (h:(Lit.int .u32 n).wf=true):0≤n∧n<4294967296:=by
 simp only[Lit.wf,Bool.and_eq_true,decide_eq_true_eq,show IntKind.u32.min=0 from rfl,show IntKind.u32.max=4294967295 from rfl] at h;omega
section
variable {W:World} {H:Type} {enc:TypeId×Value→H} {β:Bl} {h:Ah}
theorem iS {P:Program} {t f:TypeId} (i:P.underlying t=some (.slice f)) {b:Nat} {cs:List Value} {x:DataW H×List MemPlace} {sp:Nat→Bool} {c:Bool} (j:DataW.trod enc P W 0 sp c b t cs=some x) {a:Option Addr} {len cap:Nat} (d:cs[0]?=some (.slice a len cap)):len+1≤Rows.uptoBulk x.1:=by
 rcases DataW.trod_slice i j with⟨rfl,rfl⟩ | ⟨k,len',cap',gT,D7,n,_,rfl,rfl,_,_,_,e,_,_⟩
 ·simp at d
  obtain⟨_,rfl,_⟩:=d
  simp[Rows.uptoBulk]
 ·simp at d
  obtain⟨_,rfl,_⟩:=d
  have:=Adw (gT.map (·.1))
  simp only[Rows.uptoBulk]
  rw[List.length_map] at this
  omega
theorem xV:Opens Tryz.prog 97 (α:={ n:Nat // n<4294967296 }) (fun n=>[.int .u32 (n.1:Int)]) 1 :=
 (zu Tryz.underlying97 (by kernel_rfl)).map _ (fun n=>⟨n.1.toNat,by have:=Adx n.2;omega⟩) (fun n=>by have:=Adx n.2;simp;omega) (fun _=>rfl)
theorem oS:∀ l:List { n:Nat // n<4294967296 },l.flatMap (fun n=>[AV.int .u32 (n.1:Int)])=Aa (l.map (·.1))
 | []=>rfl
 | a::r=>by rw[List.flatMap_cons,oS r];rfl
theorem cV:Opens Tryz.prog 22 (α:={ l:List Nat // Ad l }) (fun l=>[.imm (Aa l.1) l.1.length 1 false false]) 1 :=
 (cT Tryz.underlying22 (by kernel_rfl) xV).map _ (fun l=>⟨l.1.map (·.1),fun x b=>by obtain⟨y,_,rfl⟩:=List.mem_map.1 b;exact y.2⟩) (fun l=>by show [AV.imm (l.1.flatMap (fun n=>[AV.int .u32 (n.1:Int)])) l.1.length 1 false false]=[AV.imm (Aa (l.1.map (·.1))) (l.1.map (·.1)).length 1 false false];rw[oS,List.length_map]) (fun _=>rfl)
theorem Aaa:Opens Tryz.prog 24 (α:=Bool×{ l:List Nat // Ad l }×Unit) (fun p=>[.bool p.1,.imm (Aa p.2.1.1) p.2.1.1.length 1 false false]) 2:=(S_ Tryz.underlying24 (by kernel_rfl) (by decide) (Ug rfl (xQ Tryz.underlying4 (by kernel_rfl)) (Ug rfl cV iO))).map _ (fun p=>p) (fun _=>rfl) (fun _=>rfl)
theorem Ah6:Opens Tryz.prog 26 (α:=(Bool×{ l:List Nat // Ad l }×Unit)×{ l:List Nat // Ad l }×Unit) (fun p=>[.bool p.1.1,.imm (Aa p.1.2.1.1) p.1.2.1.1.length 1 false false,.imm (Aa p.2.1.1) p.2.1.1.length 1 false false]) 3:=(S_ Tryz.underlying26 (by kernel_rfl) (by decide) (Ug rfl Aaa (Ug rfl cV iO))).map _ (fun p=>p) (fun _=>rfl) (fun _=>rfl)
theorem iT {W:World} {e:LA} {cs:List Value} (f:RepCs (fun k=>k<W.heap.size) W e (fun j=>cs[j]?) 0) {j:Nat} {c:LA} {n sz:Nat} {t o:Bool} (i:e[j]?=some (.imm c n sz t o)):∃ a cap,cs[j]?=some (.slice a n cap):=by
 obtain⟨u,b,d⟩:=Bi.1 f j _ i
 rw[RepC] at d
 obtain⟨_,A,cap,rfl,_⟩:=d
 rw[Nat.zero_add] at b
 exact⟨A,cap,b⟩
theorem Ady {b:Nat} {cs:List Value} {x:DataW H×List MemPlace} {sp:Nat→Bool} {c:Bool} (d:DataW.trod enc Tryz.prog W 0 sp c b 24 cs=some x) {a:Option Addr} {len cap:Nat} (e:cs[1]?=some (.slice a len cap)):len≤Rows.uptoBulk x.1:=by
 obtain⟨y0,y1,n,rfl,i,j,f⟩:=trod_struct2 Tryz.underlying24 d
 have c1:Tryz.prog.cellsOf 22=1:=by kernel_rfl
 have:=iS (t:=22) Tryz.underlying22 f (a:=a) (len:=len) (cap:=cap) (by
  show(List.take (Tryz.prog.cellsOf 22) (cs.drop 1))[0]?=_
  rw[c1,List.getElem?_take_of_lt (by omega),List.getElem?_drop];exact e)
 simp only[Rows.uptoBulk,Rows.uptoBulkAll]
 omega
theorem Adz {c:Nat} {cs:List Value} {x:DataW H×List MemPlace} {sp:Nat→Bool} {d:Bool} (f:DataW.trod enc Tryz.prog W 0 sp d c 26 cs=some x) {a b:Option Addr} {len cap len2 cap2:Nat} (i:cs[1]?=some (.slice a len cap)) (e:cs[2]?=some (.slice b len2 cap2)):len+len2≤Rows.uptoBulk x.1:=by
 obtain⟨y0,y1,n,rfl,m,j,k⟩:=trod_struct2 Tryz.underlying26 f
 have c1:Tryz.prog.cellsOf 22=1:=by kernel_rfl
 have l:Tryz.prog.cellsOf 24=2:=by kernel_rfl
 have q:=iS (t:=22) Tryz.underlying22 k (a:=b) (len:=len2) (cap:=cap2) (by
  show(List.take (Tryz.prog.cellsOf 22) (cs.drop 2))[0]?=_
  rw[c1,List.getElem?_take_of_lt (by omega),List.getElem?_drop];exact e)
 have s:=Ady (a:=a) (len:=len) (cap:=cap) j (by
  show(List.take (Tryz.prog.cellsOf 24) (cs.drop 0))[1]?=_
  rw[l,List.getElem?_take_of_lt (by omega),List.getElem?_drop];exact i)
 simp only[Rows.uptoBulk,Rows.uptoBulkAll]
 omega
theorem Ad0 {v:Value} {d:DataW H} {p:List MemPlace} (i:∃ cs,v=.agg cs) (l:DataW.Trod enc Tryz.prog W 0 (fun _=>true) true 26 v d p) :
  ∃ (neg:Bool) (l1 l2:List Nat),Ad l1∧Ad l2∧l1.length+l2.length≤Rows.uptoBulk d∧Rep (fun _ k=>k<W.heap.size) β h W (.agg [.bool neg,.imm (Aa l1) l1.length 1 false false,.imm (Aa l2) l2.length 1 false false]) v:=by
 obtain⟨cs,rfl⟩:=i
 obtain⟨b,f⟩:=l
 obtain⟨m,⟨⟨n,l1,_⟩,l2,_⟩,c⟩:=Ah6.read enc W b _ _ _ f
 obtain⟨a,cap,q⟩:=iT (j:=1) c rfl
 obtain⟨a2,cap2,e⟩:=iT (j:=2) c rfl
 refine⟨n,l1.1,l2.1,l1.2,l2.2,Adz f q e,Afc ?_⟩
 rw[Rep]
 exact⟨cs.toList,rfl,m,c⟩
end
end Gx

namespace Gx
open Go Go.Proofs Go.RowKit
section
variable {W:World} {H:Type} {enc:TypeId×Value→H} {β:Bl} {h:Ah}
theorem xW {a:Option Addr} {len cap:Nat} {d:DataW H} {p:List MemPlace} (b:DataW.Trod enc Tryz.prog W 0 (fun _=>true) true 56 (.slice a len cap) d p) :
  ∃ l:List UInt8,l.length≤maxLen∧Rep (fun _ k=>k<W.heap.size) β h W (.imm (Bj l) l.length 1 false false) (.slice a len cap):=by
 obtain⟨l,c,e⟩:=Afb (β:=β) (h:=h) Tryz.underlying56 (by kernel_rfl) (Adn Tryz.underlying5 (by kernel_rfl)) b
 rw[iN] at e
 exact⟨l,c,e⟩
end
end Gx

namespace Gx
open Go
def Ay (c:UInt8):Bool:=decide (48≤c.toNat)&&decide (c.toNat≤57)
def Bx (s:List UInt8):Nat:=s.foldl (fun a c=>10*a+(c.toNat - 48)) 0
def KW (s:List UInt8):Bool:=s.all Ay&&!s.isEmpty
def Cj (s:List UInt8):Bool:=KW s&&(s==[48]||s.head? != some 48)
abbrev Hx:=Lib.decDigits
theorem Aab (s:List UInt8):∀ a,s.foldl (fun a c=>10*a+(c.toNat - 48)) a=a*10 ^ s.length+Bx s:=by
 unfold Bx
 induction s with
 | nil=>intro a;simp
 | cons c r b =>
  intro a
  rw[List.foldl_cons,List.foldl_cons,b,b (10*0+_),List.length_cons,Nat.pow_succ,Nat.add_mul,Nat.add_mul]
  have:10*a*10 ^ r.length=a*(10 ^ r.length*10):=by rw[Nat.mul_comm 10 a,Nat.mul_assoc,Nat.mul_comm 10]
  rw[this];omega
theorem Pb (a b:List UInt8):Bx (a++b)=Bx a*10 ^ b.length+Bx b:=by
 have:=Aab b (Bx a)
 unfold Bx at *
 rw[List.foldl_append];exact this
theorem Z' (a:List UInt8) (c:UInt8):Bx (a++[c])=10*Bx a+(c.toNat - 48):=by rw[Pb];simp[Bx];omega
theorem Xg (c:UInt8) (r:List UInt8):Bx (c::r)=(c.toNat - 48)*10 ^ r.length+Bx r:=by
 have:=Pb [c] r
 simpa[Bx] using this
theorem K3 {s:List UInt8} (h:s.all Ay=true):Bx s<10 ^ s.length:=by
 induction s with
 | nil=>simp[Bx]
 | cons c r b =>
  simp only[List.all_cons,Bool.and_eq_true] at h
  have d:=b h.2
  have e:c.toNat≤57:=by have:=h.1;simp[Ay] at this;omega
  rw[Xg,List.length_cons,Nat.pow_succ]
  have:(c.toNat - 48)*10 ^ r.length≤9*10 ^ r.length:=Nat.mul_le_mul_right _ (by omega)
  omega
theorem xX (k:Nat) (s:List UInt8):Bx (List.replicate k 48++s)=Bx s:=by
 rw[Pb]
 have:Bx (List.replicate k 48)=0:=by
  induction k with
  | zero=>rfl
  | succ k b=>rw[List.replicate_succ,Xg,b];simp
 rw[this];simp
theorem Lq {u:Nat} (h:u<10):Hx u=[UInt8.ofNat (48+u)]:=by rw[Hx,Lib.decDigits,dif_pos h]
theorem TC {u:Nat} (h:10≤u):Hx u=Hx (u/10)++[UInt8.ofNat (48+u%10)]:=by
 rw[Hx,Lib.decDigits,dif_neg (by omega)]
theorem JT {k:Nat} (h:k<10):Ay (UInt8.ofNat (48+k))=true∧(UInt8.ofNat (48+k)).toNat=48+k:=by
 have:(UInt8.ofNat (48+k)).toNat=48+k:=by simp;omega
 exact⟨by simp[Ay,this];omega,this⟩
theorem Cs:∀ u,(Hx u).all Ay=true:=by
 intro u
 induction u using Nat.strongRecOn with
 | ind u b =>
  by_cases h:u<10
  ·rw[Lq h];simpa using(JT h).1
  ·rw[TC (by omega),List.all_append,b (u/10) (by omega)]
   simpa using(JT (k:=u%10) (by omega)).1
theorem Sa (u:Nat):Hx u≠[]:=by
 by_cases h:u<10
 ·rw[Lq h];simp
 ·rw[TC (by omega)];simp
theorem D9:∀ u,Bx (Hx u)=u:=by
 intro u
 induction u using Nat.strongRecOn with
 | ind u b =>
  by_cases h:u<10
  ·rw[Lq h];simp only[Bx,List.foldl_cons,List.foldl_nil,(JT h).2];omega
  ·rw[TC (by omega),Z',b (u/10) (by omega),(JT (k:=u%10) (by omega)).2];omega
theorem iU:∀ u,0<u→(Hx u).head?≠some 48:=by
 intro u
 induction u using Nat.strongRecOn with
 | ind u d =>
  intro f
  by_cases h:u<10
  ·rw[Lq h]
   intro e
   simp at e
   have:=congrArg UInt8.toNat e
   simp at this;omega
  ·rw[TC (by omega)]
   have:=d (u/10) (by omega) (by omega)
   cases b:Hx (u/10) with
   | nil=>exact absurd b (Sa _)
   | cons c r=>rw[b] at this;simpa using this
theorem Xh (u:Nat):Cj (Hx u)=true:=by
 have b:=Cs u
 have d:=Sa u
 rcases Nat.eq_zero_or_pos u with h | h
 ·subst h;rw[Lq (by omega)];decide
 ·have e:=iU u h
  simp only[Cj,KW,b,Bool.true_and,Bool.and_eq_true,Bool.or_eq_true,bne_iff_ne]
  refine⟨?_,.inr e⟩
  cases f:Hx u with
  | nil=>exact absurd f d
  | cons c r=>rfl
theorem uH {c:UInt8} (h:Ay c=true):c=UInt8.ofNat (48+(c.toNat - 48)):=by
 simp[Ay] at h
 have:48+(c.toNat - 48)=c.toNat:=by omega
 rw[this];simp
theorem Ad1 {s:List UInt8} (h:Cj s=true):Hx (Bx s)=s:=by
 have key:∀ (n:Nat) (s:List UInt8),s.length=n→s.all Ay=true→s≠[]→(s.length=1∨s.head?≠some 48)→Hx (Bx s)=s:=by
  intro n
  induction n with
  | zero=>intro s m _ d;exact absurd (List.length_eq_zero_iff.1 m) d
  | succ n u =>
   intro s m i d j
   obtain⟨r,c,rfl⟩:∃ r c,s=r++[c]:=⟨s.dropLast,s.getLast d,(List.dropLast_concat_getLast d).symm⟩
   simp only[List.all_append,List.all_cons,List.all_nil,Bool.and_true,Bool.and_eq_true] at i
   have v:c.toNat - 48<10:=by have:=i.2;simp[Ay] at this;omega
   rw[Z']
   cases r with
   | nil =>
    rw[show Bx []=0 from rfl,Nat.mul_zero,Nat.zero_add,Lq v,←uH i.2];rfl
   | cons b f =>
    have k:(b::f).head?≠some 48:=by
     rcases j with j | j
     ·simp at j
     ·simpa using j
    have t:0<Bx (b::f):=by
     rw[Xg]
     have x:Ay b=true:=by have:=i.1;simp at this;exact this.1
     have q:b≠48:=by simpa using k
     have:0<b.toNat - 48:=by
      simp[Ay] at x
      have:b.toNat≠48:=fun e=>q (UInt8.toNat_inj.1 (by simpa using e))
      omega
     have:=Nat.mul_pos this (Nat.pow_pos (n:=f.length) (show 0<10 by omega))
     omega
    rw[TC (by omega),show(10*Bx (b::f)+(c.toNat - 48))/10=Bx (b::f) by omega,show(10*Bx (b::f)+(c.toNat - 48))%10=c.toNat - 48 by omega,←uH i.2]
    rw[u (b::f) (by simp at m ⊢;omega) i.1 (by simp) (.inr k)]
 simp only[Cj,KW,Bool.and_eq_true,Bool.or_eq_true,bne_iff_ne] at h
 obtain⟨⟨y,z⟩,l⟩:=h
 refine key _ s rfl y (by intro e;subst e;simp at z) ?_
 rcases l with l | l
 ·left;have:s=[48]:=by simpa using l
  rw[this];rfl
 ·exact .inr l
theorem xY {s:List UInt8} (b:s.all Ay=true) (d:s≠[]) (e:s.head?≠some 48):Cj s=true:=by
 simp only[Cj,KW,b,Bool.true_and,Bool.and_eq_true,Bool.or_eq_true,bne_iff_ne]
 refine⟨?_,.inr e⟩
 cases s with
 | nil=>exact absurd rfl d
 | cons c r=>rfl
theorem Aac {q r k:Nat} (hq:0<q) (f:r<10 ^ k) (i:(Hx r).length≤k):Hx (q*10 ^ k+r)=Hx q++(List.replicate (k - (Hx r).length) 48++Hx r):=by
 have b:(Hx q++(List.replicate (k - (Hx r).length) 48++Hx r)).all Ay=true:=by
  simp only[List.all_append,Cs,Bool.and_true,Bool.true_and]
  rw[List.all_eq_true];intro x d;rw[List.eq_of_mem_replicate d];decide
 have e:Cj (Hx q++(List.replicate (k - (Hx r).length) 48++Hx r))=true:=by
  refine xY b (by simp[Sa]) ?_
  have:=iU q hq
  cases h:Hx q with
  | nil=>exact absurd h (Sa q)
  | cons c t=>rw[h] at this;simpa using this
 rw[←Ad1 e,Pb,xX,D9,D9]
 rw[List.length_append,List.length_replicate,show k - (Hx r).length+(Hx r).length=k by omega]
theorem zP {u k:Nat} (q:0<k):(Hx u).length≤k↔u<10 ^ k:=by
 constructor
 ·intro h
  have:=K3 (Cs u)
  rw[D9] at this
  exact Nat.lt_of_lt_of_le this (Nat.pow_le_pow_right (by omega) h)
 ·intro h
  apply Classical.byContradiction
  intro s
  have b:k<(Hx u).length:=by omega
  have j:0<u:=by
   rcases Nat.eq_zero_or_pos u with e | e
   ·subst e;rw[Lq (by omega)] at b;simp at b;omega
   ·exact e
  have i:=iU u j
  cases d:Hx u with
  | nil=>exact Sa u d
  | cons c r =>
   rw[d] at i b
   have l:Ay c=true:=by have:=Cs u;rw[d] at this;simp at this;exact this.1
   have f:c≠48:=by simpa using i
   have m:1≤c.toNat - 48:=by
    simp[Ay] at l
    have:c.toNat≠48:=fun e=>f (UInt8.toNat_inj.1 (by simpa using e))
    omega
   have n:=D9 u
   rw[d,Xg] at n
   simp at b
   have t:10 ^ k≤10 ^ r.length:=Nat.pow_le_pow_right (by omega) (by omega)
   have v:1*10 ^ r.length≤(c.toNat - 48)*10 ^ r.length:=Nat.mul_le_mul_right _ m
   omega
end Gx

namespace Go.Proofs
open Go.Shelf Go.RowKit
open Go.RowKit
def Tryz.laysM171_ren : Go.Shelf.Ren := ⟨fun | 171 => 114 | 243 => 192 | 246 => 257 | 283 => 293 | 284 => 294 | 285 => 295 | 286 => 296 | 129 => 310 | 317 => 309 | 318 => 311 | 319 => 312 | 320 => 313 | 337 => 318 | 338 => 319 | n => n, fun | 3 => 3 | 9 => 9 | 2 => 2 | 4 => 4 | 171 => 315 | 0 => 0 | 53 => 114 | 37 => 56 | 5 => 5 | 173 => 318 | 212 => 333 | 51 => 97 | 20 => 20 | 213 => 334 | 46 => 204 | 232 => 345 | 233 => 346 | n => n, fun | 17 => 3 | 18 => 6 | 19 => 7 | n => n⟩
theorem Tryz.laysM171 : Go.Proofs.LaysM.n171 Tryz.prog Tryz.laysM171_ren := {
  mixed := by kernel_rfl
  f129 := Tryz.func310.trans (congrArg some (by kernel_rfl))
  f171 := Tryz.func114.trans (congrArg some (by kernel_rfl))
  f243 := Tryz.func192.trans (congrArg some (by kernel_rfl))
  f246 := Tryz.func257.trans (congrArg some (by kernel_rfl))
  f283 := Tryz.func293.trans (congrArg some (by kernel_rfl))
  f284 := Tryz.func294.trans (congrArg some (by kernel_rfl))
  f285 := Tryz.func295.trans (congrArg some (by kernel_rfl))
  f286 := Tryz.func296.trans (congrArg some (by kernel_rfl))
  f317 := Tryz.func309.trans (congrArg some (by kernel_rfl))
  f318 := Tryz.func311.trans (congrArg some (by kernel_rfl))
  f319 := Tryz.func312.trans (congrArg some (by kernel_rfl))
  f320 := Tryz.func313.trans (congrArg some (by kernel_rfl))
  f337 := Tryz.func318.trans (congrArg some (by kernel_rfl))
  f338 := Tryz.func319.trans (congrArg some (by kernel_rfl))
  t0 := Tryz.underlying0
  a0 := Tryz.isAgg0
  z0 := Tryz.sizeOf0
  v0 := Tryz.zeroValue0
  t2 := Tryz.underlying2
  a2 := Tryz.isAgg2
  z2 := Tryz.sizeOf2
  v2 := Tryz.zeroValue2
  t3 := Tryz.underlying3
  a3 := Tryz.isAgg3
  z3 := Tryz.sizeOf3
  v3 := Tryz.zeroValue3
  t4 := Tryz.underlying4
  a4 := Tryz.isAgg4
  z4 := Tryz.sizeOf4
  v4 := Tryz.zeroValue4
  t5 := Tryz.underlying5
  a5 := Tryz.isAgg5
  z5 := Tryz.sizeOf5
  v5 := Tryz.zeroValue5
  t9 := Tryz.underlying9
  a9 := Tryz.isAgg9
  z9 := Tryz.sizeOf9
  v9 := Tryz.zeroValue9
  t20 := Tryz.underlying20
  a20 := Tryz.isAgg20
  z20 := Tryz.sizeOf20
  v20 := Tryz.zeroValue20
  t37 := Tryz.underlying56
  a37 := Tryz.isAgg56
  z37 := Tryz.sizeOf56
  v37 := Tryz.zeroValue56
  t46 := Tryz.underlying204
  a46 := Tryz.isAgg204
  z46 := Tryz.sizeOf204
  v46 := Tryz.zeroValue204
  t51 := Tryz.underlying97
  a51 := Tryz.isAgg97
  z51 := Tryz.sizeOf97
  v51 := Tryz.zeroValue97
  t53 := Tryz.underlying114
  a53 := Tryz.isAgg114
  z53 := Tryz.sizeOf114
  v53 := Tryz.zeroValue114
  t171 := Tryz.underlying315
  a171 := Tryz.isAgg315
  z171 := Tryz.sizeOf315
  v171 := Tryz.zeroValue315
  t173 := Tryz.underlying318
  a173 := Tryz.isAgg318
  z173 := Tryz.sizeOf318
  v173 := Tryz.zeroValue318
  t212 := Tryz.underlying333
  a212 := Tryz.isAgg333
  z212 := Tryz.sizeOf333
  v212 := Tryz.zeroValue333
  t213 := Tryz.underlying334
  a213 := Tryz.isAgg334
  z213 := Tryz.sizeOf334
  t232 := Tryz.underlying345
  a232 := Tryz.isAgg345
  z232 := Tryz.sizeOf345
  v232 := Tryz.zeroValue345
  t233 := Tryz.underlying346
  a233 := Tryz.isAgg346
  z233 := Tryz.sizeOf346
  v233 := Tryz.zeroValue346
  g17 := by kernel_rfl
  g18 := by kernel_rfl
  g19 := by kernel_rfl
  i0 := by kernel_rfl
  i2 := by kernel_rfl
  i3 := by kernel_rfl
  i4 := by kernel_rfl
  i5 := by kernel_rfl
  i9 := by kernel_rfl
  i20 := by kernel_rfl
  i37 := by kernel_rfl
  i46 := by kernel_rfl
  i51 := by kernel_rfl
  i53 := by kernel_rfl
  i171 := by kernel_rfl
  i173 := by kernel_rfl
  i212 := by kernel_rfl
  i232 := by kernel_rfl
  i233 := by kernel_rfl
  m17 := by kernel_rfl
  m18 := by kernel_rfl
  m19 := by kernel_rfl }
def Tryz.laysC172_ren : Go.Shelf.Ren := ⟨fun | 172 => 147 | 244 => 219 | 245 => 220 | 247 => 279 | 279 => 280 | 280 => 281 | 281 => 282 | 282 => 283 | 287 => 300 | 316 => 301 | 171 => 114 | 205 => 302 | 321 => 315 | 322 => 316 | 243 => 192 | 246 => 257 | 283 => 293 | 284 => 294 | 285 => 295 | 286 => 296 | 129 => 310 | 317 => 309 | 318 => 311 | 319 => 312 | 320 => 313 | 337 => 318 | 338 => 319 | n => n, fun | 9 => 9 | 3 => 3 | 75 => 175 | 76 => 176 | 4 => 4 | 5 => 5 | 167 => 308 | 37 => 56 | 0 => 0 | 85 => 309 | 2 => 2 | 168 => 311 | 53 => 114 | 175 => 322 | 46 => 204 | 210 => 326 | 127 => 246 | 145 => 340 | 143 => 338 | 21 => 21 | 171 => 315 | 173 => 318 | 212 => 333 | 51 => 97 | 20 => 20 | 213 => 334 | 232 => 345 | 233 => 346 | 80 => 181 | n => n, fun | 15 => 1 | 16 => 2 | 17 => 3 | 18 => 6 | 19 => 7 | n => n⟩
theorem Tryz.laysC172 : Go.Proofs.LaysC.n172 Tryz.prog Tryz.laysC172_ren := {
  mixed := by kernel_rfl
  f129 := Tryz.func310.trans (congrArg some (by kernel_rfl))
  f171 := Tryz.func114.trans (congrArg some (by kernel_rfl))
  f172 := Tryz.func147.trans (congrArg some (by kernel_rfl))
  f205 := Tryz.func302.trans (congrArg some (by kernel_rfl))
  f243 := Tryz.func192.trans (congrArg some (by kernel_rfl))
  f244 := Tryz.func219.trans (congrArg some (by kernel_rfl))
  f245 := Tryz.func220.trans (congrArg some (by kernel_rfl))
  f246 := Tryz.func257.trans (congrArg some (by kernel_rfl))
  f247 := Tryz.func279.trans (congrArg some (by kernel_rfl))
  f279 := Tryz.func280.trans (congrArg some (by kernel_rfl))
  f280 := Tryz.func281.trans (congrArg some (by kernel_rfl))
  f281 := Tryz.func282.trans (congrArg some (by kernel_rfl))
  f282 := Tryz.func283.trans (congrArg some (by kernel_rfl))
  f283 := Tryz.func293.trans (congrArg some (by kernel_rfl))
  f284 := Tryz.func294.trans (congrArg some (by kernel_rfl))
  f285 := Tryz.func295.trans (congrArg some (by kernel_rfl))
  f286 := Tryz.func296.trans (congrArg some (by kernel_rfl))
  f287 := Tryz.func300.trans (congrArg some (by kernel_rfl))
  f316 := Tryz.func301.trans (congrArg some (by kernel_rfl))
  f317 := Tryz.func309.trans (congrArg some (by kernel_rfl))
  f318 := Tryz.func311.trans (congrArg some (by kernel_rfl))
  f319 := Tryz.func312.trans (congrArg some (by kernel_rfl))
  f320 := Tryz.func313.trans (congrArg some (by kernel_rfl))
  f321 := Tryz.func315.trans (congrArg some (by kernel_rfl))
  f322 := Tryz.func316.trans (congrArg some (by kernel_rfl))
  f337 := Tryz.func318.trans (congrArg some (by kernel_rfl))
  f338 := Tryz.func319.trans (congrArg some (by kernel_rfl))
  t0 := Tryz.underlying0
  a0 := Tryz.isAgg0
  z0 := Tryz.sizeOf0
  v0 := Tryz.zeroValue0
  t2 := Tryz.underlying2
  a2 := Tryz.isAgg2
  z2 := Tryz.sizeOf2
  v2 := Tryz.zeroValue2
  t3 := Tryz.underlying3
  a3 := Tryz.isAgg3
  z3 := Tryz.sizeOf3
  v3 := Tryz.zeroValue3
  t4 := Tryz.underlying4
  a4 := Tryz.isAgg4
  z4 := Tryz.sizeOf4
  v4 := Tryz.zeroValue4
  t5 := Tryz.underlying5
  a5 := Tryz.isAgg5
  z5 := Tryz.sizeOf5
  v5 := Tryz.zeroValue5
  t9 := Tryz.underlying9
  a9 := Tryz.isAgg9
  z9 := Tryz.sizeOf9
  v9 := Tryz.zeroValue9
  t20 := Tryz.underlying20
  a20 := Tryz.isAgg20
  z20 := Tryz.sizeOf20
  v20 := Tryz.zeroValue20
  t21 := Tryz.underlying21
  a21 := Tryz.isAgg21
  z21 := Tryz.sizeOf21
  v21 := Tryz.zeroValue21
  t37 := Tryz.underlying56
  a37 := Tryz.isAgg56
  z37 := Tryz.sizeOf56
  v37 := Tryz.zeroValue56
  t46 := Tryz.underlying204
  a46 := Tryz.isAgg204
  z46 := Tryz.sizeOf204
  v46 := Tryz.zeroValue204
  t51 := Tryz.underlying97
  a51 := Tryz.isAgg97
  z51 := Tryz.sizeOf97
  v51 := Tryz.zeroValue97
  t53 := Tryz.underlying114
  a53 := Tryz.isAgg114
  z53 := Tryz.sizeOf114
  v53 := Tryz.zeroValue114
  t75 := Tryz.underlying175
  a75 := Tryz.isAgg175
  z75 := Tryz.sizeOf175
  v75 := Tryz.zeroValue175
  t76 := Tryz.underlying176
  a76 := Tryz.isAgg176
  z76 := Tryz.sizeOf176
  v76 := Tryz.zeroValue176
  t85 := Tryz.underlying309
  a85 := Tryz.isAgg309
  z85 := Tryz.sizeOf309
  v85 := Tryz.zeroValue309
  t127 := Tryz.underlying246
  a127 := Tryz.isAgg246
  z127 := Tryz.sizeOf246
  v127 := Tryz.zeroValue246
  t143 := Tryz.underlying338
  a143 := Tryz.isAgg338
  z143 := Tryz.sizeOf338
  v143 := Tryz.zeroValue338
  t145 := Tryz.underlying340
  a145 := Tryz.isAgg340
  z145 := Tryz.sizeOf340
  v145 := Tryz.zeroValue340
  t167 := Tryz.underlying308
  a167 := Tryz.isAgg308
  z167 := Tryz.sizeOf308
  v167 := Tryz.zeroValue308
  t168 := Tryz.underlying311
  a168 := Tryz.isAgg311
  z168 := Tryz.sizeOf311
  v168 := Tryz.zeroValue311
  t171 := Tryz.underlying315
  a171 := Tryz.isAgg315
  z171 := Tryz.sizeOf315
  v171 := Tryz.zeroValue315
  t173 := Tryz.underlying318
  a173 := Tryz.isAgg318
  z173 := Tryz.sizeOf318
  v173 := Tryz.zeroValue318
  t175 := Tryz.underlying322
  a175 := Tryz.isAgg322
  z175 := Tryz.sizeOf322
  v175 := Tryz.zeroValue322
  t210 := Tryz.underlying326
  a210 := Tryz.isAgg326
  z210 := Tryz.sizeOf326
  v210 := Tryz.zeroValue326
  t212 := Tryz.underlying333
  a212 := Tryz.isAgg333
  z212 := Tryz.sizeOf333
  v212 := Tryz.zeroValue333
  t213 := Tryz.underlying334
  a213 := Tryz.isAgg334
  z213 := Tryz.sizeOf334
  t232 := Tryz.underlying345
  a232 := Tryz.isAgg345
  z232 := Tryz.sizeOf345
  v232 := Tryz.zeroValue345
  t233 := Tryz.underlying346
  a233 := Tryz.isAgg346
  z233 := Tryz.sizeOf346
  v233 := Tryz.zeroValue346
  g15 := by kernel_rfl
  g16 := by kernel_rfl
  g17 := by kernel_rfl
  g18 := by kernel_rfl
  g19 := by kernel_rfl
  t80 := Tryz.underlying181
  a80 := Tryz.isAgg181
  z80 := Tryz.sizeOf181
  v80 := Tryz.zeroValue181
  i0 := by kernel_rfl
  i2 := by kernel_rfl
  i3 := by kernel_rfl
  i4 := by kernel_rfl
  i5 := by kernel_rfl
  i9 := by kernel_rfl
  i20 := by kernel_rfl
  i21 := by kernel_rfl
  i37 := by kernel_rfl
  i46 := by kernel_rfl
  i51 := by kernel_rfl
  i53 := by kernel_rfl
  i75 := by kernel_rfl
  i76 := by kernel_rfl
  i80 := by kernel_rfl
  i85 := by kernel_rfl
  i127 := by kernel_rfl
  i143 := by kernel_rfl
  i145 := by kernel_rfl
  i167 := by kernel_rfl
  i168 := by kernel_rfl
  i171 := by kernel_rfl
  i173 := by kernel_rfl
  i175 := by kernel_rfl
  i210 := by kernel_rfl
  i212 := by kernel_rfl
  i232 := by kernel_rfl
  i233 := by kernel_rfl
  m15 := by kernel_rfl
  m16 := by kernel_rfl
  m17 := by kernel_rfl
  m18 := by kernel_rfl
  m19 := by kernel_rfl
  c0 := by kernel_rfl
  c2 := by kernel_rfl
  c3 := by kernel_rfl
  c4 := by kernel_rfl
  c5 := by kernel_rfl
  c9 := by kernel_rfl
  c20 := by kernel_rfl
  c21 := by kernel_rfl
  c37 := by kernel_rfl
  c46 := by kernel_rfl
  c51 := by kernel_rfl
  c53 := by kernel_rfl
  c75 := by kernel_rfl
  c76 := by kernel_rfl
  c80 := by kernel_rfl
  c85 := by kernel_rfl
  c127 := by kernel_rfl
  c143 := by kernel_rfl
  c145 := by kernel_rfl
  c167 := by kernel_rfl
  c168 := by kernel_rfl
  c171 := by kernel_rfl
  c173 := by kernel_rfl
  c175 := by kernel_rfl
  c210 := by kernel_rfl
  c212 := by kernel_rfl
  c213 := by kernel_rfl
  c232 := by kernel_rfl
  c233 := by kernel_rfl }
def Tryz.lays145_ren : Go.Shelf.Ren := ⟨fun | 145 => 105 | 220 => 179 | 219 => 252 | 217 => 286 | 225 => 287 | 224 => 288 | 267 => 289 | 266 => 304 | 314 => 305 | n => n, fun | 9 => 9 | 4 => 4 | 59 => 106 | 3 => 3 | 5 => 5 | 46 => 204 | 146 => 296 | 51 => 97 | n => n, fun | 1 => 0 | n => n⟩
theorem Tryz.lays145 : Go.Proofs.Lays.n145 Tryz.prog Tryz.lays145_ren := {
  mixed := by kernel_rfl
  f145 := Tryz.func105.trans (congrArg some (by kernel_rfl))
  f217 := Tryz.func286.trans (congrArg some (by kernel_rfl))
  f219 := Tryz.func252.trans (congrArg some (by kernel_rfl))
  f220 := Tryz.func179.trans (congrArg some (by kernel_rfl))
  f224 := Tryz.func288.trans (congrArg some (by kernel_rfl))
  f225 := Tryz.func287.trans (congrArg some (by kernel_rfl))
  f266 := Tryz.func304.trans (congrArg some (by kernel_rfl))
  f267 := Tryz.func289.trans (congrArg some (by kernel_rfl))
  f314 := Tryz.func305.trans (congrArg some (by kernel_rfl))
  t3 := Tryz.underlying3
  a3 := Tryz.isAgg3
  z3 := Tryz.sizeOf3
  v3 := Tryz.zeroValue3
  t4 := Tryz.underlying4
  a4 := Tryz.isAgg4
  z4 := Tryz.sizeOf4
  v4 := Tryz.zeroValue4
  t5 := Tryz.underlying5
  a5 := Tryz.isAgg5
  z5 := Tryz.sizeOf5
  v5 := Tryz.zeroValue5
  t9 := Tryz.underlying9
  a9 := Tryz.isAgg9
  z9 := Tryz.sizeOf9
  v9 := Tryz.zeroValue9
  t46 := Tryz.underlying204
  a46 := Tryz.isAgg204
  z46 := Tryz.sizeOf204
  v46 := Tryz.zeroValue204
  t51 := Tryz.underlying97
  a51 := Tryz.isAgg97
  z51 := Tryz.sizeOf97
  v51 := Tryz.zeroValue97
  t59 := Tryz.underlying106
  a59 := Tryz.isAgg106
  z59 := Tryz.sizeOf106
  v59 := Tryz.zeroValue106
  t146 := Tryz.underlying296
  a146 := Tryz.isAgg296
  z146 := Tryz.sizeOf296
  v146 := Tryz.zeroValue296
  g1 := by kernel_rfl }
def Tryz.lays105_ren : Go.Shelf.Ren := ⟨fun | 105 => 124 | 212 => 202 | 99 => 203 | 165 => 204 | 166 => 113 | 170 => 205 | 169 => 116 | 263 => 268 | 264 => 269 | 206 => 270 | 240 => 191 | 241 => 271 | 276 => 256 | 277 => 297 | n => n, fun | 9 => 9 | 3 => 3 | 4 => 4 | 20 => 20 | 0 => 0 | 46 => 204 | 109 => 254 | 5 => 5 | 72 => 168 | 76 => 176 | 51 => 97 | 146 => 296 | 53 => 114 | 148 => 298 | 70 => 166 | 37 => 56 | 75 => 175 | 127 => 246 | 164 => 289 | 80 => 181 | n => n, fun | n => n⟩
theorem Tryz.lays105 : Go.Proofs.Lays.n105 Tryz.prog Tryz.lays105_ren := {
  mixed := by kernel_rfl
  f99 := Tryz.func203.trans (congrArg some (by kernel_rfl))
  f105 := Tryz.func124.trans (congrArg some (by kernel_rfl))
  f165 := Tryz.func204.trans (congrArg some (by kernel_rfl))
  f166 := Tryz.func113.trans (congrArg some (by kernel_rfl))
  f169 := Tryz.func116.trans (congrArg some (by kernel_rfl))
  f170 := Tryz.func205.trans (congrArg some (by kernel_rfl))
  f206 := Tryz.func270.trans (congrArg some (by kernel_rfl))
  f212 := Tryz.func202.trans (congrArg some (by kernel_rfl))
  f240 := Tryz.func191.trans (congrArg some (by kernel_rfl))
  f241 := Tryz.func271.trans (congrArg some (by kernel_rfl))
  f263 := Tryz.func268.trans (congrArg some (by kernel_rfl))
  f264 := Tryz.func269.trans (congrArg some (by kernel_rfl))
  f276 := Tryz.func256.trans (congrArg some (by kernel_rfl))
  f277 := Tryz.func297.trans (congrArg some (by kernel_rfl))
  t0 := Tryz.underlying0
  a0 := Tryz.isAgg0
  z0 := Tryz.sizeOf0
  v0 := Tryz.zeroValue0
  t3 := Tryz.underlying3
  a3 := Tryz.isAgg3
  z3 := Tryz.sizeOf3
  v3 := Tryz.zeroValue3
  t4 := Tryz.underlying4
  a4 := Tryz.isAgg4
  z4 := Tryz.sizeOf4
  v4 := Tryz.zeroValue4
  t5 := Tryz.underlying5
  a5 := Tryz.isAgg5
  z5 := Tryz.sizeOf5
  v5 := Tryz.zeroValue5
  t9 := Tryz.underlying9
  a9 := Tryz.isAgg9
  z9 := Tryz.sizeOf9
  v9 := Tryz.zeroValue9
  t20 := Tryz.underlying20
  a20 := Tryz.isAgg20
  z20 := Tryz.sizeOf20
  v20 := Tryz.zeroValue20
  t37 := Tryz.underlying56
  a37 := Tryz.isAgg56
  z37 := Tryz.sizeOf56
  v37 := Tryz.zeroValue56
  t46 := Tryz.underlying204
  a46 := Tryz.isAgg204
  z46 := Tryz.sizeOf204
  v46 := Tryz.zeroValue204
  t51 := Tryz.underlying97
  a51 := Tryz.isAgg97
  z51 := Tryz.sizeOf97
  v51 := Tryz.zeroValue97
  t53 := Tryz.underlying114
  a53 := Tryz.isAgg114
  z53 := Tryz.sizeOf114
  v53 := Tryz.zeroValue114
  t70 := Tryz.underlying166
  a70 := Tryz.isAgg166
  z70 := Tryz.sizeOf166
  v70 := Tryz.zeroValue166
  t72 := Tryz.underlying168
  a72 := Tryz.isAgg168
  z72 := Tryz.sizeOf168
  v72 := Tryz.zeroValue168
  t75 := Tryz.underlying175
  a75 := Tryz.isAgg175
  z75 := Tryz.sizeOf175
  v75 := Tryz.zeroValue175
  t76 := Tryz.underlying176
  a76 := Tryz.isAgg176
  z76 := Tryz.sizeOf176
  v76 := Tryz.zeroValue176
  t109 := Tryz.underlying254
  a109 := Tryz.isAgg254
  z109 := Tryz.sizeOf254
  v109 := Tryz.zeroValue254
  t127 := Tryz.underlying246
  a127 := Tryz.isAgg246
  z127 := Tryz.sizeOf246
  v127 := Tryz.zeroValue246
  t146 := Tryz.underlying296
  a146 := Tryz.isAgg296
  z146 := Tryz.sizeOf296
  v146 := Tryz.zeroValue296
  t148 := Tryz.underlying298
  a148 := Tryz.isAgg298
  z148 := Tryz.sizeOf298
  v148 := Tryz.zeroValue298
  t164 := Tryz.underlying289
  a164 := Tryz.isAgg289
  z164 := Tryz.sizeOf289
  v164 := Tryz.zeroValue289 }
theorem Tryz.Builder_Extra_105 : Builder.Extra Tryz.prog Tryz.lays105_ren := {
  sizeBuilder := by kernel_rfl
  liesBuilder := by kernel_rfl
  t5 := Tryz.underlying5
  a5 := Tryz.isAgg5
  z5 := Tryz.sizeOf5
  v5 := Tryz.zeroValue5
  infoByte := by kernel_rfl
  cellsByte := by kernel_rfl
  sizeByte := by kernel_rfl
  neB5 := by decide }
end Go.Proofs

namespace Gx
open Go Go.Proofs Go.RowKit
noncomputable section
variable {R:Type} (N:Nat)
def Mj (_N:Nat) (s t:List UInt8) (r0:List UInt8→List UInt8→Bool→O R):O R:=cond (Nat.ble s.length 4294967280) (r0 (Lib.cut s t).1 (Lib.cut s t).2.1 (Lib.cut s t).2.2) none
def strings_Cut:=(Ag (@Mj R)).1
theorem K4:@strings_Cut R=@Mj R:=(Ag _).2
def K5 (a:LA) (h:Ah) (k:KF R):O R :=
 match a,h with
 | [.str s,.str t],[]=>strings_Cut N s t fun x y b=>k (.tup [.str x,.str y,.bool b]) []
 | _,_=>none
def E_:Tw:=⟨fun {R} a h k=>@K5 R N a h k,fun {R} a h k=>by
 unfold K5
 split
 ·rw[K4,K4];unfold Mj;cases Nat.ble _ 4294967280<;>rfl
 ·rfl⟩
def Hm (_N:Nat) (s:List UInt8) (c:Int) (r0:List UInt8→O R):O R:=cond (decide (0≤c)&&(decide (c≤9223372036854775807)&&decide (((s.length:Nat):Int)*c≤140737488355328))) (r0 (Lib.repeatL s c.toNat)) none
def strings_Repeat:=(Ag (@Hm R)).1
theorem G1:@strings_Repeat R=@Hm R:=(Ag _).2
def G2 (a:LA) (h:Ah) (k:KF R):O R :=
 match a,h with
 | [.str s,.int .i64 c],[]=>strings_Repeat N s c fun x=>k (.str x) []
 | _,_=>none
def H9:Tw:=⟨fun {R} a h k=>@G2 R N a h k,fun {R} a h k=>by
 unfold G2
 split
 ·rename_i s c
  rw[G1,G1];unfold Hm;cases (decide (0≤c)&&(decide (c≤9223372036854775807)&&decide (((s.length:Nat):Int)*c≤140737488355328)))<;>rfl
 ·rfl⟩
def Km (_N:Nat) (n:Int) (r0:List UInt8→O R):O R:=cond (decide (-9223372036854775808≤n)&&decide (n≤9223372036854775807)) (r0 (Lib.itoa n)) none
def strconv_Itoa:=(Ag (@Km R)).1
theorem Jp:@strconv_Itoa R=@Km R:=(Ag _).2
def Jq (a:LA) (h:Ah) (k:KF R):O R :=
 match a,h with
 | [.int .i64 n],[]=>strconv_Itoa N n fun x=>k (.str x) []
 | _,_=>none
def BO:Tw:=⟨fun {R} a h k=>@Jq R N a h k,fun {R} a h k=>by
 unfold Jq
 split
 ·rename_i n
  rw[Jp,Jp];unfold Km;cases (decide (-9223372036854775808≤n)&&decide (n≤9223372036854775807))<;>rfl
 ·rfl⟩
def Kn (_N:Nat) (s:List UInt8) (r0:Int→O R):O R:=cond (Nat.ble s.length 9223372036854775806) (match Lib.atoiAll s with | .ok v=>r0 v | _=>none) none
def Qr:=(Ag (@Kn R)).1
theorem Jr:@Qr R=@Kn R:=(Ag _).2
def Js (a:LA) (h:Ah) (k:KF R):O R :=
 match a,h with
 | [.str s],[]=>Qr N s fun x=>k (.tup [.int .i64 x,.undef]) []
 | _,_=>none
def BP:Tw:=⟨fun {R} a h k=>@Js R N a h k,fun {R} a h k=>by
 unfold Js
 split
 ·rw[Jr,Jr];unfold Kn;cases Nat.ble _ 9223372036854775806
  ·rfl
  ·cases Lib.atoiAll _<;>rfl
 ·rfl⟩
end
theorem uI (w:World) (n:Nat):Below w.heap.size w (w.drewN n):=⟨rfl,rfl,rfl,Nat.le_refl _,fun _ _=>rfl⟩
theorem iV (N:Nat):tm Tryz.prog 105 (E_ N):=by
 intro b h d h' f
 have c:K5 N b h (fun v h'=>some (v,h'))=some (d,h'):=f
 unfold K5 at c
 split at c
 ·rename_i s t
  rw[K4,Mj] at c
  obtain⟨l,i⟩:=uc c
  simp at l i
  obtain⟨rfl,rfl⟩:=i
  refine JQ fun J β w vs G q=>?_
  obtain⟨u,v,rfl,j,k⟩:=uD q
  simp only[Rep] at j k;subst j k
  obtain⟨m,x⟩:=G.int (g:=0) (by decide)
  refine(Any.strings_Cut Tryz.lays145 ⟨⟨s⟩⟩ ⟨⟨t⟩⟩ m w (show s.length<4294967281 by omega) x).mono ?_
  rintro e w' ⟨rfl,n,rfl⟩
  refine⟨_,rfl,uI w n,fun J β w=>?_⟩
  rw[Rep]
  exact⟨_,rfl,by simp[Reps,Rep]⟩
 ·cases c
theorem Mk (N:Nat):tm Tryz.prog 124 (H9 N):=by
 intro b h f h' i
 have d:G2 N b h (fun v h'=>some (v,h'))=some (f,h'):=i
 unfold G2 at d
 split at d
 ·rename_i s c
  rw[G1,Hm] at d
  obtain⟨j,l⟩:=uc d
  simp only[Bool.and_eq_true,decide_eq_true_eq] at j
  simp at l
  obtain⟨rfl,rfl⟩:=l
  refine JQ fun J β w vs G t=>?_
  obtain⟨u,v,rfl,m,q⟩:=uD t
  simp only[Rep] at m q;subst m q
  obtain⟨n,rfl⟩:∃ n:Nat,c=n:=⟨c.toNat,by omega⟩
  by_cases x:s.length=0
  ·have y:s=[]:=List.eq_nil_of_length_eq_zero x
   subst y
   have z:n≤9223372036854775807:=by have:=j.2.1;omega
   ·refine(Any.strings_Repeat Tryz.lays105 Tryz.Builder_Extra_105 ⟨⟨[]⟩⟩ n w z (by show 0*n≤_;omega)).mono ?_
    rintro e w' ⟨rfl,k⟩
    exact⟨_,rfl,k,fun J β w=>by rw[Rep];rfl⟩
  ·have A:s.length*n≤140737488355328:=by have:=j.2.2;rw[←Int.natCast_mul] at this;omega
   have B:n≤s.length*n:=Nat.le_mul_of_pos_left n (by omega)
   refine(Any.strings_Repeat Tryz.lays105 Tryz.Builder_Extra_105 ⟨⟨s⟩⟩ n w (by omega) A).mono ?_
   rintro e w' ⟨rfl,k⟩
   exact⟨_,rfl,k,fun J β w=>by rw[Rep];rfl⟩
 ·cases d
theorem fN (N:Nat):tm Tryz.prog 114 (BO N):=by
 intro b h d h' f
 have c:Jq N b h (fun v h'=>some (v,h'))=some (d,h'):=f
 unfold Jq at c
 split at c
 ·rename_i n
  rw[Jp,Km] at c
  obtain⟨j,l⟩:=uc c
  simp only[Bool.and_eq_true,decide_eq_true_eq] at j
  simp at l
  obtain⟨rfl,rfl⟩:=l
  refine JQ fun J β w vs G q=>?_
  obtain⟨u,rfl,m⟩:=iL q
  rw[Rep] at m;subst m
  refine(Any.strconv_Itoa Tryz.laysM171 n j.1 j.2 w (G.tab (g:=3) (by simp[zC,Lib.pow10Tab]) (by kernel_rfl))).mono ?_
  rintro e w' ⟨rfl,k,os,rfl⟩
  refine⟨_,rfl,⟨rfl,rfl,rfl,by simp[Go.Sort.grow],fun i s=>?_⟩,fun J β w=>by rw[Rep]⟩
  show(w.heap++os)[i]?=_
  rw[Array.getElem?_append_left s]
 ·cases c
theorem strconv_Atoi_ok (N:Nat):tm Tryz.prog 147 (BP N):=by
 intro b h f h' i
 have c:Js N b h (fun v h'=>some (v,h'))=some (f,h'):=i
 unfold Js at c
 split at c
 ·rename_i s
  rw[Jr,Kn] at c
  obtain⟨j,d⟩:=uc c
  simp at j
  split at d
  ·rename_i v l
   simp at d
   obtain⟨rfl,rfl⟩:=d
   refine JQ fun J β w vs G m=>?_
   obtain⟨u,rfl,k⟩:=iL m
   rw[Rep] at k;subst k
   refine(Any.strconv_Atoi_ok Tryz.laysC172 ⟨⟨s⟩⟩ j v l w).mono ?_
   rintro e w' ⟨rfl,n⟩
   refine⟨_,rfl,?_,fun J β w=>by rw[Rep];exact⟨_,rfl,by rw[Reps];exact⟨_,_,rfl,by rw[Rep],by rw[Reps];exact⟨_,_,rfl,by rw[Rep];trivial,by rw[Reps]⟩⟩⟩⟩
   rcases n with rfl | ⟨t,rfl⟩
   ·exact Below.refl _ _
   ·exact Lib.bytesWorld_below _ _ _
  ·cases d
 ·cases c
end Gx

namespace Gx
open Go Go.Proofs
open IntKind (wrap)
set_option maxRecDepth 100000
noncomputable section
variable {R:Type} (N:Nat)
def Zm (N:Nat) (r0:Nat→O R) (b:Nat) (c:LA) (k0:Int→O R) (d:Int):O R :=
 (cond ((decide (d>0))==true) (cond (Aj (wrap .i64 (d - 1)) b) (Bw .u32 (c.drop (0+(((wrap .i64 (d - 1)).toNat)*1))) fun e=>(cond (cond true (e==0) false) (k0 (wrap .i64 (d - 1))) (cond ((decide ((0:Int)≤(0:Int)))&&((decide (0≤d))&&((decide (d≤((b:Nat):Int)))&&(decide (((b:Nat):Int)≤((b:Nat):Int)))))) (r0 (d.toNat)) none))) none) (cond ((decide ((0:Int)≤(0:Int)))&&((decide (0≤d))&&((decide (d≤((b:Nat):Int)))&&(decide (((b:Nat):Int)≤((b:Nat):Int)))))) (r0 (d.toNat)) none))
def Ny (r0:Nat→O R) (b:Nat) (c:LA):Nat→Int→O R
 | 0,_=>none
 | n+1,d=>(Zm N r0 b c (Ny r0 b c n) d)
def TD (N:Nat) (r0:Nat→O R) (q0:Int→O R) (b:Nat) (c:LA):O R :=
 (q0 ((b:Nat):Int))
def Nz:=(Ag (fun (N b:Nat) (c:LA) (r0:Nat→O R)=>(TD N r0 (fun d=>(Ny N r0 b c N d)) b c))).1
theorem QK (b c r0):(@Nz R N b c r0)=(TD N r0 (fun d=>(Ny N r0 b c N d)) b c):=by rw[Nz,(Ag _).2]
def Aad (F:KF R):=Ov Tryz.f214 cU [] [100000] N F
def Rh (c:LA) (F:KF R):Nat→O R:=(fun f=>F (.own 100000 0 f) [(100000,(bQ 1 c))])
def Aae (b:Nat) (c:LA) (d:Int):St:=⟨[(0,(.own 100000 0 b)),(3,(iv d))],[(100000,(bQ 1 c))]⟩
def Aaf (F:KF R):=Aad N F [1,1,0,0] []
theorem TE (F:KF R) (b:Nat) (c:LA):∀ (n:Nat) (d:Int),Au (Aaf N F) n (Aae b c d)=(Ny N (Rh c F) b c n d)
 | 0,_=>by kernel_rfl
 | n+1,d=>Eq.trans (by kernel_rfl) (Da (Zm N (Rh c F) b c · d) (funext fun d=>(TE F b c n d)):_)
theorem JU (b:Nat) (c:LA) (F:KF R):Cd [] cU N 214 [(.own 100000 0 b)] [(100000,(bQ 1 c))] F=(Nz N b c (Rh c F)):=by
 rw[QK]
 exact Eq.trans (by kernel_rfl) (Da (TD N (Rh c F) · b c) (funext fun d=>(Ap ..).trans (TE N F b c N d)):_)
def iW (a:LA) (h:Ah) (k:KF R):O R :=
 match a,h with
 | [(.own 100000 0 b)],[(100000,⟨false,false,true,false,1,c,false,none⟩)]=>(Nz N b c (Rh c k))
 | _,_=>none
theorem oT:An N 214 @iW:=by
 intro R Q a h k j;unfold iW;split;exact As (JU ..) (JU ..) trivial;exact Av
def aA:=At (oT N)
def aB:=Cg (oT N)
def Sb (b:Int) (r0:Nat→LA→O R):O R :=
 (Nz N 2 [(.int .u32 (wrap .u32 b)),(.int .u32 (wrap .u32 (Int.fdiv b (2 ^ 32))))] (fun c=>(r0 c [(.int .u32 (wrap .u32 b)),(.int .u32 (wrap .u32 (Int.fdiv b (2 ^ 32))))])))
def Bc:=(Ag (@Sb R)).1
theorem Uk:@Bc R=@Sb R:=(Ag _).2
def fO:D8:=[(214,aA N)]
def Xi (F:KF R):Nat→LA→O R:=(fun d e=>F (.own 300000 0 d) (hq [(bQ 1 e)]))
theorem Xj (b:Int) (F:KF R):Cd (fO N) Adt N 133 [(.int .u64 b)] [] F=(Bc N b (Xi F)):=by
 rw[Uk]
 kernel_rfl
def Ul (a:LA) (h:Ah) (k:KF R):O R :=
 match a,h with
 | [(.int .u64 b)],[]=>(Bc N b (Xi k))
 | _,_=>none
theorem Xk:An N 133 @Ul:=by
 intro R Q a h k j;unfold Ul;split;exact As (Xj ..) (Xj ..) ⟨aB N,trivial⟩;exact Av
def Et:=At (Xk N)
def Eu:=Cg (Xk N)
def QL (N:Nat) (d:Bool) (b:Nat) (c:LA) (r0:Bool→O R):O R :=
 (cond (d==true) (r0 (cond true (decide (((b:Nat):Int)>0)) false)) (r0 false))
def Ct:=(Ag (@QL R)).1
theorem LJ:@Ct R=@QL R:=(Ag _).2
def TF (b:Nat) (c:LA) (F:KF R):Bool→O R:=(fun e=>F (.agg [(.bool e),(.own 100000 0 b)]) [(100000,(bQ 1 c))])
theorem TG (d:Bool) (b:Nat) (c:LA) (F:KF R):Cd [] C1 N 132 [(.bool d),(.own 100000 0 b)] [(100000,(bQ 1 c))] F=(Ct N d b c (TF b c F)):=by
 rw[LJ]
 kernel_rfl
def LK (a:LA) (h:Ah) (k:KF R):O R :=
 match a,h with
 | [(.bool d),(.own 100000 0 b)],[(100000,⟨false,false,true,false,1,c,false,none⟩)]=>(Ct N d b c (TF b c k))
 | _,_=>none
theorem TH:An N 132 @LK:=by
 intro R Q a h k j;unfold LK;split;exact As (TG ..) (TG ..) trivial;exact Av
def G3:=At (TH N)
def G4:=Cg (TH N)
def E' (b:Int) (r0:Bool→Nat→LA→O R):O R :=
 (cond (decide (b<0)) (Bc N (wrap .u64 ((0:Int) - (wrap .u64 b))) (fun c d=>(Ct N true c d (fun g=>(r0 g c d))))) (Bc N (wrap .u64 b) (fun e f=>(Ct N false e f (fun i=>(r0 i e f))))))
def B3:=(Ag (@E' R)).1
theorem FA:@B3 R=@E' R:=(Ag _).2
def qv:D8:=[(133,Et N),(132,G3 N)]
def LL (F:KF R):Bool→Nat→LA→O R:=(fun l m n=>F (.agg [(.bool l),(.own 300000 0 m)]) (hq [(bQ 1 n)]))
theorem LM (b:Int) (F:KF R):Cd (qv N) C1 N 64 [(iv b)] [] F=(B3 N b (LL F)):=by
 rw[FA]
 kernel_rfl
def FB (a:LA) (h:Ah) (k:KF R):O R :=
 match a,h with
 | [(.int .i64 b)],[]=>(B3 N b (LL k))
 | _,_=>none
theorem LN:An N 64 @FB:=by
 intro R Q a h k j;unfold FB;split;exact As (LM ..) (LM ..) ⟨Eu N,G4 N,trivial⟩;exact Av
def Hy:=At (LN N)
def Hz:=Cg (LN N)
def Ow (N:Nat) (r0:LA→Nat→O R) (e:LA) (b:Nat) (f c:Bool) (k0:Int→O R) (d:Int):O R :=
 (cond ((decide (d>0))==true) (cond (Aj (wrap .i64 (d - 1)) b) (Bw .u32 (e.drop (((wrap .i64 (d - 1)).toNat)*1)) fun g=>(cond (cond true (g==0) false) (k0 (wrap .i64 (d - 1))) (cond ((decide ((0:Int)≤(0:Int)))&&((decide (0≤d))&&((decide (d≤((b:Nat):Int)))&&(decide (((b:Nat):Int)≤((b:Nat):Int)))))) (r0 (e.take ((d.toNat)*1)) (d.toNat)) none))) none) (cond ((decide ((0:Int)≤(0:Int)))&&((decide (0≤d))&&((decide (d≤((b:Nat):Int)))&&(decide (((b:Nat):Int)≤((b:Nat):Int)))))) (r0 (e.take ((d.toNat)*1)) (d.toNat)) none))
def G5 (r0:LA→Nat→O R) (e:LA) (b:Nat) (f c:Bool):Nat→Int→O R
 | 0,_=>none
 | n+1,d=>(Ow N r0 e b f c (G5 r0 e b f c n) d)
def Zn (N:Nat) (r0:LA→Nat→O R) (q0:Int→O R) (e:LA) (b:Nat) (f c:Bool):O R :=
 (q0 ((b:Nat):Int))
def Bk:=(Ag (fun (N:Nat) (e:LA) (b:Nat) (f c:Bool) (r0:LA→Nat→O R)=>(Zn N r0 (fun d=>(G5 N r0 e b f c N d)) e b f c))).1
theorem LO (e b f c r0):(@Bk R N e b f c r0)=(Zn N r0 (fun d=>(G5 N r0 e b f c N d)) e b f c):=by rw[Bk,(Ag _).2]
def qw (F:KF R):=Ov Tryz.f214 cU [] [] N F
def G6 (c:Bool) (F:KF R):LA→Nat→O R:=(fun i l=>F (.imm i l 1 false c) [])
def qy (e:LA) (b:Nat) (f c:Bool) (d:Int):St:=⟨[(0,(.imm e b 1 f c)),(3,(iv d))],[]⟩
def qz (F:KF R):=qw N F [1,1,0,0] []
theorem BQ (F:KF R) (e:LA) (b:Nat) (f c:Bool):∀ (n:Nat) (d:Int),Au (qz N F) n (qy e b f c d)=(G5 N (G6 c F) e b f c n d)
 | 0,_=>by kernel_rfl
 | n+1,d=>Eq.trans (by kernel_rfl) (Da (Ow N (G6 c F) e b f c · d) (funext fun d=>(BQ F e b f c n d)):_)
theorem Jt (e:LA) (b:Nat) (f c:Bool) (F:KF R):Cd [] cU N 214 [(.imm e b 1 f c)] [] F=(Bk N e b f c (G6 c F)):=by
 rw[LO]
 exact Eq.trans (by kernel_rfl) (Da (Zn N (G6 c F) · e b f c) (funext fun d=>(Ap ..).trans (BQ N F e b f c N d)):_)
def LP (a:LA) (h:Ah) (k:KF R):O R :=
 match a,h with
 | [(.imm e b 1 f c)],[]=>(Bk N e b f c (G6 c k))
 | _,_=>none
theorem TI:An N 214 @LP:=by
 intro R Q a h k j;unfold LP;split;exact As (Jt ..) (Jt ..) trivial;exact Av
def Ml:=At (TI N)
def Mm:=Cg (TI N)
def Zo (N:Nat) (k1:Nat→Int→Int→LA→O R) (r0:Nat→LA→O R) (f:LA) (b:Nat) (e:Bool) (l:Nat) (g r:Int) (i:LA) (d:Nat) (c:Bool) (m:Int) (k2:Int→Int→Int→LA→O R) (s t o:Int) (q:LA):O R :=
 (cond (decide (o<t)) (cond (Aj o b) (Bw .u32 (f.drop ((o.toNat)*1)) fun aa=>(cond (Aj (wrap .i64 (g+o)) l) (Bw .u32 (q.drop (0+(((wrap .i64 (g+o)).toNat)*1))) fun ab=>(cond (Aj (wrap .i64 (g+o)) l) (cond ((Nat.beq 1 1)&&((Nat.ble ((0+(((wrap .i64 (g+o)).toNat)*1))+1) (q.length))&&(!false))) (k2 (Int.fdiv (wrap .u64 (s+(wrap .u64 ((wrap .u64 ((wrap .u64 r)*(wrap .u64 aa)))+(wrap .u64 ab))))) (2 ^ 32)) t (wrap .i64 (o+1)) (q.set (0+(((wrap .i64 (g+o)).toNat)*1)) (.int .u32 (wrap .u32 (wrap .u64 (s+(wrap .u64 ((wrap .u64 ((wrap .u64 r)*(wrap .u64 aa)))+(wrap .u64 ab))))))))) none) none)) none)) none) (cond (Aj (wrap .i64 (g+((b:Nat):Int))) l) (cond ((Nat.beq 1 1)&&((Nat.ble ((0+(((wrap .i64 (g+((b:Nat):Int))).toNat)*1))+1) (q.length))&&(!false))) (k1 l m (wrap .i64 (g+1)) (q.set (0+(((wrap .i64 (g+((b:Nat):Int))).toNat)*1)) (.int .u32 (wrap .u32 s)))) none) none))
def N0 (k1:Nat→Int→Int→LA→O R) (r0:Nat→LA→O R) (f:LA) (b:Nat) (e:Bool) (l:Nat) (g r:Int) (i:LA) (d:Nat) (c:Bool) (m:Int):Nat→Int→Int→Int→LA→O R
 | 0,_,_,_,_=>none
 | n+1,s,t,o,q=>(Zo N k1 r0 f b e l g r i d c m (N0 k1 r0 f b e l g r i d c m n) s t o q)
def Sc (r0:Nat→LA→O R) (f:LA) (b:Nat) (e:Bool) (i:LA) (d:Nat) (c:Bool) (k1:Nat→Int→Int→LA→O R) (q2:Int→Int→Int→Int→LA→O R) (l:Nat) (m g:Int) (p:LA):O R :=
 (cond (decide (g<m)) (cond (Aj g d) (Bw .u32 (i.drop ((g.toNat)*1)) fun r=>(cond (r==0) (k1 l m (wrap .i64 (g+1)) p) (q2 r 0 ((b:Nat):Int) 0 p))) none) (Nz N l p (fun ad=>(r0 ad p))))
def Ju (r0:Nat→LA→O R) (f:LA) (b:Nat) (e:Bool) (i:LA) (d:Nat) (c:Bool):Nat→Nat→Int→Int→LA→O R
 | 0,_,_,_,_=>none
 | n+1,l,m,g,p=>(Sc N r0 f b e i d c (Ju r0 f b e i d c n) (fun r s t o q=>(N0 N (Ju r0 f b e i d c n) r0 f b e l g r i d c m N s t o q)) l m g p)
def QM (N:Nat) (r0:Nat→LA→O R) (i:LA) (d:Nat) (c:Bool) (f:LA) (b:Nat) (e:Bool) (q1:Nat→Int→Int→LA→O R):O R :=
 (cond ((decide (0≤(wrap .i64 (((d:Nat):Int)+((b:Nat):Int)))))&&((decide ((wrap .i64 (((d:Nat):Int)+((b:Nat):Int)))≤(wrap .i64 (((d:Nat):Int)+((b:Nat):Int)))))&&((decide ((wrap .i64 (((d:Nat):Int)+((b:Nat):Int)))≤140737488355328))&&(decide (((wrap .i64 (((d:Nat):Int)+((b:Nat):Int)))*((4:Nat):Int))≤140737488355328))))) (q1 ((wrap .i64 (((d:Nat):Int)+((b:Nat):Int))).toNat) ((d:Nat):Int) 0 (List.replicate ((wrap .i64 (((d:Nat):Int)+((b:Nat):Int))).toNat) (.int .u32 0))) none)
def JV (r0:Nat→LA→O R) (i:LA) (d:Nat) (c:Bool) (f:LA) (b:Nat) (e:Bool):O R:=(QM N r0 i d c f b e (fun l m g p=>(Ju N r0 f b e i d c N l m g p)))
def JW (r0:Nat→LA→O R) (q0:LA→Nat→LA→Nat→O R) (v:LA) (u:Nat) (w c:Bool) (x:LA) (y:Nat) (z e:Bool):O R :=
 (Bk N v u w c (fun i d=>(Bk N x y z e (fun f b=>(cond ((((d:Nat):Int)==0)==false) (cond (cond false true (((b:Nat):Int)==0)) (r0 0 []) (q0 i d f b)) (r0 0 []))))))
def Zp:=(Ag (fun (N:Nat) (v:LA) (u:Nat) (w c:Bool) (x:LA) (y:Nat) (z e:Bool) (r0:Nat→LA→O R)=>(JW N r0 (fun i d f b=>(JV N r0 i d c f b e)) v u w c x y z e))).1
theorem Zq (v u w c x y z e r0):(@Zp R N v u w c x y z e r0)=(JW N r0 (fun i d f b=>(JV N r0 i d c f b e)) v u w c x y z e):=by rw[Zp,(Ag _).2]
def oU:Hints:={ H:=(hS hL (hS hL (hJ [0,1] hL (hS hL (hS (hS hL (hS (hP [1,5,29,30,31] (hS hL (hS hL (hS (hS (hS hL (hS hL (hS hL (hS (hS hL (hS (hP [1,5,6,7,8,29,30,31,38,39,40] hL) hL)) hL)))) hL) hL)))) hL)) hL))))),nils:=[(4,1)],modes:=[(2,1)] }
def Ko (a:LA) (h:Ah) (k:KF R):O R :=
 match a,h with
 | [(.imm v u 1 w c)],[]=>(Bk N v u w c (G6 c k))
 | [(.own 100000 0 u)],[(100000,⟨false,false,true,false,1,ac,false,none⟩)]=>(Nz N u ac (Rh ac k))
 | _,_=>none
theorem Lr:An N 214 @Ko:=by
 intro R Q a h k j;unfold Ko;split;exact As (Jt ..) (Jt ..) trivial;exact As (JU ..) (JU ..) trivial;exact Av
def Dt:=At (Lr N)
def Du:=Cg (Lr N)
def uJ:D8:=[(214,Dt N)]
def aC (F:KF R):=Ov Tryz.f137 oU (uJ N) [] N F
def H0 (F:KF R):Nat→LA→O R:=(fun ae af=>F (.own 300000 0 ae) (hq [(bQ 1 af)]))
def Aag (f:LA) (b:Nat) (e:Bool) (l:Nat) (g r:Int) (i:LA) (d:Nat) (c:Bool) (m s t o:Int) (q:LA):St:=⟨[(1,(.imm f b 1 false e)),(5,(.own 300000 0 l)),(6,(iv g)),(7,(.int .u32 r)),(8,(.int .u64 s)),(29,(.imm i d 1 false c)),(30,(iv m)),(31,(iv g)),(38,(.imm f b 1 false e)),(39,(iv t)),(40,(iv o))],(hq [(bQ 1 q)])⟩
def Aah (F:KF R) (Q1:St→O R):=aC N F [1,1,1,1,0,1,0,0,1,1,0,0,1,1,1,0,1,0] [Q1]
def aD (f:LA) (b:Nat) (e:Bool) (i:LA) (d:Nat) (c:Bool) (l:Nat) (m g:Int) (p:LA):St:=⟨[(1,(.imm f b 1 false e)),(5,(.own 300000 0 l)),(29,(.imm i d 1 false c)),(30,(iv m)),(31,(iv g))],(hq [(bQ 1 p)])⟩
def oV (F:KF R):=aC N F [1,1,1,1,0,1,0] []
def Aai (i:LA) (d:Nat) (c:Bool) (f:LA) (b:Nat) (e:Bool):St:=⟨[(0,(.imm i d 1 false c)),(1,(.imm f b 1 false e))],[]⟩
def Aaj (F:KF R):=aC N F [1,1,1] []
theorem TJ (Q1:St→O R) (F:KF R) (f:LA) (b:Nat) (e:Bool) (l:Nat) (g r:Int) (i:LA) (d:Nat) (c:Bool) (m:Int):∀ (n:Nat) (s t o:Int) (q:LA),Au (Aah N F Q1) n (Aag f b e l g r i d c m s t o q)=(N0 N (fun l m g p=>Q1 (aD f b e i d c l m g p)) (H0 F) f b e l g r i d c m n s t o q)
 | 0,_,_,_,_=>by kernel_rfl
 | n+1,s,t,o,q=>Eq.trans (by kernel_rfl) (Da (Zo N (fun l m g p=>Q1 (aD f b e i d c l m g p)) (H0 F) f b e l g r i d c m · s t o q) (funext fun s=>funext fun t=>funext fun o=>funext fun q=>(TJ Q1 F f b e l g r i d c m n s t o q)):_)
theorem TK (F:KF R) (f:LA) (b:Nat) (e:Bool) (i:LA) (d:Nat) (c:Bool):∀ (n l:Nat) (m g:Int) (p:LA),Au (oV N F) n (aD f b e i d c l m g p)=(Ju N (H0 F) f b e i d c n l m g p)
 | 0,_,_,_,_=>by kernel_rfl
 | n+1,l,m,g,p=>have e0:=(funext fun l=>funext fun m=>funext fun g=>funext fun p=>(TK F f b e i d c n l m g p))
  Eq.trans (by kernel_rfl) (uB (Sc N (H0 F) f b e i d c · · l m g p) e0 (funext fun r=>funext fun s=>funext fun t=>funext fun o=>funext fun q=>(Ap ..).trans ((TJ N (Au (oV N F) n) F f b e l g r i d c m N s t o q).trans (Da (N0 N · (H0 F) f b e l g r i d c m N s t o q) e0))):_)
theorem rA (F:KF R) (i:LA) (d:Nat) (c:Bool) (f:LA) (b:Nat) (e:Bool):Cm (Aaj N F) (Aai i d c f b e)=(JV N (H0 F) i d c f b e):=by
 exact Eq.trans (by kernel_rfl) (Da (QM N (H0 F) i d c f b e ·) (funext fun l=>funext fun m=>funext fun g=>funext fun p=>(Ap ..).trans (TK N F f b e i d c N l m g p)):_)
theorem oW (v:LA) (u:Nat) (w c:Bool) (x:LA) (y:Nat) (z e:Bool) (F:KF R):Cd (uJ N) oU N 137 [(.imm v u 1 w c),(.imm x y 1 z e)] [] F=(Zp N v u w c x y z e (H0 F)):=by
 rw[Zq]
 exact Eq.trans (by kernel_rfl) (Da (JW N (H0 F) · v u w c x y z e) (funext fun i=>funext fun d=>funext fun f=>funext fun b=>(A2 ..).trans (rA N F i d c f b e)):_)
def iX (a:LA) (h:Ah) (k:KF R):O R :=
 match a,h with
 | [(.imm v u 1 w c),(.imm x y 1 z e)],[]=>(Zp N v u w c x y z e (H0 k))
 | _,_=>none
theorem oX:An N 137 @iX:=by
 intro R Q a h k j;unfold iX;split;exact As (oW ..) (oW ..) ⟨Du N,trivial⟩;exact Av
def aE:=At (oX N)
def aF:=Cg (oX N)
def rB (b:LA) (d:Bool) (c:LA) (e:Bool) (r0:Bool→Nat→LA→O R):O R :=
 (Pa b fun i=>(Pa c fun l=>(Kk 1 (b.drop 1) fun m n=>(Kk 1 (c.drop 1) fun o p=>(Zp N m n false d o p false e (fun f g=>(Ct N (!(i==l)) f g (fun q=>(r0 q f g)))))))))
def Wb:=(Ag (@rB R)).1
theorem iY:@Wb R=@rB R:=(Ag _).2
def Ad2:D8:=[(137,aE N),(132,G3 N)]
def oY (F:KF R):Bool→Nat→LA→O R:=(fun r s t=>F (.agg [(.bool r),(.own 300000 0 s)]) (hq [(bQ 1 t)]))
theorem oZ (b:LA) (d:Bool) (c:LA) (e:Bool) (F:KF R):Cd (Ad2 N) C1 N 68 [(.pagg b d),(.pagg c e)] [] F=(Wb N b d c e (oY F)):=by
 rw[iY]
 kernel_rfl
def iZ (a:LA) (h:Ah) (k:KF R):O R :=
 match a,h with
 | [(.pagg b d),(.pagg c e)],[]=>(Wb N b d c e (oY k))
 | _,_=>none
theorem o0:An N 68 @iZ:=by
 intro R Q a h k j;unfold iZ;split;exact As (oZ ..) (oZ ..) ⟨aF N,G4 N,trivial⟩;exact Av
def aG:=At (o0 N)
def aH:=Cg (o0 N)
def i6 (d:LA) (e:Nat) (f c:Bool) (r0:Nat→LA→O R):O R :=
 (Bk N d e f c (fun g b=>(cond ((decide (0≤((b:Nat):Int)))&&((decide (((b:Nat):Int)≤((b:Nat):Int)))&&((decide (((b:Nat):Int)≤140737488355328))&&(decide ((((b:Nat):Int)*((4:Nat):Int))≤140737488355328))))) (cond ((!c)||(Cw g)) (r0 b (Gf (List.replicate b (.int .u32 0)) 0 (g.take ((min b b)*1)))) none) none)))
def Mn:=(Ag (@i6 R)).1
theorem cW:@Mn R=@i6 R:=(Ag _).2
def Aak:D8:=[(214,Ml N)]
def i7 (F:KF R):Nat→LA→O R:=(fun i l=>F (.own 300000 0 i) (hq [(bQ 1 l)]))
theorem i8 (d:LA) (e:Nat) (f c:Bool) (F:KF R):Cd (Aak N) Adt N 212 [(.imm d e 1 f c)] [] F=(Mn N d e f c (i7 F)):=by
 rw[cW]
 kernel_rfl
def cX (a:LA) (h:Ah) (k:KF R):O R :=
 match a,h with
 | [(.imm d e 1 f c)],[]=>(Mn N d e f c (i7 k))
 | _,_=>none
theorem i_:An N 212 @cX:=by
 intro R Q a h k j;unfold cX;split;exact As (i8 ..) (i8 ..) ⟨Mm N,trivial⟩;exact Av
def N1:=At (i_ N)
def N2:=Cg (i_ N)
def rC (b:LA) (c:Bool) (r0:Bool→Nat→LA→O R):O R :=
 (Pa b fun f=>(Kk 1 (b.drop 1) fun g i=>(Mn N g i false c (fun d e=>(Ct N (!f) d e (fun l=>(r0 l d e)))))))
def ia:=(Ag (@rC R)).1
theorem ib:@ia R=@rC R:=(Ag _).2
def Ad3:D8:=[(212,N1 N),(132,G3 N)]
def o4 (F:KF R):Bool→Nat→LA→O R:=(fun m n o=>F (.agg [(.bool m),(.own 300000 0 n)]) (hq [(bQ 1 o)]))
theorem o5 (b:LA) (c:Bool) (F:KF R):Cd (Ad3 N) C1 N 148 [(.pagg b c)] [] F=(ia N b c (o4 F)):=by
 rw[ib]
 kernel_rfl
def ic (a:LA) (h:Ah) (k:KF R):O R :=
 match a,h with
 | [(.pagg b c)],[]=>(ia N b c (o4 k))
 | _,_=>none
theorem o6:An N 148 @ic:=by
 intro R Q a h k j;unfold ic;split;exact As (o5 ..) (o5 ..) ⟨N2 N,G4 N,trivial⟩;exact Av
def Aal:=At (o6 N)
def Aam:=Cg (o6 N)
def Sd (r0:Nat→LA→O R) (c:LA) (b:Nat) (e:Bool) (f:LA) (d:Nat) (i:Bool) (k1:Nat→Int→Int→Int→LA→O R) (m:Nat) (o p g:Int) (l:LA):O R :=
 (cond (decide (g<p)) (cond (Aj g b) (Bw .u32 (c.drop ((g.toNat)*1)) fun y=>(cond (decide (g<((d:Nat):Int))) (cond (Aj g d) (Bw .u32 (f.drop ((g.toNat)*1)) fun ab=>(cond (Aj g m) (cond ((Nat.beq 1 1)&&((Nat.ble ((0+((g.toNat)*1))+1) (l.length))&&(!false))) (k1 m (Int.fdiv (wrap .u64 ((wrap .u64 (o+(wrap .u64 y)))+(wrap .u64 ab))) (2 ^ 32)) p (wrap .i64 (g+1)) (l.set (0+((g.toNat)*1)) (.int .u32 (wrap .u32 (wrap .u64 ((wrap .u64 (o+(wrap .u64 y)))+(wrap .u64 ab))))))) none) none)) none) (cond (Aj g m) (cond ((Nat.beq 1 1)&&((Nat.ble ((0+((g.toNat)*1))+1) (l.length))&&(!false))) (k1 m (Int.fdiv (wrap .u64 (o+(wrap .u64 y))) (2 ^ 32)) p (wrap .i64 (g+1)) (l.set (0+((g.toNat)*1)) (.int .u32 (wrap .u32 (wrap .u64 (o+(wrap .u64 y))))))) none) none))) none) (cond (Aj ((b:Nat):Int) m) (cond ((Nat.beq 1 1)&&((Nat.ble ((0+(b*1))+1) (l.length))&&(!false))) (Nz N m (l.set (0+(b*1)) (.int .u32 (wrap .u32 o))) (fun ae=>(r0 ae (l.set (0+(b*1)) (.int .u32 (wrap .u32 o)))))) none) none))
def N3 (r0:Nat→LA→O R) (c:LA) (b:Nat) (e:Bool) (f:LA) (d:Nat) (i:Bool):Nat→Nat→Int→Int→Int→LA→O R
 | 0,_,_,_,_,_=>none
 | n+1,m,o,p,g,l=>(Sd N r0 c b e f d i (N3 r0 c b e f d i n) m o p g l)
def QN (N:Nat) (r0:Nat→LA→O R) (q1:Nat→Int→Int→Int→LA→O R) (c:LA) (b:Nat) (e:Bool) (f:LA) (d:Nat) (i:Bool):O R :=
 (cond ((decide (0≤(wrap .i64 (((b:Nat):Int)+1))))&&((decide ((wrap .i64 (((b:Nat):Int)+1))≤(wrap .i64 (((b:Nat):Int)+1))))&&((decide ((wrap .i64 (((b:Nat):Int)+1))≤140737488355328))&&(decide (((wrap .i64 (((b:Nat):Int)+1))*((4:Nat):Int))≤140737488355328))))) (q1 ((wrap .i64 (((b:Nat):Int)+1)).toNat) 0 ((b:Nat):Int) 0 (List.replicate ((wrap .i64 (((b:Nat):Int)+1)).toNat) (.int .u32 0))) none)
def Xl (r0:Nat→LA→O R) (c:LA) (b:Nat) (e:Bool) (f:LA) (d:Nat) (i:Bool):O R:=(QN N r0 (fun m o p g l=>(N3 N r0 c b e f d i N m o p g l)) c b e f d i)
def TL (r0:Nat→LA→O R) (q0:LA→Nat→Bool→LA→Nat→Bool→O R) (s:LA) (t:Nat) (u q:Bool) (v:LA) (w:Nat) (x r:Bool):O R :=
 (Bk N s t u q (fun ac z=>(Bk N v w x r (fun ad aa=>(cond (decide (((z:Nat):Int)<((aa:Nat):Int))) (q0 ad aa r ac z q) (q0 ac z q ad aa r))))))
def QO:=(Ag (fun (N:Nat) (s:LA) (t:Nat) (u q:Bool) (v:LA) (w:Nat) (x r:Bool) (r0:Nat→LA→O R)=>(TL N r0 (fun c b e f d i=>(Xl N r0 c b e f d i)) s t u q v w x r))).1
theorem QP (s t u q v w x r r0):(@QO R N s t u q v w x r r0)=(TL N r0 (fun c b e f d i=>(Xl N r0 c b e f d i)) s t u q v w x r):=by rw[QO,(Ag _).2]
def o7:Hints:={ H:=(hS hL (hS hL (hJ [0,1] hL (hS hL (hS hL (hS (hS hL (hS (hP [0,1,5,6,24,25,26] hL) hL)) hL)))))),nils:=[(4,1)],modes:=[(2,1)] }
def uK:D8:=[(214,Dt N)]
def o8 (F:KF R):=Ov Tryz.f135 o7 (uK N) [] N F
def N4 (F:KF R):Nat→LA→O R:=(fun af ag=>F (.own 300000 0 af) (hq [(bQ 1 ag)]))
def Aan (c:LA) (b:Nat) (e:Bool) (f:LA) (d:Nat) (i:Bool) (m:Nat) (o p g:Int) (l:LA):St:=⟨[(0,(.imm c b 1 false e)),(1,(.imm f d 1 false i)),(5,(.own 300000 0 m)),(6,(.int .u64 o)),(24,(.imm c b 1 false e)),(25,(iv p)),(26,(iv g))],(hq [(bQ 1 l)])⟩
def Aao (F:KF R):=o8 N F [1,1,1,1,1,0,1,0] []
def Aap (c:LA) (b:Nat) (e:Bool) (f:LA) (d:Nat) (i:Bool):St:=⟨[(0,(.imm c b 1 false e)),(1,(.imm f d 1 false i))],[]⟩
def Aaq (F:KF R):=o8 N F [1,1,1] []
theorem TM (F:KF R) (c:LA) (b:Nat) (e:Bool) (f:LA) (d:Nat) (i:Bool):∀ (n m:Nat) (o p g:Int) (l:LA),Au (Aao N F) n (Aan c b e f d i m o p g l)=(N3 N (N4 F) c b e f d i n m o p g l)
 | 0,_,_,_,_,_=>by kernel_rfl
 | n+1,m,o,p,g,l=>Eq.trans (by kernel_rfl) (Da (Sd N (N4 F) c b e f d i · m o p g l) (funext fun m=>funext fun o=>funext fun p=>funext fun g=>funext fun l=>(TM F c b e f d i n m o p g l)):_)
theorem rD (F:KF R):∀ (c:LA) (b:Nat) (e:Bool) (f:LA) (d:Nat) (i:Bool),Cm (Aaq N F) (Aap c b e f d i)=(Xl N (N4 F) c b e f d i):=by
 intro c b e f d i
 exact Eq.trans (by kernel_rfl) (Da (QN N (N4 F) · c b e f d i) (funext fun m=>funext fun o=>funext fun p=>funext fun g=>funext fun l=>(Ap ..).trans (TM N F c b e f d i N m o p g l)):_)
theorem o_ (s:LA) (t:Nat) (u q:Bool) (v:LA) (w:Nat) (x r:Bool) (F:KF R):Cd (uK N) o7 N 135 [(.imm s t 1 u q),(.imm v w 1 x r)] [] F=(QO N s t u q v w x r (N4 F)):=by
 rw[QP]
 exact Eq.trans (by kernel_rfl) (Da (TL N (N4 F) · s t u q v w x r) (funext fun c=>funext fun b=>funext fun e=>funext fun f=>funext fun d=>funext fun i=>(A2 ..).trans (rD N F c b e f d i)):_)
def ig (a:LA) (h:Ah) (k:KF R):O R :=
 match a,h with
 | [(.imm s t 1 u q),(.imm v w 1 x r)],[]=>(QO N s t u q v w x r (N4 k))
 | _,_=>none
theorem oa:An N 135 @ig:=by
 intro R Q a h k j;unfold ig;split;exact As (o_ ..) (o_ ..) ⟨Du N,trivial⟩;exact Av
def oc:=At (oa N)
def od:=Cg (oa N)
def Ia (N:Nat) (r0:Int→O R) (g:LA) (e:Nat) (c:Bool) (i:LA) (f:Nat) (d:Bool) (k0:Int→O R) (b:Int):O R :=
 (cond (decide (b≥0)) (cond (Aj b e) (Bw .u32 (g.drop ((b.toNat)*1)) fun s=>(cond (Aj b f) (Bw .u32 (i.drop ((b.toNat)*1)) fun t=>(cond (decide (s<t)) (r0 (-1)) (cond (Aj b e) (Bw .u32 (g.drop ((b.toNat)*1)) fun u=>(cond (Aj b f) (Bw .u32 (i.drop ((b.toNat)*1)) fun v=>(cond (decide (u>v)) (r0 1) (k0 (wrap .i64 (b - 1))))) none)) none))) none)) none) (r0 0))
def Df (r0:Int→O R) (g:LA) (e:Nat) (c:Bool) (i:LA) (f:Nat) (d:Bool):Nat→Int→O R
 | 0,_=>none
 | n+1,b=>(Ia N r0 g e c i f d (Df r0 g e c i f d n) b)
def Mo (r0:Int→O R) (q0:LA→Nat→LA→Nat→Int→O R) (l:LA) (m:Nat) (o c:Bool) (p:LA) (q:Nat) (r d:Bool):O R :=
 (Bk N l m o c (fun g e=>(Bk N p q r d (fun i f=>(cond (((e:Nat):Int) != ((f:Nat):Int)) (cond (decide (((e:Nat):Int)<((f:Nat):Int))) (r0 (-1)) (r0 1)) (q0 g e i f (wrap .i64 (((e:Nat):Int) - 1))))))))
def Cy:=(Ag (fun (N:Nat) (l:LA) (m:Nat) (o c:Bool) (p:LA) (q:Nat) (r d:Bool) (r0:Int→O R)=>(Mo N r0 (fun g e i f b=>(Df N r0 g e c i f d N b)) l m o c p q r d))).1
theorem Um (l m o c p q r d r0):(@Cy R N l m o c p q r d r0)=(Mo N r0 (fun g e i f b=>(Df N r0 g e c i f d N b)) l m o c p q r d):=by rw[Cy,(Ag _).2]
def BR:D8:=[(214,Ml N)]
def aI (F:KF R):=Ov Tryz.f131 oP (BR N) [] N F
def Gg (F:KF R):Int→O R:=(fun w=>F (iv w) [])
def aJ (g:LA) (e:Nat) (c:Bool) (i:LA) (f:Nat) (d:Bool) (b:Int):St:=⟨[(0,(.imm g e 1 false c)),(1,(.imm i f 1 false d)),(5,(iv b))],[]⟩
def aK (F:KF R):=aI N F [1,1,1,0,1,0] []
theorem P8 (F:KF R) (g:LA) (e:Nat) (c:Bool) (i:LA) (f:Nat) (d:Bool):∀ (n:Nat) (b:Int),Au (aK N F) n (aJ g e c i f d b)=(Df N (Gg F) g e c i f d n b)
 | 0,_=>by kernel_rfl
 | n+1,b=>Eq.trans (by kernel_rfl) (Da (Ia N (Gg F) g e c i f d · b) (funext fun b=>(P8 F g e c i f d n b)):_)
theorem Xm (l:LA) (m:Nat) (o c:Bool) (p:LA) (q:Nat) (r d:Bool) (F:KF R):Cd (BR N) oP N 131 [(.imm l m 1 o c),(.imm p q 1 r d)] [] F=(Cy N l m o c p q r d (Gg F)):=by
 rw[Um]
 exact Eq.trans (by kernel_rfl) (Da (Mo N (Gg F) · l m o c p q r d) (funext fun g=>funext fun e=>funext fun i=>funext fun f=>funext fun b=>(Ap ..).trans (P8 N F g e c i f d N b)):_)
def Uo (a:LA) (h:Ah) (k:KF R):O R :=
 match a,h with
 | [(.imm l m 1 o c),(.imm p q 1 r d)],[]=>(Cy N l m o c p q r d (Gg k))
 | _,_=>none
theorem Xn:An N 131 @Uo:=by
 intro R Q a h k j;unfold Uo;split;exact As (Xm ..) (Xm ..) ⟨Mm N,trivial⟩;exact Av
def Jv:=At (Xn N)
def Jw:=Cg (Xn N)
def Se (r0:Nat→Bool→LA→O R) (l:LA) (g:Nat) (d:Bool) (b:Nat) (m:LA) (e:Bool) (k0:Int→Int→Int→LA→O R) (i o c:Int) (f:LA):O R :=
 (cond (decide (c<o)) (cond (Aj c b) (Bw .u32 (m.drop ((c.toNat)*1)) fun v=>(cond (decide (c<((g:Nat):Int))) (cond (Aj c g) (Bw .u32 (l.drop ((c.toNat)*1)) fun w=>(cond (Aj c b) (cond ((Nat.beq 1 1)&&((Nat.ble ((0+((c.toNat)*1))+1) (f.length))&&(!false))) (k0 (Int.fdiv (wrap .u64 ((wrap .u64 ((wrap .u64 v) - i)) - (wrap .u64 w))) (2 ^ 63)) o (wrap .i64 (c+1)) (f.set (0+((c.toNat)*1)) (.int .u32 (wrap .u32 (wrap .u64 ((wrap .u64 ((wrap .u64 v) - i)) - (wrap .u64 w))))))) none) none)) none) (cond (Aj c b) (cond ((Nat.beq 1 1)&&((Nat.ble ((0+((c.toNat)*1))+1) (f.length))&&(!false))) (k0 (Int.fdiv (wrap .u64 ((wrap .u64 v) - i)) (2 ^ 63)) o (wrap .i64 (c+1)) (f.set (0+((c.toNat)*1)) (.int .u32 (wrap .u32 (wrap .u64 ((wrap .u64 v) - i)))))) none) none))) none) (Nz N b f (fun x=>(r0 x true f))))
def Ls (r0:Nat→Bool→LA→O R) (l:LA) (g:Nat) (d:Bool) (b:Nat) (m:LA) (e:Bool):Nat→Int→Int→Int→LA→O R
 | 0,_,_,_,_=>none
 | n+1,i,o,c,f=>(Se N r0 l g d b m e (Ls r0 l g d b m e n) i o c f)
def TN (r0:Nat→Bool→LA→O R) (q0:LA→Nat→Nat→LA→Int→Int→Int→LA→O R) (p:LA) (q:Nat) (r e:Bool) (s:LA) (t:Nat) (u d:Bool):O R :=
 (Bk N p q r e (fun m b=>(Bk N s t u d (fun l g=>(Cy N m b false e l g false d (fun y=>(cond (decide (y<0)) (r0 0 false []) (cond ((decide (0≤((b:Nat):Int)))&&((decide (((b:Nat):Int)≤((b:Nat):Int)))&&((decide (((b:Nat):Int)≤140737488355328))&&(decide ((((b:Nat):Int)*((4:Nat):Int))≤140737488355328))))) (q0 l g b m 0 ((b:Nat):Int) 0 (List.replicate b (.int .u32 0))) none))))))))
def Wc:=(Ag (fun (N:Nat) (p:LA) (q:Nat) (r e:Bool) (s:LA) (t:Nat) (u d:Bool) (r0:Nat→Bool→LA→O R)=>(TN N r0 (fun l g b m i o c f=>(Ls N r0 l g d b m e N i o c f)) p q r e s t u d))).1
theorem QQ (p q r e s t u d r0):(@Wc R N p q r e s t u d r0)=(TN N r0 (fun l g b m i o c f=>(Ls N r0 l g d b m e N i o c f)) p q r e s t u d):=by rw[Wc,(Ag _).2]
def oe:Hints:={ H:=(hS hL (hS hL (hS hL (hS hL (hS hL (hS (hS hL (hS (hP [1,6,7,22,23,24] hL) hL)) hL)))))),nils:=[(4,1)],modes:=[(2,1),(0,0)] }
def uL:D8:=[(214,Dt N),(131,Jv N)]
def Aar (F:KF R):=Ov Tryz.f136 oe (uL N) [] N F
def Xo (F:KF R):Nat→Bool→LA→O R:=(fun z aa ab=>F (.tup [(.own 300000 0 z),(.bool aa)]) (hq [(bQ 1 ab)]))
def Aas (l:LA) (g:Nat) (d:Bool) (b:Nat) (m:LA) (e:Bool) (i o c:Int) (f:LA):St:=⟨[(1,(.imm l g 1 false d)),(6,(.own 300000 0 b)),(7,(.int .u64 i)),(22,(.imm m b 1 false e)),(23,(iv o)),(24,(iv c))],(hq [(bQ 1 f)])⟩
def Aat (F:KF R):=Aar N F [1,1,1,1,1,0,1,0] []
theorem TO (F:KF R) (l:LA) (g:Nat) (d:Bool) (b:Nat) (m:LA) (e:Bool):∀ (n:Nat) (i o c:Int) (f:LA),Au (Aat N F) n (Aas l g d b m e i o c f)=(Ls N (Xo F) l g d b m e n i o c f)
 | 0,_,_,_,_=>by kernel_rfl
 | n+1,i,o,c,f=>Eq.trans (by kernel_rfl) (Da (Se N (Xo F) l g d b m e · i o c f) (funext fun i=>funext fun o=>funext fun c=>funext fun f=>(TO F l g d b m e n i o c f)):_)
theorem og (p:LA) (q:Nat) (r e:Bool) (s:LA) (t:Nat) (u d:Bool) (F:KF R):Cd (uL N) oe N 136 [(.imm p q 1 r e),(.imm s t 1 u d)] [] F=(Wc N p q r e s t u d (Xo F)):=by
 rw[QQ]
 exact Eq.trans (by kernel_rfl) (Da (TN N (Xo F) · p q r e s t u d) (funext fun l=>funext fun g=>funext fun b=>funext fun m=>funext fun i=>funext fun o=>funext fun c=>funext fun f=>(Ap ..).trans (TO N F l g d b m e N i o c f)):_)
def ii (a:LA) (h:Ah) (k:KF R):O R :=
 match a,h with
 | [(.imm p q 1 r e),(.imm s t 1 u d)],[]=>(Wc N p q r e s t u d (Xo k))
 | _,_=>none
theorem oh:An N 136 @ii:=by
 intro R Q a h k j;unfold ii;split;exact As (og ..) (og ..) ⟨Du N,Jw N,trivial⟩;exact Av
def aL:=At (oh N)
def aM:=Cg (oh N)
def TP (b:LA) (d:Bool) (c:LA) (e:Bool) (r0:Bool→Nat→LA→O R):O R :=
 (Pa b fun o=>(Pa c fun p=>(cond (o==p) (Pa b fun q=>(Kk 1 (b.drop 1) fun r s=>(Kk 1 (c.drop 1) fun t u=>(QO N r s false d t u false e (fun f g=>(Ct N q f g (fun v=>(r0 v f g)))))))) (Kk 1 (b.drop 1) fun w x=>(Kk 1 (c.drop 1) fun y z=>(Wc N w x false d y z false e (fun i aa l=>(cond aa (Pa b fun ab=>(Ct N ab i l (fun ac=>(r0 ac i l)))) (Kk 1 (c.drop 1) fun ad ae=>(Kk 1 (b.drop 1) fun af ag=>(Wc N ad ae false e af ag false d (fun m am n=>(Pa c fun ah=>(Ct N ah m n (fun ai=>(r0 ai m n))))))))))))))))
def ij:=(Ag (@TP R)).1
theorem Zr:@ij R=@TP R:=(Ag _).2
def Ad4:D8:=[(135,oc N),(132,G3 N),(136,aL N)]
def oi (F:KF R):Bool→Nat→LA→O R:=(fun aj ak al=>F (.agg [(.bool aj),(.own 300000 0 ak)]) (hq [(bQ 1 al)]))
theorem oq (b:LA) (d:Bool) (c:LA) (e:Bool) (F:KF R):Cd (Ad4 N) C1 N 144 [(.pagg b d),(.pagg c e)] [] F=(ij N b d c e (oi F)):=by
 rw[Zr]
 kernel_rfl
def ik (a:LA) (h:Ah) (k:KF R):O R :=
 match a,h with
 | [(.pagg b d),(.pagg c e)],[]=>(ij N b d c e (oi k))
 | _,_=>none
theorem ot:An N 144 @ik:=by
 intro R Q a h k j;unfold ik;split;exact As (oq ..) (oq ..) ⟨od N,G4 N,aM N,trivial⟩;exact Av
def Aau:=At (ot N)
def Aav:=Cg (ot N)
def LQ (N:Nat) (r0:LA→O R) (k0:O R):O R :=
 (r0 [])
def Mp (r0:LA→O R):Nat→O R
 | 0=>none
 | n+1=>(LQ N r0 (Mp r0 n))
def Zs (N:Nat) (r0:LA→O R) (q0:O R):O R :=
 q0
def Ri:=(Ag (fun (N:Nat) (r0:LA→O R)=>(Zs N r0 (Mp N r0 N)))).1
theorem LR (r0):(@Ri R N r0)=(Zs N r0 (Mp N r0 N)):=by rw[Ri,(Ag _).2]
def rE (F:KF R):=Ov Tryz.f214 cU [] [] N F
def Mq (F:KF R):LA→O R:=(fun b=>F (.own 300000 0 0) (hq [(bQ 1 b)]))
def rF:St:=⟨[(0,.nsl),(3,(iv 0))],[]⟩
def rG (F:KF R):=rE N F [1,1,0,0] []
theorem BS (F:KF R):∀ (n:Nat) ,Au (rG N F) n rF=(Mp N (Mq F) n)
 | 0=>by kernel_rfl
 | n+1=>Eq.trans (by kernel_rfl) (Da (LQ N (Mq F) ·) (BS F n):_)
theorem TQ (F:KF R):Cd [] cU N 214 [.nsl] [] F=(Ri N (Mq F)):=by
 rw[LR]
 exact Eq.trans (by kernel_rfl) (Da (Zs N (Mq F) ·) ((Ap ..).trans (BS N F N)):_)
def Sf (N:Nat) (r0:Int→O R) (e:LA) (d:Nat) (b:Bool) (f:LA) (k0:Int→O R) (c:Int):O R :=
 (cond (decide (c≥0)) (cond (Aj c d) (Bw .u32 (e.drop ((c.toNat)*1)) fun m=>(cond (Aj c 0) (Bw .u32 (f.drop (0+((c.toNat)*1))) fun o=>(cond (decide (m<o)) (r0 (-1)) (cond (Aj c d) (Bw .u32 (e.drop ((c.toNat)*1)) fun p=>(cond (Aj c 0) (Bw .u32 (f.drop (0+((c.toNat)*1))) fun q=>(cond (decide (p>q)) (r0 1) (k0 (wrap .i64 (c - 1))))) none)) none))) none)) none) (r0 0))
def Kp (r0:Int→O R) (e:LA) (d:Nat) (b:Bool) (f:LA):Nat→Int→O R
 | 0,_=>none
 | n+1,c=>(Sf N r0 e d b f (Kp r0 e d b f n) c)
def Up (r0:Int→O R) (q0:LA→Nat→LA→Int→O R) (g:LA) (i:Nat) (l b:Bool):O R :=
 (Bk N g i l b (fun e d=>(Ri N (fun f=>(cond (((d:Nat):Int) != 0) (cond (decide (((d:Nat):Int)<0)) (r0 (-1)) (r0 1)) (q0 e d f (wrap .i64 (((d:Nat):Int) - 1))))))))
def Le:=(Ag (fun (N:Nat) (g:LA) (i:Nat) (l b:Bool) (r0:Int→O R)=>(Up N r0 (fun e d f c=>(Kp N r0 e d b f N c)) g i l b))).1
theorem FC (g i l b r0):(@Le R N g i l b r0)=(Up N r0 (fun e d f c=>(Kp N r0 e d b f N c)) g i l b):=by rw[Le,(Ag _).2]
def Ib (a:LA) (h:Ah) (k:KF R):O R :=
 match a,h with
 | [(.imm g i 1 l b)],[]=>(Bk N g i l b (G6 b k))
 | [.nsl],[]=>(Ri N (Mq k))
 | _,_=>none
theorem Ir:An N 214 @Ib:=by
 intro R Q a h k j;unfold Ib;split;exact As (Jt ..) (Jt ..) trivial;exact As (TQ ..) (TQ ..) trivial;exact Av
def Sg:=At (Ir N)
def Sh:=Cg (Ir N)
def TR:D8:=[(214,Sg N)]
def md (F:KF R):=Ov Tryz.f131 oP (TR N) [] N F
def Kq (F:KF R):Int→O R:=(fun r=>F (iv r) [])
def mf (e:LA) (d:Nat) (b:Bool) (f:LA) (c:Int):St:=⟨[(0,(.imm e d 1 false b)),(1,(.own 300000 0 0)),(5,(iv c))],(hq [(bQ 1 f)])⟩
def mh (F:KF R):=md N F [1,1,1,0,1,0] []
theorem Xp (F:KF R) (e:LA) (d:Nat) (b:Bool) (f:LA):∀ (n:Nat) (c:Int),Au (mh N F) n (mf e d b f c)=(Kp N (Kq F) e d b f n c)
 | 0,_=>by kernel_rfl
 | n+1,c=>Eq.trans (by kernel_rfl) (Da (Sf N (Kq F) e d b f · c) (funext fun c=>(Xp F e d b f n c)):_)
theorem LT (g:LA) (i:Nat) (l b:Bool) (F:KF R):Cd (TR N) oP N 131 [(.imm g i 1 l b),.nsl] [] F=(Le N g i l b (Kq F)):=by
 rw[FC]
 exact Eq.trans (by kernel_rfl) (Da (Up N (Kq F) · g i l b) (funext fun e=>funext fun d=>funext fun f=>funext fun c=>(Ap ..).trans (Xp N F e d b f N c)):_)
def FD (a:LA) (h:Ah) (k:KF R):O R :=
 match a,h with
 | [(.imm g i 1 l b),.nsl],[]=>(Le N g i l b (Kq k))
 | _,_=>none
theorem LU:An N 131 @FD:=by
 intro R Q a h k j;unfold FD;split;exact As (LT ..) (LT ..) ⟨Sh N,trivial⟩;exact Av
def LV:=At (LU N)
def LW:=Cg (LU N)
def il (b:LA) (c:Bool) (r0:Int→O R):O R :=
 (Kk 1 (b.drop 1) fun d e=>(Le N d e false c (fun f=>(cond (f==0) (r0 0) (Pa b fun g=>(cond g (r0 (-1)) (r0 1)))))))
def Jx:=(Ag (@il R)).1
theorem cY:@Jx R=@il R:=(Ag _).2
def Aaw:D8:=[(131,LV N)]
def io (F:KF R):Int→O R:=(fun i=>F (iv i) [])
theorem ip (b:LA) (c:Bool) (F:KF R):Cd (Aaw N) C1 N 125 [(.pagg b c)] [] F=(Jx N b c (io F)):=by
 rw[cY]
 kernel_rfl
def cZ (a:LA) (h:Ah) (k:KF R):O R :=
 match a,h with
 | [(.pagg b c)],[]=>(Jx N b c (io k))
 | _,_=>none
theorem iq:An N 125 @cZ:=by
 intro R Q a h k j;unfold cZ;split;exact As (ip ..) (ip ..) ⟨LW N,trivial⟩;exact Av
def Si:=At (iq N)
def Sj:=Cg (iq N)
def Gp (N:Nat) (r0:Int→O R) (c:LA) (b:Nat) (d e:Bool) (k0:Int→Int→Int→O R) (g i f:Int):O R :=
 (cond (decide (f<i)) (cond (Aj f b) (Bw .u32 (c.drop ((f.toNat)*1)) fun l=>(cond (decide ((wrap .i64 (32*f))<0)) none (k0 (Lp .u64 g (wrap .u64 ((wrap .u64 l)*2 ^ (min ((wrap .i64 (32*f)).toNat) 64)))) i (wrap .i64 (f+1))))) none) (r0 g))
def Fy (r0:Int→O R) (c:LA) (b:Nat) (d e:Bool):Nat→Int→Int→Int→O R
 | 0,_,_,_=>none
 | n+1,g,i,f=>(Gp N r0 c b d e (Fy r0 c b d e n) g i f)
def TS (N:Nat) (r0:Int→O R) (q0:Int→Int→Int→O R) (c:LA) (b:Nat) (d e:Bool):O R :=
 (q0 0 ((b:Nat):Int) 0)
def K6:=(Ag (fun (N:Nat) (c:LA) (b:Nat) (d e:Bool) (r0:Int→O R)=>(TS N r0 (fun g i f=>(Fy N r0 c b d e N g i f)) c b d e))).1
theorem c_ (c b d e r0):(@K6 R N c b d e r0)=(TS N r0 (fun g i f=>(Fy N r0 c b d e N g i f)) c b d e):=by rw[K6,(Ag _).2]
def ir:Hints:={ H:=(hS hL (hS hL (hS (hS hL (hS (hP [3,6,7,8] hL) hL)) hL))) }
def xZ (F:KF R):=Ov Tryz.f215 ir [] [] N F
def Sk (F:KF R):Int→O R:=(fun m=>F (.int .u64 m) [])
def x9 (c:LA) (b:Nat) (d e:Bool) (g i f:Int):St:=⟨[(3,(.int .u64 g)),(6,(.imm c b 1 d e)),(7,(iv i)),(8,(iv f))],[]⟩
def x_ (F:KF R):=xZ N F [1,1,0,1,0] []
theorem LX (F:KF R) (c:LA) (b:Nat) (d e:Bool):∀ (n:Nat) (g i f:Int),Au (x_ N F) n (x9 c b d e g i f)=(Fy N (Sk F) c b d e n g i f)
 | 0,_,_,_=>by kernel_rfl
 | n+1,g,i,f=>Eq.trans (by kernel_rfl) (Da (Gp N (Sk F) c b d e · g i f) (funext fun g=>funext fun i=>funext fun f=>(LX F c b d e n g i f)):_)
theorem iu (c:LA) (b:Nat) (d e:Bool) (F:KF R):Cd [] ir N 215 [(.imm c b 1 d e)] [] F=(K6 N c b d e (Sk F)):=by
 rw[c_]
 exact Eq.trans (by kernel_rfl) (Da (TS N (Sk F) · c b d e) (funext fun g=>funext fun i=>funext fun f=>(Ap ..).trans (LX N F c b d e N g i f)):_)
def ca (a:LA) (h:Ah) (k:KF R):O R :=
 match a,h with
 | [(.imm c b 1 d e)],[]=>(K6 N c b d e (Sk k))
 | _,_=>none
theorem iw:An N 215 @ca:=by
 intro R Q a h k j;unfold ca;split;exact As (iu ..) (iu ..) trivial;exact Av
def QR:=At (iw N)
def QS:=Cg (iw N)
def QT (c:LA) (d:Nat) (e b:Bool) (r0:Int→Bool→O R):O R :=
 (Bk N c d e b (fun g f=>(cond (decide (((f:Nat):Int)>2)) (r0 0 false) (K6 N g f false b (fun i=>(r0 i true))))))
def N5:=(Ag (@QT R)).1
theorem LY:@N5 R=@QT R:=(Ag _).2
def uM:D8:=[(214,Ml N),(215,QR N)]
def TT (F:KF R):Int→Bool→O R:=(fun l m=>F (.tup [(.int .u64 l),(.bool m)]) [])
theorem TU (c:LA) (d:Nat) (e b:Bool) (F:KF R):Cd (uM N) C1 N 210 [(.imm c d 1 e b)] [] F=(N5 N c d e b (TT F)):=by
 rw[LY]
 kernel_rfl
def LZ (a:LA) (h:Ah) (k:KF R):O R :=
 match a,h with
 | [(.imm c d 1 e b)],[]=>(N5 N c d e b (TT k))
 | _,_=>none
theorem TV:An N 210 @LZ:=by
 intro R Q a h k j;unfold LZ;split;exact As (TU ..) (TU ..) ⟨Mm N,QS N,trivial⟩;exact Av
def TW:=At (TV N)
def TX:=Cg (TV N)
def Do (N:Nat) (r0:Int→Int→Bool→O R) (e d:Int) (c:Bool) (b:LA) (f:Bool):O R :=
 (cond f (r0 0 0 false) (cond (d==0) (r0 0 1 true) (Pa b fun g=>(cond g (r0 (wrap .i64 ((0:Int) - (wrap .i64 e))) (wrap .i64 d) true) (r0 (wrap .i64 e) (wrap .i64 d) true)))))
def Rj (r0:Int→Int→Bool→O R) (q0:Int→Int→Bool→O R) (b:LA) (c:Bool):O R :=
 (Kk 1 (b.drop 1) fun i l=>(N5 N i l false c (fun e m=>(Kk 1 (b.drop 2) fun n o=>(N5 N n o false c (fun d p=>(cond ((!m)==false) (cond ((cond false true (!p))==false) (cond ((cond false true (decide (e≥2147483648)))==false) (q0 e d (cond false true (decide (d≥2147483648)))) (q0 e d true)) (q0 e d true)) (q0 e d true))))))))
def Kr:=(Ag (fun (N:Nat) (b:LA) (c:Bool) (r0:Int→Int→Bool→O R)=>(Rj N r0 (fun e d f=>(Do N r0 e d c b f)) b c))).1
theorem Qs (b c r0):(@Kr R N b c r0)=(Rj N r0 (fun e d f=>(Do N r0 e d c b f)) b c):=by rw[Kr,(Ag _).2]
def cb:Hints:={ H:=(hS hL (hS hL (hS hL (hS (hS (hJ [1,5,6,21] hL hL) hL) hL)))) }
def ix:D8:=[(210,TW N)]
def uN (F:KF R):=Ov Tryz.f127 cb (ix N) [] N F
def Uq (F:KF R):Int→Int→Bool→O R:=(fun q r s=>F (.tup [(iv q),(iv r),(.bool s)]) [])
def uO (e d:Int) (c:Bool) (b:LA) (f:Bool):St:=⟨[(1,(op 0)),(5,(.int .u64 e)),(6,(.int .u64 d)),(21,(.bool f))],(hq [(bP c 0 b)])⟩
def uP (F:KF R):=uN N F [1,1,1,0,0,1] []
theorem iy (F:KF R) (e d:Int) (c:Bool) (b:LA):∀ (f:Bool),Cm (uP N F) (uO e d c b f)=(Do N (Uq F) e d c b f):=by
 intro f
 kernel_rfl
theorem cd (b:LA) (c:Bool) (F:KF R):Cd (ix N) cb N 127 [(.pagg b c)] [] F=(Kr N b c (Uq F)):=by
 rw[Qs]
 exact Eq.trans (by kernel_rfl) (Da (Rj N (Uq F) · b c) (funext fun e=>funext fun d=>funext fun f=>(A2 ..).trans (iy N F e d c b f)):_)
def TY (a:LA) (h:Ah) (k:KF R):O R :=
 match a,h with
 | [(.pagg b c)],[]=>(Kr N b c (Uq k))
 | _,_=>none
theorem ce:An N 127 @TY:=by
 intro R Q a h k j;unfold TY;split;exact As (cd ..) (cd ..) ⟨TX N,trivial⟩;exact Av
def ch:=At (ce N)
def ci:=Cg (ce N)
def Hn (r0:LA→O R) (b c d:Int) (k1:Int→Int→O R) (e f:Int):O R :=
 (cond (f != 0) (cond (f==0) none (k1 f (Int.tmod e f))) (cond (e==0) none (Bc N (wrap .u64 (Int.tdiv d e)) (fun g l=>(cond (e==0) none (Bc N (wrap .u64 (Int.tdiv (wrap .u64 c) e)) (fun i m=>(r0 [(.bool (decide (b<0))),(.imm (l.take (g*1)) g 1 false false),(.imm (m.take (i*1)) i 1 false false)]))))))))
def B4 (r0:LA→O R) (b c d:Int):Nat→Int→Int→O R
 | 0,_,_=>none
 | n+1,e,f=>(Hn N r0 b c d (B4 r0 b c d n) e f)
def Py (N:Nat) (r0:LA→O R) (b c:Int) (q1:Int→Int→O R) (d:Int):O R :=
 (q1 (wrap .u64 c) d)
def Mr (r0:LA→O R) (b c:Int) (d:Int):O R:=(Py N r0 b c (fun e f=>(B4 N r0 b c d N e f)) d)
def Qt (N:Nat) (r0:LA→O R) (q0:Int→O R) (b c:Int):O R :=
 (cond (decide (b<0)) (q0 (wrap .u64 ((0:Int) - (wrap .u64 b)))) (q0 (wrap .u64 b)))
def Gq:=(Ag (fun (N:Nat) (b c:Int) (r0:LA→O R)=>(Qt N r0 (fun d=>(Mr N r0 b c d)) b c))).1
theorem BT (b c r0):(@Gq R N b c r0)=(Qt N r0 (fun d=>(Mr N r0 b c d)) b c):=by rw[Gq,(Ag _).2]
def FE:Hints:={ H:=(hS hL (hS hL (hJ [0,1,4,5] hL (hS hL (hS (hS (hP [0,1,4,5,6,7] hL) hL) hL))))),modes:=[(3,0)] }
def L_:D8:=[(133,Et N)]
def FF (F:KF R):=Ov Tryz.f128 FE (L_ N) [] N F
def Ez (F:KF R):LA→O R:=(fun o=>F (.pagg o false) [])
def iz (b c d e f:Int):St:=⟨[(0,(iv b)),(1,(iv c)),(4,(op 0)),(5,(.int .u64 d)),(6,(.int .u64 e)),(7,(.int .u64 f))],(hq [(bN 0 [(.bool false),.nsl,.nsl])])⟩
def jA (F:KF R):=FF N F [1,1,1,1,0,0] []
def jB (b c d:Int):St:=⟨[(0,(iv b)),(1,(iv c)),(4,(op 0)),(5,(.int .u64 d))],(hq [(bN 0 [(.bool false),.nsl,.nsl])])⟩
def jC (F:KF R):=FF N F [1,1,1] []
theorem Ur (F:KF R) (b c d:Int):∀ (n:Nat) (e f:Int),Au (jA N F) n (iz b c d e f)=(B4 N (Ez F) b c d n e f)
 | 0,_,_=>by kernel_rfl
 | n+1,e,f=>Eq.trans (by kernel_rfl) (Da (Hn N (Ez F) b c d · e f) (funext fun e=>funext fun f=>(Ur F b c d n e f)):_)
theorem TZ (F:KF R) (b c:Int):∀ (d:Int),Cm (jC N F) (jB b c d)=(Mr N (Ez F) b c d):=by
 intro d
 exact Eq.trans (by kernel_rfl) (Da (Py N (Ez F) b c · d) (funext fun e=>funext fun f=>(Ap ..).trans (Ur N F b c d N e f)):_)
theorem FG (b c:Int) (F:KF R):Cd (L_ N) FE N 128 [(iv b),(iv c)] [] F=(Gq N b c (Ez F)):=by
 rw[BT]
 exact Eq.trans (by kernel_rfl) (Da (Qt N (Ez F) · b c) (funext fun d=>(A2 ..).trans (TZ N F b c d)):_)
def BU (a:LA) (h:Ah) (k:KF R):O R :=
 match a,h with
 | [(.int .i64 b),(.int .i64 c)],[]=>(Gq N b c (Ez k))
 | _,_=>none
theorem FH:An N 128 @BU:=by
 intro R Q a h k j;unfold BU;split;exact As (FG ..) (FG ..) ⟨Eu N,trivial⟩;exact Av
def FI:=At (FH N)
def FJ:=Cg (FH N)
def JX (b:LA) (c:Bool) (r0:LA→Bool→LA→Nat→Bool→O R):O R :=
 (Kk 1 (b.drop 2) fun d e=>(Le N d e false c (fun f=>(cond (f==0) (r0 [(.bool false),.nsl] false [(.int .u32 1)] 1 false) (cond (Nat.ble 2 (b.length)) (Kk 1 (b.drop 2) fun g i=>(cond ((Nat.beq 0 0)&&((Nat.beq ((b.take 2).length) 2)&&(Nat.beq 2 2))) (cond (Nat.ble 2 ((b.take 2).length)) (r0 ((b.take 2).take 2) c g i c) none) none)) none)))))
def Pc:=(Ag (@JX R)).1
theorem Zt:@Pc R=@JX R:=(Ag _).2
def uQ:Hints:={ H:=hL,nils:=[(3,1)],modes:=[(3,0),(1,1)] }
def xa:D8:=[(131,LV N)]
def cj (F:KF R):LA→Bool→LA→Nat→Bool→O R:=(fun l m n o p=>F (.tup [(.pagg l m),(.imm n o 1 false p)]) [])
theorem ck (b:LA) (c:Bool) (F:KF R):Cd (xa N) uQ N 130 [(.pagg b c)] [] F=(Pc N b c (cj F)):=by
 rw[Zt]
 kernel_rfl
def T_ (a:LA) (h:Ah) (k:KF R):O R :=
 match a,h with
 | [(.pagg b c)],[]=>(Pc N b c (cj k))
 | _,_=>none
theorem cp:An N 130 @T_:=by
 intro R Q a h k j;unfold T_;split;exact As (ck ..) (ck ..) ⟨LW N,trivial⟩;exact Av
def FK:=At (cp N)
def FL:=Cg (cp N)
def jD (b:LA) (c:Bool) (r0:Bool→Nat→LA→O R):O R :=
 (Pa b fun f=>(Kk 1 (b.drop 1) fun g i=>(Mn N g i false c (fun d e=>(Ct N f d e (fun l=>(r0 l d e)))))))
def T':=(Ag (@jD R)).1
theorem cr:@T' R=@jD R:=(Ag _).2
def Aax:D8:=[(212,N1 N),(132,G3 N)]
def jE (F:KF R):Bool→Nat→LA→O R:=(fun m n o=>F (.agg [(.bool m),(.own 300000 0 n)]) (hq [(bQ 1 o)]))
theorem jF (b:LA) (c:Bool) (F:KF R):Cd (Aax N) C1 N 211 [(.pagg b c)] [] F=(T' N b c (jE F)):=by
 rw[cr]
 kernel_rfl
def cu (a:LA) (h:Ah) (k:KF R):O R :=
 match a,h with
 | [(.pagg b c)],[]=>(T' N b c (jE k))
 | _,_=>none
theorem jG:An N 211 @cu:=by
 intro R Q a h k j;unfold cu;split;exact As (jF ..) (jF ..) ⟨N2 N,G4 N,trivial⟩;exact Av
def xb:=At (jG N)
def xc:=Cg (jG N)
end
end Gx

namespace Gx
open Go Go.Proofs
section
variable {R:Type}
def fit (k N:Nat):Prop:=100*k+1000≤N∧k≤1000000000
theorem fit.le {j k N:Nat} (h:fit k N) (b:j≤k):fit j N:=⟨by have:=h.1;omega,by have:=h.2;omega⟩
theorem ct (x y:O R):cond true x y=x:=rfl
theorem cf (x y:O R):cond false x y=y:=rfl
theorem Aay (x y:Bool):cond true x y=x:=rfl
theorem Ajp (x y:Bool):cond false x y=y:=rfl
theorem Ahf (c:Nat):((decide (((c+1:Nat):Int)>(0:Int)))==true)=true:=by simp
theorem T6 {j n:Nat} (h:j<n):decide ((j:Int)<(n:Int))=true:=by simp;omega
theorem BV {j n:Nat} (h:n≤j):decide ((j:Int)<(n:Int))=false:=by simp;omega
theorem wS {j:Nat} (h:j≤1000000000000):IntKind.wrap .i64 ((j:Int)+1)=((j+1:Nat):Int):=by rw[i64 (by omega)];omega
theorem wP {j:Nat} (h:j≤1000000000000):IntKind.wrap .i64 (((j+1:Nat):Int) - 1)=(j:Int):=by rw[i64 (by omega)];omega
theorem wA {j k:Nat} (h:j+k≤1000000000000):IntKind.wrap .i64 ((j:Int)+(k:Int))=((j+k:Nat):Int):=by rw[i64 (by omega)];omega
theorem ED {l:List Nat} {j:Nat} (h:j<l.length) {f:Int→O R}:Bw .u32 (List.drop ((Int.toNat (j:Int))*1) (Aa l)) f=f (l[j]:Nat):=by
 rw[Int.toNat_natCast,Nat.mul_one,uG h]
theorem UA {l:List Nat} {j:Nat} (h:j<l.length) {f:Int→O R}:Bw .u32 (List.drop (0+((Int.toNat (j:Int))*1)) (Aa l)) f=f (l[j]:Nat):=by
 rw[Nat.zero_add,ED h]
theorem Age {c a:Nat} (h:c≤a):((decide ((0:Int)≤(0:Int)))&&((decide ((0:Int)≤(c:Int)))&&((decide ((c:Int)≤(a:Int)))&&(decide ((a:Int)≤(a:Int))))))=true:=by
 simp;omega
theorem Acz {n:Nat} (h:n≤1000000000000):((decide ((0:Int)≤(n:Int)))&&((decide ((n:Int)≤(n:Int)))&&((decide ((n:Int)≤(140737488355328:Int)))&&(decide (((n:Int)*((4:Nat):Int))≤(140737488355328:Int))))))=true:=by
 simp;omega
theorem oG {x:Nat} {m:List Nat} (h:x<m.length):((Nat.beq 1 1)&&((Nat.ble ((0+((Int.toNat (x:Int))*1))+1) (List.length (Aa m)))&&(!false)))=true:=by
 rw[Bb,Int.toNat_natCast];simp;omega
theorem FM {x v:Nat} {m:List Nat}:List.set (Aa m) (0+((Int.toNat (x:Int))*1)) (.int .u32 (v:Int))=Aa (m.set x v):=by
 rw[Int.toNat_natCast,Nat.mul_one,Nat.zero_add,TB]
theorem uR {l:List Nat} (h:Ad l):l.take (Af (val l)).length=Af (val l):=by
 obtain⟨b,c⟩:=A3 h
 rw[congrArg (List.take (Af (val l)).length) b,List.take_left]
theorem H1 {l:List Nat} (h:Ad l):List.take ((Af (val l)).length*1) (Aa l)=Aa (Af (val l)):=by rw[Nat.mul_one,Nx,uR h]
theorem Aq {l:List Nat} {c:Nat} (h:c<l.length):val (l.take (c+1))=val (l.take c)+4294967296 ^ c*l[c]:=by
 rw[List.take_succ_eq_append_getElem h,xT,List.length_take,Nat.min_eq_left (by omega)]
theorem rH {l:List Nat} {c:Nat} (b:Ad l) (h:c<l.length) (d:l[c]≠0):Af (val (l.take (c+1)))=l.take (c+1):=by
 apply Ahd (Bo b _)
 intro e
 rw[List.getLast_eq_getElem]
 simp only[List.length_take,Nat.min_eq_left (show c+1≤l.length by omega),Nat.add_sub_cancel,List.getElem_take]
 exact d
theorem jH {N:Nat} {l:List Nat} {K:Nat→O R} (e:Ad l) (i:l.length≤1000000000000):∀ (c b:Nat),c≤l.length→c<b →
  Ny N K l.length (Aa l) b (c:Int)=K (Af (val (l.take c))).length
 | 0,b+1,f,_=>by
  rw[Ny];unfold Zm
  rw[show decide (((0:Nat):Int)>0)=false by simp]
  rw[show((false:Bool)==true)=false by rfl,cf,Age (by omega),ct,Int.toNat_natCast];rfl
 | c+1,b+1,f,j=>by
  rw[Ny];unfold Zm
  rw[Ahf,ct,wP (by omega),Al (by omega),ct,UA (by omega),Aay,Age (by omega),ct,jH e i c b (by omega) (by omega),Int.toNat_natCast]
  by_cases d:l[c]=0
  ·rw[Aq (by omega),d];simp
  ·rw[rH e (by omega) d,List.length_take,Nat.min_eq_left f]
   rw[show(((l[c]:Nat):Int)==0)=false by simp;exact d,cf]
theorem Xq {N:Nat} {l:List Nat} {n:Nat} {K:Nat→O R} (c:n=l.length) (d:Ad l) (b:fit l.length N):Nz N n (Aa l) K=K (Af (val l)).length:=by
 subst c
 have e:=b.1;have f:=b.2
 rw[QK];unfold TD
 dsimp only
 rw[jH d (by omega) l.length N (Nat.le_refl _) (by omega),List.take_length]
theorem ou {N:Nat} {l:List Nat} {t o:Bool} {K:LA→Nat→O R} (e:Ad l) (i:l.length≤1000000000000):∀ (c b:Nat),c≤l.length→c<b →
  G5 N K (Aa l) l.length t o b (c:Int)=K (Aa (Af (val (l.take c)))) (Af (val (l.take c))).length
 | 0,b+1,f,_=>by
  rw[G5];unfold Ow
  rw[show decide (((0:Nat):Int)>0)=false by simp]
  rw[show((false:Bool)==true)=false by rfl,cf,Age (by omega),ct,Int.toNat_natCast];rfl
 | c+1,b+1,f,j=>by
  rw[G5];unfold Ow
  rw[Ahf,ct,wP (by omega),Al (by omega),ct,ED (by omega),Aay,Age (by omega),ct,ou e i c b (by omega) (by omega),Int.toNat_natCast,Nat.mul_one,Nx]
  by_cases d:l[c]=0
  ·rw[Aq (by omega),d];simp
  ·rw[rH e (by omega) d,List.length_take,Nat.min_eq_left f]
   rw[show(((l[c]:Nat):Int)==0)=false by simp;exact d,cf]
theorem Bf {N:Nat} {l:List Nat} {n:Nat} {t o:Bool} {K:LA→Nat→O R} (c:n=l.length) (d:Ad l) (b:fit l.length N):Bk N (Aa l) n t o K=K (Aa (Af (val l))) (Af (val l)).length:=by
 subst c
 have e:=b.1;have f:=b.2
 rw[LO];unfold Zn
 dsimp only
 rw[ou d (by omega) l.length N (Nat.le_refl _) (by omega),List.take_length]
theorem Aaz {N:Nat} {K:LA→O R} (hN:1≤N):Ri N K=K []:=by
 rw[LR];unfold Zs
 cases N with
 | zero=>omega
 | succ N=>rw[Mp];rfl
end
end Gx

namespace Gx
open Go Go.Proofs
section
variable {R:Type}
def Fo (x y:Nat):Int:=if x<y then -1 else if y<x then 1 else 0
theorem Xr (x:Nat):Fo x x=0:=by unfold Fo;simp
theorem Zu {a b:Nat} (h:(Af a).length<(Af b).length):a<b:=Nat.lt_of_not_le fun c=>by
 have:=A4 c;omega
theorem gG {u w p q P:Nat} (b:u<P) (c:w<P) (h:p<q):u+P*p<w+P*q:=by
 have:P*(p+1)≤P*q:=Nat.mul_le_mul_left _ h
 rw[Nat.mul_add] at this
 omega
theorem ov {N:Nat} {x y:List Nat} {t u:Bool} {K:Int→O R} (e:Ad x) (f:Ad y) (k:x.length≤1000000000000) (l:x.length=y.length):∀ (i b:Nat),i≤x.length→i<b →
  Df N K (Aa x) x.length t (Aa y) y.length u b ((i:Int) - 1)=K (Fo (val (x.take i)) (val (y.take i)))
 | 0,b+1,_,_=>by
  rw[Df];unfold Ia
  rw[show decide ((((0:Nat):Int) - 1)≥0)=false by simp,cf]
  simp[Xr]
 | i+1,b+1,m,n=>by
  rw[Df];unfold Ia
  rw[show(((i+1:Nat):Int) - 1)=(i:Int) by omega,show decide ((i:Int)≥0)=true by simp,ct,Al (by omega),ct,ED (by omega),Al (by omega),ct,ED (by omega),ct,ED (by omega),ct,ED (by omega),i64 (by omega),
   ov e f k l i b (by omega) (by omega),Aq (by omega),Aq (by omega)]
  have c:=Be (Bo e i)
  have d:=Be (Bo f i)
  rw[List.length_take,Nat.min_eq_left (by omega)] at c d
  by_cases c1:x[i]<y[i]
  ·have:=gG c d c1
   rw[show decide (((x[i]:Nat):Int)<((y[i]:Nat):Int))=true by simp;exact c1,ct]
   unfold Fo;rw[if_pos this]
  ·by_cases j:y[i]<x[i]
   ·have:=gG d c j
    rw[show decide (((x[i]:Nat):Int)<((y[i]:Nat):Int))=false by simp;omega,cf,show decide (((x[i]:Nat):Int)>((y[i]:Nat):Int))=true by simp;exact j,ct]
    unfold Fo;rw[if_neg (by omega),if_pos this]
   ·have:x[i]=y[i]:=by omega
    rw[show decide (((x[i]:Nat):Int)<((y[i]:Nat):Int))=false by simp;omega,cf,show decide (((x[i]:Nat):Int)>((y[i]:Nat):Int))=false by simp;omega,cf,this]
    unfold Fo
    congr 1
    by_cases a1:val (x.take i)<val (y.take i)
    ·rw[if_pos a1,if_pos (by omega)]
    ·by_cases a2:val (y.take i)<val (x.take i)
     ·rw[if_neg a1,if_pos a2,if_neg (by omega),if_pos (by omega)]
     ·rw[if_neg a1,if_neg a2,if_neg (by omega),if_neg (by omega)]
theorem Rk {N:Nat} {a b:List Nat} {n m:Nat} {t o t' o':Bool} {K:Int→O R} (i:n=a.length) (j:m=b.length) (d:Ad a) (e:Ad b) (c:fit (a.length+b.length) N) :
  Cy N (Aa a) n t o (Aa b) m t' o' K=K (Fo (val a) (val b)):=by
 subst i j
 have l:=c.1;have q:=c.2
 rw[Um];unfold Mo
 dsimp only
 rw[Bf rfl d (c.le (by omega)),Bf rfl e (c.le (by omega))]
 have la:=(A3 d).2
 have lb:=(A3 e).2
 by_cases f:(Af (val a)).length=(Af (val b)).length
 ·rw[show((((Af (val a)).length:Nat):Int) != (((Af (val b)).length:Nat):Int))=false by simp;omega,cf,i64 (by omega),ov (Ab _) (Ab _) (by omega) f _ N (Nat.le_refl _) (by omega),List.take_length,f,List.take_length,Ac,Ac]
 ·rw[show((((Af (val a)).length:Nat):Int) != (((Af (val b)).length:Nat):Int))=true by simp;omega,ct]
  by_cases k:(Af (val a)).length<(Af (val b)).length
  ·have:=Zu k
   rw[show decide ((((Af (val a)).length:Nat):Int)<(((Af (val b)).length:Nat):Int))=true by simp;omega,ct]
   unfold Fo;rw[if_pos this]
  ·have:=Zu (show(Af (val b)).length<(Af (val a)).length by omega)
   rw[show decide ((((Af (val a)).length:Nat):Int)<(((Af (val b)).length:Nat):Int))=false by simp;omega,cf]
   unfold Fo;rw[if_neg (by omega),if_pos this]
theorem jI {N:Nat} {a:List Nat} {n:Nat} {t o:Bool} {K:Int→O R} (d:n=a.length) (e:Ad a) (b:fit a.length N):Le N (Aa a) n t o K=K (Fo (val a) 0):=by
 subst d
 have f:=b.1;have i:=b.2
 rw[FC];unfold Up
 dsimp only
 rw[Bf rfl e b,Aaz (by omega)]
 by_cases c:val a=0
 ·rw[c,Cc,Xr]
  cases N with
  | zero=>omega
  | succ N =>
   rw[Kp];unfold Sf
   rw[i64 (by simp)];simp
 ·have j:(Af (val a)).length≠0:=fun h=>c (A8.1 h)
  rw[show((((Af (val a)).length:Nat):Int) != (0:Int))=true by simp;exact fun h=>c (iP.1 h),ct]
  rw[show decide ((((Af (val a)).length:Nat):Int)<(0:Int))=false by simp,cf]
  unfold Fo;rw[if_neg (by omega),if_pos (by omega)]
end
end Gx

namespace Gx
open Go Go.Proofs
section
variable {R:Type}
theorem UB:∀ {S:List Nat} {d v:Nat} (h:d<S.length),val (S.set d v)+4294967296 ^ d*S[d]=val S+4294967296 ^ d*v
 | x::r,0,v,_=>by simp[val];omega
 | x::r,d+1,v,h=>by
  have c:=UB (S:=r) (d:=d) (v:=v) (by simpa using h)
  simp only[List.set_cons_succ,val,List.getElem_cons_succ,Nat.pow_succ]
  have b:∀ y,4294967296 ^ d*4294967296*y=4294967296*(4294967296 ^ d*y):=fun y=>by rw[Nat.mul_comm (4294967296 ^ d),Nat.mul_assoc]
  rw[b,b]
  omega
theorem Lt (b:List Nat) (d:Nat):val (b.take (d+1))=val (b.take d)+4294967296 ^ d*b.getD d 0:=by
 by_cases h:d<b.length
 ·rw[Aq h,List.getD_eq_getElem?_getD,List.getElem?_eq_getElem h];rfl
 ·rw[List.take_of_length_le (by omega),List.take_of_length_le (by omega),List.getD_eq_getElem?_getD,List.getElem?_eq_none (by omega)];simp
theorem Is (P s:Nat):P*(s%4294967296)+P*4294967296*(s/4294967296)=P*s:=by
 rw[Nat.mul_assoc,←Nat.mul_add,Nat.add_comm,Nat.div_add_mod]
def Aa0 (S:List Nat) (d:Nat):Prop:=∀ j (h:j<S.length),d≤j→S[j]=0
theorem Us {S:List Nat} {d v:Nat} (h:Aa0 S d):Aa0 (S.set d v) (d+1):=fun j b c=>by
 rw[List.getElem_set]
 rw[if_neg (by omega)]
 exact h j (by simpa using b) (by omega)
theorem H2 (n:Nat):Aa0 (List.replicate n 0) 0:=fun j b _=>by simp
theorem Ox {S:List Nat} {d v:Nat} (h:Aa0 S d) (b:d<S.length):val (S.set d v)=val S+4294967296 ^ d*v:=by
 have:=UB (v:=v) b
 rw[h d b (Nat.le_refl _)] at this;simpa using this
theorem Ajq {a:Nat} (h:a≤1000000000000):IntKind.wrap .i64 (((a:Nat):Int)+(1:Int))=((a+1:Nat):Int):=wS h
theorem Aig {x:Nat} {m:List Nat} (h:x<m.length):((Nat.beq 1 1)&&((Nat.ble ((0+(x*1))+1) (List.length (Aa m)))&&(!false)))=true:=by
 rw[Bb];simp;omega
theorem Agf {x v:Nat} {m:List Nat}:List.set (Aa m) (0+(x*1)) (.int .u32 (v:Int))=Aa (m.set x v):=by rw[Nat.mul_one,Nat.zero_add,TB]
theorem jJ {N:Nat} {a b:List Nat} {t u:Bool} (y:Ad a) (z:Ad b) (k:fit (a.length+1) N) (l:b.length≤a.length):∀ (m d f:Nat) (S:List Nat) (c:Nat),d+m=a.length→m<f→Ad S→S.length=a.length+1→Aa0 S d→c≤1 →
  val S+4294967296 ^ d*c=val (a.take d)+val (b.take d) →
  ∃ S',Ad S'∧S'.length=a.length+1∧val S'=val a+val b∧∀ K:Nat→LA→O R,N3 N K (Aa a) a.length t (Aa b) b.length u f (a.length+1) (c:Int) (a.length:Int) (d:Int) (Aa S)=K (Af (val a+val b)).length (Aa S')
 | 0,d,f+1,S,c,L,_,hS,n,q,M,I=>by
  have T:=k.1;have U:=k.2
  have A:d=a.length:=by omega
  subst A
  have v:val (S.set a.length c)=val a+val b:=by
   rw[Ox q (by omega),I,List.take_length,List.take_of_length_le l]
  have x:=Bt hS (show c<4294967296 by omega) a.length
  refine⟨S.set a.length c,x,by simpa using n,v,fun K=>?_⟩
  rw[N3];unfold Sd
  rw[BV (Nat.le_refl _),cf,Al (by omega),ct,Aig (by omega),ct,zO (by omega),Agf,Xq (by simp;omega) x (by simp only[List.length_set,n];exact k),v]
 | m+1,d,f+1,S,c,L,V,hS,n,q,M,I=>by
  have T:=k.1;have U:=k.2
  have i:d<a.length:=by omega
  have ad:=Aw y i
  have step:∀ s:Nat,s<8589934592→s=c+a[d]+b.getD d 0→val (S.set d (s%4294967296))+4294967296 ^ (d+1)*(s/4294967296)=val (a.take (d+1))+val (b.take (d+1)):=by
   intro s _ X
   rw[Ox q (by omega),Aq i,Lt b d,Nat.pow_succ]
   have e:=Is (4294967296 ^ d) s
   have Y:4294967296 ^ d*s=4294967296 ^ d*c+4294967296 ^ d*a[d]+4294967296 ^ d*b.getD d 0:=by rw[X,Nat.mul_add,Nat.mul_add]
   omega
  by_cases j:d<b.length
  ·have bd:=Aw z j
   have B:b.getD d 0=b[d]:=by rw[List.getD_eq_getElem?_getD,List.getElem?_eq_getElem j];rfl
   obtain⟨S',C,D,F,G⟩:=jJ (t:=t) (u:=u) y z k l m (d+1) f (S.set d ((c+a[d]+b[d])%4294967296)) ((c+a[d]+b[d])/4294967296) (by omega) (by omega) (Bt hS (by omega) d) (by simpa using n) (Us q) (by omega) (step _ (by omega) (by rw[B]))
   refine⟨S',C,D,F,fun K=>?_⟩
   rw[N3];unfold Sd
   rw[T6 i,ct,Al i,ct,ED i,T6 j,ct,Al j,ct,ED j,Al (by omega),ct,oG (by omega),ct,Fv (by omega),Fv (by omega),Wa,Fv (by omega),Wa,Fv (by omega),ZZ,QJ,FM,wS (by omega)]
   exact G K
  ·have B:b.getD d 0=0:=by rw[List.getD_eq_getElem?_getD,List.getElem?_eq_none (by omega)];rfl
   obtain⟨S',C,D,F,G⟩:=jJ (t:=t) (u:=u) y z k l m (d+1) f (S.set d ((c+a[d])%4294967296)) ((c+a[d])/4294967296) (by omega) (by omega) (Bt hS (by omega) d) (by simpa using n) (Us q) (by omega) (step _ (by omega) (by rw[B];rfl))
   refine⟨S',C,D,F,fun K=>?_⟩
   rw[N3];unfold Sd
   rw[T6 i,ct,Al i,ct,ED i,BV (by omega),cf,Al (by omega),ct,oG (by omega),ct,Fv (by omega),Wa,Fv (by omega),ZZ,QJ,FM,wS (by omega)]
   exact G K
theorem Ad5 {N:Nat} {a b:List Nat} {t u:Bool} (e:Ad a) (f:Ad b) (c:fit (a.length+1) N) (d:b.length≤a.length) :
  ∃ S',Ad S'∧val S'=val a+val b∧∀ K:Nat→LA→O R,Xl N K (Aa a) a.length t (Aa b) b.length u=K (Af (val a+val b)).length (Aa S'):=by
 have l:=c.1;have m:=c.2
 obtain⟨S',i,_,j,k⟩:=jJ (R:=R) (t:=t) (u:=u) e f c d a.length 0 N (List.replicate (a.length+1) 0) 0 (by omega) (by omega) (Bs _) (by simp) (H2 _) (by omega) (by rw[Cx];simp[val])
 refine⟨S',i,j,fun K=>?_⟩
 unfold Xl QN
 rw[Ajq (by omega),Acz (by omega),ct,Int.toNat_natCast,B0]
 exact k K
theorem uS {N:Nat} {a b:List Nat} {n m:Nat} {t o t' o':Bool} (k:n=a.length) (l:m=b.length) (e:Ad a) (f:Ad b) (c:fit (a.length+b.length+1) N) :
  ∃ S',Ad S'∧val S'=val a+val b∧∀ K:Nat→LA→O R,QO N (Aa a) n t o (Aa b) m t' o' K=K (Af (val a+val b)).length (Aa S'):=by
 subst k l
 have la:=(A3 e).2
 have lb:=(A3 f).2
 by_cases q:(Af (val a)).length<(Af (val b)).length
 ·obtain⟨S',i,d,j⟩:=Ad5 (R:=R) (N:=N) (a:=Af (val b)) (b:=Af (val a)) (t:=o') (u:=o) (Ab _) (Ab _) (c.le (by omega)) (by omega)
  rw[Ac,Ac,Nat.add_comm] at d
  refine⟨S',i,d,fun K=>?_⟩
  rw[QP];unfold TL
  dsimp only
  rw[Bf rfl e (c.le (by omega)),Bf rfl f (c.le (by omega)),T6 q,ct,j,Ac,Ac,Nat.add_comm (val b)]
 ·obtain⟨S',i,d,j⟩:=Ad5 (R:=R) (N:=N) (a:=Af (val a)) (b:=Af (val b)) (t:=o) (u:=o') (Ab _) (Ab _) (c.le (by omega)) (by omega)
  rw[Ac,Ac] at d
  refine⟨S',i,d,fun K=>?_⟩
  rw[QP];unfold TL
  dsimp only
  rw[Bf rfl e (c.le (by omega)),Bf rfl f (c.le (by omega)),BV (by omega),cf,j,Ac,Ac]
end
end Gx

namespace Gx
open Go Go.Proofs
section
variable {R:Type}
theorem JY {x y:Nat} (b:x<4294967296) (e:y≤4294967296):∃ d c:Nat,d<4294967296∧c≤1∧x+4294967296*c=d+y∧IntKind.wrap .u32 (IntKind.wrap .u64 ((x:Int) - (y:Int)))=(d:Int)∧Int.fdiv (IntKind.wrap .u64 ((x:Int) - (y:Int))) (2 ^ 63)=(c:Int):=by
 by_cases h:y≤x
 ·refine⟨x - y,0,by omega,by omega,by omega,?_,?_⟩
  ·rw[ZY (by omega) h,zO (by omega)]
  ·rw[ZY (by omega) h,Aif,Nat.div_eq_of_lt (by omega)]
 ·refine⟨x+4294967296 - y,1,by omega,by omega,by omega,?_,?_⟩
  ·rw[Adv (by omega) (by omega),QJ];congr 1;omega
  ·rw[Adv (by omega) (by omega),Aif];congr 1;omega
theorem Afd {x c w:Nat} (b:x<4294967296) (d:c≤1) (e:w<4294967296):IntKind.wrap .u64 ((IntKind.wrap .u64 ((x:Int) - (c:Int))) - (w:Int))=IntKind.wrap .u64 ((x:Int) - ((c+w:Nat):Int)):=by
 rw[KV,KV,KV];omega
theorem jK {N:Nat} {a b:List Nat} {t u:Bool} (z:Ad a) (A:Ad b) (n:fit a.length N) (k:b.length≤a.length) (q:val b≤val a):∀ (m d f:Nat) (S:List Nat) (c:Nat),d+m=a.length→m<f→Ad S→S.length=a.length→Aa0 S d→c≤1 →
  val S+val (b.take d)=val (a.take d)+4294967296 ^ d*c →
  ∃ S',Ad S'∧val S'=val a - val b∧∀ K:Nat→Bool→LA→O R,Ls N K (Aa b) b.length t a.length (Aa a) u f (c:Int) (a.length:Int) (d:Int) (Aa S)=K (Af (val a - val b)).length true (Aa S')
 | 0,d,f+1,S,c,hd,_,hS,l,x,X,Y=>by
  have B:d=a.length:=by omega
  subst B
  rw[List.take_length,List.take_of_length_le k] at Y
  have C:=Be hS
  rw[l] at C
  have D:c=0:=by
   rcases Nat.lt_or_ge 0 c with h | h
   ·exfalso
    have:c=1:=by omega
    subst this
    omega
   ·omega
  subst D
  have s:val S=val a - val b:=by omega
  refine⟨S,hS,s,fun K=>?_⟩
  rw[Ls];unfold Se
  rw[BV (Nat.le_refl _),cf,Xq l.symm hS (by rw[l];exact n),s]
 | m+1,d,f+1,S,c,hd,hfu,hS,l,x,X,Y=>by
  have h1:=n.1;have h2:=n.2
  have i:d<a.length:=by omega
  have ad:=Aw z i
  have step:∀ y g c':Nat,y=c+b.getD d 0→a[d]+4294967296*c'=g+y→val (S.set d g)+val (b.take (d+1))=val (a.take (d+1))+4294967296 ^ (d+1)*c':=by
   intro y g c' hy v
   rw[Ox x (by omega),Aq i,Lt b d,Nat.pow_succ,Nat.mul_assoc]
   have e:4294967296 ^ d*(a[d]+4294967296*c')=4294967296 ^ d*(g+(c+b.getD d 0)):=by rw[v,hy]
   rw[Nat.mul_add,Nat.mul_add,Nat.mul_add] at e
   omega
  by_cases j:d<b.length
  ·have bd:=Aw A j
   have v:b.getD d 0=b[d]:=by rw[List.getD_eq_getElem?_getD,List.getElem?_eq_getElem j];rfl
   obtain⟨g,c',F,G,I,L,M⟩:=JY ad (show c+b[d]≤4294967296 by omega)
   obtain⟨S',T,U,V⟩:=jK (t:=t) (u:=u) z A n k q m (d+1) f (S.set d g) c' (by omega) (by omega) (Bt hS F d) (by simpa using l) (Us x) G (step _ _ _ (by rw[v]) I)
   refine⟨S',T,U,fun K=>?_⟩
   rw[Ls];unfold Se
   rw[T6 i,ct,Al i,ct,ED i,T6 j,ct,Al j,ct,ED j,ct,oG (by omega),ct,Fv (show a[d]<18446744073709551616 by omega),Fv (show b[d]<18446744073709551616 by omega),Afd ad X bd,L,M,FM,wS (by omega)]
   exact V K
  ·have v:b.getD d 0=0:=by rw[List.getD_eq_getElem?_getD,List.getElem?_eq_none (by omega)];rfl
   obtain⟨g,c',F,G,I,L,M⟩:=JY ad (show c≤4294967296 by omega)
   obtain⟨S',T,U,V⟩:=jK (t:=t) (u:=u) z A n k q m (d+1) f (S.set d g) c' (by omega) (by omega) (Bt hS F d) (by simpa using l) (Us x) G (step _ _ _ (by rw[v];rfl) I)
   refine⟨S',T,U,fun K=>?_⟩
   rw[Ls];unfold Se
   rw[T6 i,ct,Al i,ct,ED i,BV (by omega),cf,ct,oG (by omega),ct,Fv (show a[d]<18446744073709551616 by omega),L,M,FM,wS (by omega)]
   exact V K
theorem UC {N:Nat} {a b:List Nat} {n m:Nat} {t o t' o':Bool} (k:n=a.length) (l:m=b.length) (f:Ad a) (i:Ad b) (c:fit (a.length+b.length) N) (d:val b≤val a) :
  ∃ S',Ad S'∧val S'=val a - val b∧∀ K:Nat→Bool→LA→O R,Wc N (Aa a) n t o (Aa b) m t' o' K=K (Af (val a - val b)).length true (Aa S'):=by
 subst k l
 have v:=c.1;have x:=c.2
 have la:=(A3 f).2
 have lb:=(A3 i).2
 have e:=A4 d
 obtain⟨S',q,j,s⟩:=jK (R:=R) (N:=N) (a:=Af (val a)) (b:=Af (val b)) (t:=o') (u:=o) (Ab _) (Ab _) (c.le (by omega)) e (by rw[Ac,Ac];exact d) (Af (val a)).length 0 N (List.replicate (Af (val a)).length 0) 0 (by omega) (by omega) (Bs _) (by simp) (H2 _) (by omega) (by rw[Cx];simp[val])
 rw[Ac,Ac] at j
 refine⟨S',q,j,fun K=>?_⟩
 rw[QQ];unfold TN
 dsimp only
 rw[Bf rfl f (c.le (by omega)),Bf rfl i (c.le (by omega)),Rk rfl rfl (Ab _) (Ab _) (c.le (by omega)),Ac,Ac]
 have:decide (Fo (val a) (val b)<0)=false:=by unfold Fo;split<;>(try split)<;>simp<;>omega
 rw[this,cf,Acz (by omega),ct,B0]
 have:=s K
 rw[Ac,Ac] at this
 exact this
theorem Ad6 {N:Nat} {a b:List Nat} {n m:Nat} {t o t' o':Bool} {K:Nat→Bool→LA→O R} (i:n=a.length) (j:m=b.length) (e:Ad a) (f:Ad b) (c:fit (a.length+b.length) N) (d:val a<val b) :
  Wc N (Aa a) n t o (Aa b) m t' o' K=K 0 false []:=by
 subst i j
 have la:=(A3 e).2
 have lb:=(A3 f).2
 rw[QQ];unfold TN
 dsimp only
 rw[Bf rfl e (c.le (by omega)),Bf rfl f (c.le (by omega)),Rk rfl rfl (Ab _) (Ab _) (c.le (by omega)),Ac,Ac]
 have:decide (Fo (val a) (val b)<0)=true:=by unfold Fo;rw[if_pos d];rfl
 rw[this,ct]
end
end Gx

namespace Gx
open Go Go.Proofs
section
variable {R:Type}
theorem mU {n:Nat} (h:n≠0):(((n:Nat):Int)==(0:Int))=false:=by rw[beq_eq_false_iff_ne];omega
theorem Ajr {n:Nat} (h:n=0):(((n:Nat):Int)==(0:Int))=true:=by subst h;rfl
theorem xd:∀ {S:List Nat} {j:Nat} (h:j<S.length),4294967296 ^ j*S[j]≤val S
 | x::r,0,_=>by simp[val]
 | x::r,j+1,h=>by
  have:=xd (S:=r) (j:=j) (by simpa using h)
  simp only[List.getElem_cons_succ,val,Nat.pow_succ]
  rw[Nat.mul_comm (4294967296 ^ j),Nat.mul_assoc]
  omega
theorem Ad7 {S:List Nat} {k:Nat} (h:val S<4294967296 ^ k):Aa0 S k:=fun j c d=>by
 have e:=xd c
 have f:4294967296 ^ k≤4294967296 ^ j:=Nat.pow_le_pow_right (by omega) d
 rcases Nat.eq_zero_or_pos S[j] with b | b
 ·exact b
 ·have:=Nat.le_mul_of_pos_right (4294967296 ^ j) b
  omega
theorem uT {p q y s:Nat} (b:p<4294967296) (hq:q<4294967296) (c:y<4294967296) (d:s<4294967296):p+(q*y+s)<18446744073709551616:=by
 have:q*y≤4294967295*4294967295:=Nat.mul_le_mul (by omega) (by omega)
 omega
theorem Ad8 {N:Nat} {x y:List Nat} {c d:Bool} {f q J:Nat} (F:Ad y) (hq:q<4294967296) (I:f<x.length) (L:x.length+y.length≤1000000000000):∀ (m l b:Nat) (S:List Nat) (p:Nat) (v:Nat),l+m=y.length→m<b→Ad S→S.length=x.length+y.length→Aa0 S (f+y.length)→p<4294967296 →
  val S+4294967296 ^ (f+l)*p=v+4294967296 ^ f*(q*val (y.take l)) →
  ∃ S',Ad S'∧S'.length=x.length+y.length∧val S'=v+4294967296 ^ f*(q*val y)∧∀ (n:Nat→Int→Int→LA→O R) (K:Nat→LA→O R),N0 N n K (Aa y) y.length d (x.length+y.length) (f:Int) (q:Int) (Aa x) x.length c (J:Int) b (p:Int) (y.length:Int) (l:Int) (Aa S)=n (x.length+y.length) J ((f+1:Nat):Int) (Aa S')
 | 0,l,b+1,S,p,v,M,_,hS,i,A,u,B=>by
  have C:l=y.length:=by omega
  subst C
  rw[List.take_length] at B
  refine⟨S.set (f+y.length) p,Bt hS u _,by simpa using i,by rw[Ox A (by omega),B],fun n K=>?_⟩
  rw[N0];unfold Zo
  rw[BV (Nat.le_refl _),cf,wA (by omega),Al (by omega),ct,oG (by omega),ct,zO u,FM,wS (by omega)]
 | m+1,l,b+1,S,p,v,M,T,hS,i,A,u,B=>by
  have k:l<y.length:=by omega
  have yl:=Aw F k
  have z:f+l<S.length:=by omega
  have sl:=Aw hS z
  have U:=uT u hq yl sl
  have D:q*y[l]<18446744073709551616:=by omega
  generalize t:p+(q*y[l]+S[f+l])=s at *
  have G:=UB (v:=s%4294967296) z
  have key:val (S.set (f+l) (s%4294967296))+4294967296 ^ (f+(l+1))*(s/4294967296)=v+4294967296 ^ f*(q*val (y.take (l+1))):=by
   rw[Aq k,←Nat.add_assoc f l 1,Nat.pow_succ]
   have e:=Is (4294967296 ^ (f+l)) s
   have e2:4294967296 ^ (f+l)*s=4294967296 ^ (f+l)*p+(4294967296 ^ (f+l)*(q*y[l])+4294967296 ^ (f+l)*S[f+l]):=by rw[←t,Nat.mul_add,Nat.mul_add]
   have e3:4294967296 ^ f*(q*(val (y.take l)+4294967296 ^ l*y[l]))=4294967296 ^ f*(q*val (y.take l))+4294967296 ^ (f+l)*(q*y[l]):=by
    rw[Nat.mul_add,Nat.mul_add,Nat.pow_add]
    congr 1
    rw[Nat.mul_assoc];congr 1
    rw[←Nat.mul_assoc,←Nat.mul_assoc,Nat.mul_comm q]
   omega
  obtain⟨S',V,X,Y,q4⟩:=Ad8 (N:=N) (x:=x) (c:=c) (d:=d) (J:=J) F hq I L m (l+1) b (S.set (f+l) (s%4294967296)) (s/4294967296) v (by omega) (by omega) (Bt hS (by omega) _) (by simpa using i) (fun j hj hk=>by
   rw[List.getElem_set,if_neg (by omega)];exact A j (by simpa using hj) hk) (by omega) key
  refine⟨S',V,X,Y,fun n K=>?_⟩
  rw[N0];unfold Zo
  rw[T6 k,ct,Al k,ct,ED k,wA (by omega),Al (by omega),ct,UA z,ct,oG z,ct,Fv (show q<18446744073709551616 by omega),Fv (show y[l]<18446744073709551616 by omega),Fv (show S[f+l]<18446744073709551616 by omega),iR,Fv D,Wa,Fv (by omega),Wa,t,Fv U,ZZ,QJ,FM,wS (by omega)]
  exact q4 n K
theorem rI {N:Nat} {x y:List Nat} {c d:Bool} (s:Ad x) (t:Ad y) (i:fit (x.length+y.length) N):∀ (m f b:Nat) (S:List Nat),f+m=x.length→m<b→Ad S→S.length=x.length+y.length →
  val S=val (x.take f)*val y →
  ∃ S',Ad S'∧val S'=val x*val y∧∀ K:Nat→LA→O R,Ju N K (Aa y) y.length d (Aa x) x.length c b (x.length+y.length) (x.length:Int) (f:Int) (Aa S)=K (Af (val x*val y)).length (Aa S')
 | 0,f,b+1,S,D,_,hS,j,n=>by
  have u:f=x.length:=by omega
  subst u
  rw[List.take_length] at n
  refine⟨S,hS,n,fun K=>?_⟩
  rw[Ju];unfold Sc
  rw[BV (Nat.le_refl _),cf,Xq j.symm hS (by rw[j];exact i),n]
 | m+1,f,b+1,S,D,F,hS,j,n=>by
  have U:=i.1;have V:=i.2
  have e:f<x.length:=by omega
  have xf:=Aw s e
  have C:=Be (Bo s f)
  rw[List.length_take,Nat.min_eq_left (by omega)] at C
  have G:=Be t
  have l:val S<4294967296 ^ (f+y.length):=by
   rw[n,Nat.pow_add];exact Nat.mul_lt_mul'' C G
  have k:val (x.take (f+1))*val y=val S+4294967296 ^ f*(x[f]*val y):=by
   rw[Aq e,Nat.add_mul,n,Nat.mul_assoc]
  by_cases v:x[f]=0
  ·obtain⟨S',z,A,B⟩:=rI (c:=c) (d:=d) s t i m (f+1) b S (by omega) (by omega) hS j (by rw[k,v];simp)
   refine⟨S',z,A,fun K=>?_⟩
   rw[Ju];unfold Sc
   rw[T6 e,ct,Al e,ct,ED e,show(((x[f]:Nat):Int)==0)=true by simp[v],ct,wS (by omega)]
   exact B K
  ·obtain⟨S1,I,L,M,T⟩:=Ad8 (R:=R) (N:=N) (x:=x) (y:=y) (c:=c) (d:=d) (f:=f) (q:=x[f]) (J:=x.length) t xf e (by omega) y.length 0 N S 0 (val S) (by omega) (by omega) hS j (Ad7 l) (by omega) (by simp[val])
   obtain⟨S',z,A,B⟩:=rI (c:=c) (d:=d) s t i m (f+1) b S1 (by omega) (by omega) I L (by rw[M,k])
   refine⟨S',z,A,fun K=>?_⟩
   rw[Ju];unfold Sc
   rw[T6 e,ct,Al e,ct,ED e,show(((x[f]:Nat):Int)==0)=false by simp;exact v,cf]
   have:=T (Ju N K (Aa y) y.length d (Aa x) x.length c b) K
   simp only[Int.natCast_zero] at this
   dsimp only
   rw[this]
   exact B K
theorem UD {N:Nat} {a b:List Nat} {n m:Nat} {t o t' o':Bool} (q:n=a.length) (s:m=b.length) (j:Ad a) (k:Ad b) (e:fit (a.length+b.length) N) :
  ∃ S',Ad S'∧val S'=val a*val b∧∀ K:Nat→LA→O R,Zp N (Aa a) n t o (Aa b) m t' o' K=K (Af (val a*val b)).length (Aa S'):=by
 subst q s
 have z:=e.1;have A:=e.2
 have la:=(A3 j).2
 have lb:=(A3 k).2
 by_cases f:val a=0
 ·refine⟨[],Nw,by rw[f];simp[val],fun K=>?_⟩
  rw[Zq];unfold JW
  dsimp only
  rw[Bf rfl j (e.le (by omega)),Bf rfl k (e.le (by omega)),f,Nat.zero_mul,Cc];rfl
 ·by_cases i:val b=0
  ·refine⟨[],Nw,by rw[i];simp[val],fun K=>?_⟩
   rw[Zq];unfold JW
   dsimp only
   rw[Bf rfl j (e.le (by omega)),Bf rfl k (e.le (by omega)),i,Nat.mul_zero,Cc]
   cases ((((Af (val a)).length:Nat):Int)==0)<;>rfl
  ·obtain⟨S',u,l,v⟩:=rI (R:=R) (N:=N) (x:=Af (val a)) (y:=Af (val b)) (c:=o) (d:=o') (Ab _) (Ab _) (e.le (by omega)) (Af (val a)).length 0 N (List.replicate ((Af (val a)).length+(Af (val b)).length) 0) (by omega) (by omega) (Bs _) (by simp) (by rw[Cx];simp[val])
   rw[Ac,Ac] at l
   refine⟨S',u,l,fun K=>?_⟩
   rw[Zq];unfold JW
   dsimp only
   have n1:(Af (val a)).length≠0:=fun h=>f (A8.1 h)
   have n2:(Af (val b)).length≠0:=fun h=>i (A8.1 h)
   rw[Bf rfl j (e.le (by omega)),Bf rfl k (e.le (by omega)),mU n1,show((false:Bool)==false)=true by rfl,ct,Ajp,mU n2,cf]
   unfold JV QM
   rw[wA (by omega),Acz (by omega),ct,Int.toNat_natCast,B0]
   have:=v K
   rw[Ac,Ac] at this
   exact this
end
end Gx

namespace Gx
open Go Go.Proofs
section
variable {R:Type}
theorem UE {v:Nat} (h:(Af v).length≤2):v<18446744073709551616:=by
 have:=Be (Ab v)
 rw[Ac] at this
 have b:4294967296 ^ (Af v).length≤4294967296 ^ 2:=Nat.pow_le_pow_right (by omega) h
 omega
theorem Qu {v:Nat} (h:v<18446744073709551616):(Af v).length≤2:=Bp (by simpa using h)
theorem Xs {N:Nat} {l:List Nat} {n:Nat} {t o:Bool} {K:Int→O R} (c:n=l.length) (b:Ad l) (d:l.length≤2) (hN:4≤N):K6 N (Aa l) n t o K=K (val l:Int):=by
 subst c
 obtain⟨M,rfl⟩:∃ M,N=M+4:=⟨N - 4,by omega⟩
 rw[c_];unfold TS
 match l,b,d with
 | [],_,_ =>
  dsimp only
  rw[Fy];unfold Gp
  simp[val]
 | [x],b,_ =>
  have f:=(Ce.1 b).1
  dsimp only
  rw[Fy];unfold Gp
  simp only[List.length_cons,List.length_nil,Int.toNat_zero,Nat.zero_mul,List.drop_zero,Rg,Xf]
  rw[show decide ((0:Int)<((0+1:Nat):Int))=true by decide,ct,show Aj 0 (0+1)=true by decide,ct,show IntKind.wrap .i64 ((32:Int)*0)=0 by decide,show decide ((0:Int)<0)=false by decide,cf]
  rw[Fy];unfold Gp
  rw[show IntKind.wrap .i64 ((0:Int)+1)=1 by decide,show decide ((1:Int)<((0+1:Nat):Int))=false by decide,cf]
  have e:IntKind.wrap .u64 ((IntKind.wrap .u64 (x:Int))*2 ^ (min (Int.toNat 0) 64))=(x:Int):=by rw[Fv (by omega)];simp;exact Fv (by omega)
  rw[e,show(0:Int)=((0:Nat):Int) by rfl,xU (by omega) (by omega)]
  simp[val]
 | [x,y],b,_ =>
  have f:=(Ce.1 b).1
  have j:=(Ce.1 (Ce.1 b).2).1
  dsimp only
  rw[Fy];unfold Gp
  simp only[List.length_cons,List.length_nil,Int.toNat_zero,Nat.zero_mul,List.drop_zero,Rg,Xf]
  rw[show decide ((0:Int)<((0+1+1:Nat):Int))=true by decide,ct,show Aj 0 (0+1+1)=true by decide,ct,show IntKind.wrap .i64 ((32:Int)*0)=0 by decide,show decide ((0:Int)<0)=false by decide,cf]
  rw[Fy];unfold Gp
  rw[show IntKind.wrap .i64 ((0:Int)+1)=1 by decide,show decide ((1:Int)<((0+1+1:Nat):Int))=true by decide,ct,show Aj 1 (0+1+1)=true by decide,ct,show IntKind.wrap .i64 ((32:Int)*1)=32 by decide,show decide ((32:Int)<0)=false by decide]
  simp only[show Int.toNat 1*1=1 by rfl,List.drop_succ_cons,List.drop_zero,Xf,cf]
  rw[Fy];unfold Gp
  rw[show IntKind.wrap .i64 ((1:Int)+1)=2 by decide,show decide ((2:Int)<((0+1+1:Nat):Int))=false by decide,cf]
  have e:IntKind.wrap .u64 ((IntKind.wrap .u64 (x:Int))*2 ^ (min (Int.toNat 0) 64))=(x:Int):=by rw[Fv (by omega)];simp;exact Fv (by omega)
  have i:IntKind.wrap .u64 ((IntKind.wrap .u64 (y:Int))*2 ^ (min (Int.toNat 32) 64))=((y*2 ^ 32:Nat):Int):=by
   rw[Fv (by omega),show(2:Int) ^ (min (Int.toNat 32) 64)=((2 ^ 32:Nat):Int) by rfl,iR,Fv (by omega)]
  rw[e,i,show(0:Int)=((0:Nat):Int) by rfl,xU (by omega) (by omega),xU (by simp;omega) (by omega),Nat.zero_or,Nat.or_comm,Z_ (by omega)]
  congr 1;simp only[val];omega
theorem G7 {N:Nat} {v:Nat} (e:v<18446744073709551616) (hN:4≤N):∃ S,Ad S∧val S=v∧∀ K:Nat→LA→O R,Bc N (v:Int) K=K (Af v).length (Aa S):=by
 have d:Ad [v%4294967296,v/4294967296]:=Ce.2 ⟨by omega,Ce.2 ⟨by omega,Nw⟩⟩
 have b:val [v%4294967296,v/4294967296]=v:=by simp[val];omega
 refine⟨_,d,b,fun K=>?_⟩
 rw[Uk];unfold Sb
 rw[QJ,ZZ,zO (show v/4294967296<4294967296 by omega)]
 have:=jH (R:=R) (N:=N) (l:=[v%4294967296,v/4294967296]) (K:=fun c=>K c (Aa [v%4294967296,v/4294967296])) d (by simp) 2 N (by simp) (by omega)
 rw[show [v%4294967296,v/4294967296].take 2=[v%4294967296,v/4294967296] by rfl,b] at this
 rw[QK];unfold TD
 exact this
theorem Gr {N:Nat} {l:List Nat} {n:Nat} {t o:Bool} {K:Int→Bool→O R} (c:n=l.length) (d:Ad l) (b:fit l.length N):N5 N (Aa l) n t o K=if val l<18446744073709551616 then K (val l:Int) true else K 0 false:=by
 have f:=b.1
 rw[LY];unfold QT
 rw[Bf c d b]
 by_cases h:val l<18446744073709551616
 ·have:=Qu h
  rw[if_pos h,show decide ((((Af (val l)).length:Nat):Int)>2)=false by simp;omega,cf,Xs rfl (Ab _) this (by omega),Ac]
 ·have:¬ (Af (val l)).length≤2:=fun e=>h (UE e)
  rw[if_neg h,show decide ((((Af (val l)).length:Nat):Int)>2)=true by simp;omega,ct]
theorem Rl {N:Nat} {l:List Nat} {n:Nat} {t o:Bool} {K:Nat→LA→O R} (d:n=l.length) (c:Ad l) (b:fit l.length N):Mn N (Aa l) n t o K=K (Af (val l)).length (Aa (Af (val l))):=by
 have e:=b.1;have f:=b.2
 have:=(A3 c).2
 rw[cW];unfold i6
 rw[Bf d c b,Acz (by omega),ct,Uj,Bool.or_true,ct]
 congr 1
 unfold Gf
 rw[Nat.min_self,Nat.mul_one,List.take_zero,List.nil_append,List.take_of_length_le (by rw[Bb];exact Nat.le_refl _),List.drop_eq_nil_of_le (by simp[Bb]),List.append_nil]
end
end Gx
