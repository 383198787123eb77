/- A part of the proof: what it holds is said by each theorem. -/
import Derived.ProofKit
import Derived.OpenShut
import Derived.ChangeOld
import Derived.Below
import Derived.Lib.LaidTab
import Derived.JoinedOf
import Derived.Test.YtjmfofdghmlldaaGreatDoorCards
import Derived.Test.YtjmfofdghmlldaaGreatDoorTie
import Derived.Deep.DeepHandedRow
import Derived.Deep.DeepWitnessRowRef
import Derived.LaidMore
import Derived.Shelf.Vars
import Derived.SevenTiedAt
import Derived.IntWalk
import Derived.Test.YtjmfofdghmlldaaGreatDoorProg
import Derived.Test.YtjmfofdghmlldaaGreatDoorRows
import Derived.ChangeSame
import Derived.Lay
import Derived.Shelf.Strings.Repeat
import Derived.Shelf.Strings.Split
import Derived.Shelf.Strings.Cut
import Derived.Shelf.Strconv.AtoiAll
import Derived.Shelf.Strconv.Itoa3
import Derived.Shelf.LaysM
import Derived.Shelf.LaysC
import Derived.Lib.RepeatB
import Derived.Test.YtjmfofdghmlldaaGreatDoorP0
set_option linter.unusedVariables false
set_option linter.defProp false
set_option linter.unusedSimpArgs false
namespace Gx
open Go
theorem Nn:∀ {l:List Nat} {b:Nat},Kn l b=true↔b ∈ l
  | [],b=>by simp[Kn]
  | i::r,b=>by
    rw[Kn]
    cases hi:Nat.beq i b with
    | true=>have:=Nat.eq_of_beq_eq_true hi;subst this;simp
    | false => have := BU hi; simp only [cond_false, List.mem_cons]; rw [Nn]; constructor
               · exact fun h=>.inr h
               · rintro(h | h)
                 · exact absurd h.symm this
                 · exact h
theorem W4:∀ {l:List Nat},aC l=true→l.Nodup
 | [],_=>List.nodup_nil
 | i::r,h=>by
  rw[aC] at h;simp at h
  refine List.nodup_cons.2 ⟨fun b=>?_,W4 h.2⟩
  rw[Nn.2 b] at h;simp at h
theorem r4 {g:Bk} {ids:List Nat}:∀ {l:List Nat},yk g ids l=true→∀ b ∈ l,∀ x,Hb g b=some x→b ∈ ids
 | [],_,b,c,_,_=>by simp at c
 | i::r,h,b,c,x,f=>by
  rw[yk] at h;simp at h
  rcases List.mem_cons.1 c with e | c
  ·subst e
   rcases h.1 with d | d
   ·exact Nn.1 d
   ·rw[f] at d;simp at d
  ·exact r4 h.2 b c x f
theorem Aqf:∀ {l:List Nat},Azq l=true→∀ b ∈ l,Ja≤b→Nm b<100000
 | [],_,b,c,_=>by simp at c
 | i::r,h,b,c,hn=>by
  rw[Azq] at h;simp at h
  rcases List.mem_cons.1 c with e | c
  ·subst e
   have:Nat.ble Ja b=true:=by simpa using hn
   rw[this] at h;simpa using h.1
  ·exact Aqf h.2 b c hn
theorem F' (g:Bk):∀ c:LA,(Mh g c).length=c.length
 | []=>rfl
 | x::r=>by rw[Mh,List.length_cons,List.length_cons,F' g r]
section
variable {R:Type} {r:R} {Z:Start} {nt:Nat} {J J':Bool→Nat→Prop} {β β':Cn} {st:St} {h h':Ai} {a:Act} {w w':World} {ids:List Nat}
def Pa (g:Bk) (x:Blk):Blk:={ x with cells:=cond x.pure x.cells (Mh g x.cells) }
theorem lK {g:Bk}:∀ {ids:List Nat},(ids.map Nm).Nodup→∀ c y,Al (FY g ids) c=some y→∃ b x,b ∈ ids∧Nm b=c∧Hb g b=some x∧y=Pa g x
 | [],_,c,y,d=>by simp[FY,Al] at d
 | b::r,hn,c,y,d=>by
  rw[List.map_cons,List.nodup_cons] at hn
  rw[FY] at d
  split at d
  ·rename_i x m
   rw[Ag] at d
   by_cases e:c=Nm b
   ·rw[if_pos e] at d;simp at d
    exact⟨b,x,by simp,e.symm,m,d.symm⟩
   ·rw[if_neg e] at d
    obtain⟨f,x',i,j,k,l⟩:=lK hn.2 c y d
    exact⟨f,x',by simp[i],j,k,l⟩
  ·obtain⟨f,x',i,j,k,l⟩:=lK hn.2 c y d
   exact⟨f,x',by simp[i],j,k,l⟩
theorem GA {g:Bk}:∀ {ids:List Nat},(ids.map Nm).Nodup→∀ b x,b ∈ ids→Hb g b=some x→Al (FY g ids) (Nm b)=some (Pa g x)
 | [],_,b,x,c,_=>by simp at c
 | i::r,hn,b,x,c,d=>by
  rw[List.map_cons,List.nodup_cons] at hn
  rw[FY]
  by_cases e:b=i
  ·subst e
   rw[d]
   simp only
   rw[Ag,if_pos rfl];rfl
  ·have f:b ∈ r:=by simpa[e] using c
   have ne:Nm b≠Nm i:=fun h=>hn.1 (by rw[←h];exact List.mem_map.2 ⟨b,f,rfl⟩)
   split
   ·rw[Ag,if_neg ne];exact GA hn.2 b x f d
   ·exact GA hn.2 b x f d
def zD (ids:List Nat) (c:Nat):Option Nat:=ids.find? fun b=>Nat.beq (Nm b) c
theorem Nz (hn:(ids.map Nm).Nodup) {b:Nat} (c:b ∈ ids):zD ids (Nm b)=some b:=by
 induction ids with
 | nil=>simp at c
 | cons i r d =>
  rw[List.map_cons,List.nodup_cons] at hn
  unfold zD at d ⊢
  rw[List.find?_cons]
  by_cases e:b=i
  ·subst e;simp
  ·have f:b ∈ r:=by simpa[e] using c
   have ne:Nm i≠Nm b:=fun h=>hn.1 (by rw[h];exact List.mem_map.2 ⟨b,f,rfl⟩)
   rw[ZM ne];exact d hn.2 f
def A6r (g:Bk) (ids:List Nat) (l:List Nat):Prop:=∀ b ∈ l,∀ x,Hb g b=some x→b ∈ ids
theorem A00 {b:Nat}:Hb (Al h) b=(Al h b).bind fun x=>cond x.dead none (some x):=rfl
theorem lL {b:Nat} {x y:Blk} (e:Al h b=some x) (c:Hb (Al h) b=some y):y=x∧x.dead=false:=by
 rw[A00,e] at c
 cases d:x.dead with
 | true=>simp[d] at c
 | false=>simp[d] at c;exact⟨c.symm,rfl⟩
mutual
theorem Rep.clean (hn:(ids.map Nm).Nodup):∀ {x:AV} {v:Value},A6r (Al h) ids (In x)→Rep J β h w x v →
  Rep J (fun c=>(zD ids c).bind β) (FY (Al h) ids) w (FX (Al h) x) v
 | .own b off n,v,hm,hr=>by
  rw[Rep] at hr
  obtain⟨x,A,cap,⟨hx,hmp⟩,h1,h2,h3⟩:=hr
  rw[FX]
  cases hv:Hb (Al h) b with
  | none=>simp only;rw[Rep];trivial
  | some y =>
   obtain⟨rfl,hd⟩:=lL hx hv
   have hb:=hm b (by simp[In]) _ hv
   simp only
   rw[Rep]
   refine⟨Pa (Al h) y,A,cap,⟨GA hn b y hb hv,hmp⟩,h1,h2,?_⟩
   rcases h3 with h3 | ⟨k,o,h4,h5⟩
   ·exact .inl h3
   ·refine .inr ⟨k,o,h4,?_⟩
    rcases h5 with h5 | ⟨h5,h6,h7⟩
    ·simp[hd] at h5
    ·refine .inr ⟨by rw[Nz hn hb];exact h5,h6,?_⟩
     have:(Pa (Al h) y).cells.length=y.cells.length:=by
      unfold Pa;cases y.pure
      ·simp;exact F' _ _
      ·rfl
     rw[this];exact h7
 | .optr b off,v,hm,hr=>by
  rw[Rep] at hr
  obtain⟨x,k,o,⟨hx,hmp⟩,h1,h2⟩:=hr
  rw[FX]
  cases hv:Hb (Al h) b with
  | none=>simp only;rw[Rep];trivial
  | some y =>
   obtain⟨rfl,hd⟩:=lL hx hv
   have hb:=hm b (by simp[In]) _ hv
   simp only
   rw[Rep]
   refine⟨Pa (Al h) y,k,o,⟨GA hn b y hb hv,hmp⟩,h1,?_⟩
   rcases h2 with h2 | h2
   ·simp[hd] at h2
   ·exact .inr (by rw[Nz hn hb];exact h2)
 | .omap b,v,hm,hr=>by
  rw[Rep] at hr
  obtain⟨x,k,⟨hx,hmp⟩,h2⟩:=hr
  rw[FX]
  cases hv:Hb (Al h) b with
  | none=>simp only;rw[Rep];trivial
  | some y =>
   obtain⟨rfl,hd⟩:=lL hx hv
   have hb:=hm b (by simp[In]) _ hv
   simp only
   rw[Rep]
   refine⟨Pa (Al h) y,k,⟨GA hn b y hb hv,hmp⟩,?_⟩
   rcases h2 with h2 | h2
   ·simp[hd] at h2
   ·exact .inr (by rw[Nz hn hb];exact h2)
 | .agg c,v,hm,hr=>by
  rw[Rep] at hr
  obtain⟨cs,h1,h2⟩:=hr
  rw[FX,Rep]
  exact⟨cs,h1,Reps.clean hn (by simpa[In] using hm) h2⟩
 | .tup c,v,hm,hr=>by
  rw[Rep] at hr
  obtain⟨cs,h1,h2⟩:=hr
  rw[FX,Rep]
  exact⟨cs,h1,Reps.clean hn (by simpa[In] using hm) h2⟩
 | .fn f c,v,hm,hr=>by
  rw[Rep] at hr
  obtain⟨cs,h1,h2⟩:=hr
  rw[FX,Rep]
  exact⟨cs,h1,Reps.clean hn (by simpa[In] using hm) h2⟩
 | .pagg c o,v,hm,hr=>by show Rep J _ _ w (.pagg c o) v;rw[Rep] at hr ⊢;exact hr
 | .undef,v,hm,hr=>by show Rep J _ _ w (.undef) v;rw[Rep] at hr ⊢;exact hr
 | .imm c n sz t o,v,hm,hr=>by show Rep J _ _ w (.imm c n sz t o) v;rw[Rep] at hr ⊢;exact hr
 | .iptr c o,v,hm,hr=>by show Rep J _ _ w (.iptr c o) v;rw[Rep] at hr ⊢;exact hr
 | .int k n,v,hm,hr=>by show Rep J _ _ w (.int k n) v;rw[Rep] at hr ⊢;exact hr
 | .bool b,v,hm,hr=>by show Rep J _ _ w (.bool b) v;rw[Rep] at hr ⊢;exact hr
 | .str s,v,hm,hr=>by show Rep J _ _ w (.str s) v;rw[Rep] at hr ⊢;exact hr
 | .nsl,v,hm,hr=>by show Rep J _ _ w (.nsl) v;rw[Rep] at hr ⊢;exact hr
 | .nilptr,v,hm,hr=>by show Rep J _ _ w (.nilptr) v;rw[Rep] at hr ⊢;exact hr
 | .nilfn,v,hm,hr=>by show Rep J _ _ w (.nilfn) v;rw[Rep] at hr ⊢;exact hr
theorem Reps.clean (hn:(ids.map Nm).Nodup):∀ {c:List AV} {cs:List Value},A6r (Al h) ids (Km c)→Reps J β h w c cs →
  Reps J (fun c=>(zD ids c).bind β) (FY (Al h) ids) w (Mh (Al h) c) cs
 | [],cs,hm,hr=>by rw[Reps] at hr;rw[Mh,Reps];exact hr
 | x::r,cs,hm,hr=>by
  rw[Reps] at hr
  obtain⟨u,us,h1,h2,h3⟩:=hr
  rw[Mh,Reps]
  exact⟨u,us,h1,Rep.clean hn (fun b hb=>hm b (by simp[Km,hb])) h2,Reps.clean hn (fun b hb=>hm b (by simp[Km,hb])) h3⟩
end
theorem IQ {g:Bk} {K:List Nat}:∀ {s:Im} {i:Nat},Ha (rS g K s) i=if Kn K i=true then FX g (Ha s i) else .undef
 | [],i=>by
  simp only[rS,Ha]
  show AV.undef=if Kn K i=true then AV.undef else AV.undef
  split<;>rfl
 | (t,v)::r,i=>by
  rw[rS,Ha]
  cases b:Kn K t with
  | true =>
   simp only[cond_true,Ha]
   cases hi:Nat.beq t i with
   | true =>
    have:=Nat.eq_of_beq_eq_true hi;subst this
    simp[b]
   | false=>simp only[cond_false];exact IQ
  | false =>
   simp only[cond_false]
   rw[IQ]
   cases hi:Nat.beq t i with
   | true =>
    have:=Nat.eq_of_beq_eq_true hi;subst this
    simp[b]
   | false=>rfl
theorem zE {K:List Nat}:∀ {s:Im} {i:Nat},Kn K i=true→∀ b ∈ In (Ha s i),b ∈ yj K s
 | [],i,_,b,c=>by simp[Ha,In] at c
 | (t,v)::r,i,d,b,c=>by
  rw[Ha] at c
  rw[yj]
  cases hi:Nat.beq t i with
  | true =>
   have:=Nat.eq_of_beq_eq_true hi;subst this
   rw[hi] at c
   rw[d];simp at c ⊢;exact .inl c
  | false =>
   rw[hi] at c
   have:=zE d b c
   cases Kn K t
   ·exact this
   ·simp;exact .inr this
theorem r5 {g:Bk}:∀ {ids:List Nat} {b:Nat} {x:Blk},b ∈ ids→g b=some x→x.pure=false→∀ c ∈ Km x.cells,c ∈ Nl g ids
 | [],b,x,d,_,_,_,_=>by simp at d
 | i::r,b,x,d,f,j,c,k=>by
  rw[Nl]
  by_cases e:b=i
  ·subst e;rw[f];simp only[j,cond_false];exact List.mem_append.2 (.inl k)
  ·exact List.mem_append.2 (.inr (r5 (by simpa[e] using d) f j c k))
theorem r6:∀ {c:LA} {j:Nat} {x:AV},c[j]?=some x→∀ b ∈ In x,b ∈ Km c
 | [],j,x,d,_,_=>by simp at d
 | y::r,j,x,d,b,e=>by
  rw[Km]
  cases j with
  | zero=>simp at d;subst d;exact List.mem_append.2 (.inl e)
  | succ j=>exact List.mem_append.2 (.inr (r6 (by simpa using d) b e))
theorem tS {g:Bk}:∀ {c:LA} {j:Nat} {y:AV},(Mh g c)[j]?=some y→∃ x,c[j]?=some x∧y=FX g x
 | [],j,y,b=>by simp[Mh] at b
 | x::r,j,y,b=>by
  rw[Mh] at b
  cases j with
  | zero=>simp at b;exact⟨x,by simp,b.symm⟩
  | succ j=>obtain⟨x',d,e⟩:=tS (c:=r) (j:=j) (by simpa using b);exact⟨x',by simpa using d,e⟩
theorem A01 {b:Nat} (c:b<Ja):Nm b=b:=by
 unfold Nm
 have:Nat.ble Ja b=false:=by
  cases h:Nat.ble Ja b with
  | false=>rfl
  | true=>have:=Nat.le_of_ble_eq_true h;omega
 rw[this];rfl
theorem Aqg {K roots:List Nat} {st':St} (I:Inv Z nt J β st a w) (hh:clean K roots st=some st'):∃ β',Inv Z nt J β' st' a w:=by
 unfold clean at hh
 obtain⟨hc,h1⟩:_∧_:=uc hh
 simp only[Bool.and_eq_true] at hc
 obtain⟨c1,c2,c3,c4⟩:=hc
 generalize hids:IM (Al st.h) (FW (Al st.h) (yj K st.s++roots))=ids at *
 simp at h1
 have hn:=W4 c1
 have blk:∀ c y,Al (FY (Al st.h) ids) c=some y→∃ b x,b ∈ ids∧Nm b=c∧Al st.h b=some x∧x.dead=false∧y=Pa (Al st.h) x:=by
  intro c y m
  obtain⟨b,x,t,z,D,G⟩:=lK hn c y m
  have e:Al st.h b=some x∧x.dead=false:=Er (fun _ _ h=>h) D
  exact⟨b,x,t,z,e.1,e.2,G⟩
 have n:∀ x:Blk,(Pa (Al st.h) x).cells.length=x.cells.length:=fun x=>by
  unfold Pa;cases x.pure
  ·simp;exact F' _ _
  ·rfl
 refine⟨fun c=>(zD ids c).bind β,?_⟩
 subst h1
 refine⟨⟨I.sim.jlt,I.sim.jft,I.sim.gl,fun c y m U X=>?_,fun c y m U X=>by
   obtain⟨b,x,f,rfl,e,d,rfl⟩:=blk c y m
   obtain⟨t,z,k,ob,D,G,V,Y⟩:=I.sim.mblk b x e d X
   have:(Pa (Al st.h) x).cells=x.cells:=by unfold Pa;rw[t];rfl
   exact⟨t,z,k,ob,by simp only[Nz hn f,Option.bind_some];exact D,G,by rw[ObjIs,show(Pa (Al st.h) x).sz=x.sz from rfl,this];exact V,Y⟩,?_⟩,⟨fun i v hv=>?_,fun i hi=>?_⟩,I.tmps,I.defers,I.os,I.tape,I.output,I.size,I.frame,?_,I.jsub,I.jup,I.sizes,I.zlt,I.zge,?_⟩
 ·obtain⟨b,x,f,rfl,e,d,rfl⟩:=blk c y m
  rcases I.sim.blk b x e d X with⟨t,z⟩ | ⟨k,o,cs,ty,fr,t,z,D,G,V,Y,g7⟩
  ·refine .inl ⟨by simp only[Nz hn f,Option.bind_some];exact t,?_⟩
   have:=n x;rw[z] at this;simpa using this
  ·refine .inr ⟨k,o,cs,ty,fr,by simp only[Nz hn f,Option.bind_some];exact t,z,D,by rw[n];exact G,⟨fun hp=>?_,fun hp j q hj=>?_⟩,Y,g7⟩
   ·have l:x.pure=true:=hp
    have:(Pa (Al st.h) x).cells=x.cells:=by unfold Pa;rw[l];rfl
    rw[this];exact V.1 l
   ·have l:x.pure=false:=hp
    have:(Pa (Al st.h) x).cells=Mh (Al st.h) x.cells:=by unfold Pa;rw[l];rfl
    rw[this] at hj
    obtain⟨q',hq,rfl⟩:=tS hj
    obtain⟨u,hu,hr,ho⟩:=V.2 l j q' hq
    exact⟨u,hu,Rep.clean hn (fun L A x' C=>r4 c3 L (r5 f e l L (r6 hq L A)) x' C) hr,ho⟩
 ·intro c c' y y' k o o' m hy' U hd' hs M O
  obtain⟨b,x,f,rfl,e,d,rfl⟩:=blk c y m
  obtain⟨L,x',A,rfl,C,S,rfl⟩:=blk c' y' hy'
  simp only[Nz hn f,Option.bind_some] at M
  simp only[Nz hn A,Option.bind_some] at O
  rw[I.sim.sep b L x x' k o o' e C d S hs M O]
 ·rw[IQ]
  split
  ·rename_i hk
   exact Rep.clean hn (fun b f x e=>r4 c2 b (zE hk b f) x e) (I.ss.slot i v hv)
  ·rw[Rep];trivial
 ·rw[IQ,I.ss.out i hi]
  split
  ·rfl
  ·rfl
 ·rintro k ⟨c,y,o,m,U,hs,M⟩ hk
  obtain⟨b,x,f,rfl,e,d,rfl⟩:=blk c y m
  simp only[Nz hn f,Option.bind_some] at M
  exact I.wr k ⟨b,x,o,e,d,hs,M⟩ hk
 ·intro c x0 y h0 m U
  obtain⟨b,x,f,rfl,e,d,rfl⟩:=blk c y m
  have hlt:=I.zlt _ _ h0
  have hge:=I.zge _ _ h0
  have T:Nm b=b:=by
   by_cases hnb:Ja≤b
   ·have:=Aqf c4 b f hnb;omega
   ·exact A01 (by omega)
  rw[T] at h0
  obtain⟨⟨e1,em⟩,e2,e3,e4⟩:=I.outs b x0 x h0 e d
  refine⟨⟨?_,em⟩,e2,by rw[n];exact e3,e4⟩
  simp only[Nz hn f,Option.bind_some];rw[T];exact e1
end
end Gx

namespace Gx
open Go
section
variable {R:Type}
theorem An {α β:Type} (b:Bool) (x y:Option α) (f:α→Option β):(cond b x y).bind f=cond b (x.bind f) (y.bind f):=by cases b<;>rfl
theorem R_ {R':Type} (P:Program) (t:TypeId) (c:LA) (o:Bool) (k:Bool→Option R') (f:R'→O R):(DF P t c o k).bind f=DF P t c o fun o=>(k o).bind f:=by
 unfold DF;simp only[An,Option.bind_none]
theorem W5 (P:Program) (t:TypeId) (c:LA) (org:Bool) (k:AV→O R):Z_ P t c org k=(Z_ P t c org some).bind k:=by
 unfold Z_
 split<;>simp[Option.bind_assoc,An,R_]<;>rfl
theorem Avy (P:Program) (t:TypeId) (c:LA) (k:AV→O R):tH P t c k=(tH P t c some).bind k:=by
 unfold tH
 split<;>simp[Option.bind_assoc,An]
theorem tT (n:Nat) (k:AV→O R):∀ (c:LA) (i:Nat),RL n k c i=(RL n some c i).bind k
 | [],_=>rfl
 | v::r,i=>by rw[RL,RL,An,tT n k r (i+1)];rfl
theorem tU (P:Program) (t:TypeId) (c:LA) (off:Nat) (k:AV→O R):Z' P t c off k=(Z' P t c off some).bind k:=by
 unfold Z'
 split
 ·simp[Option.bind_assoc,An]
 ·simp[Option.bind_assoc,An]
 ·exact tT ..
 ·rfl
theorem SA (P:Program) (g:Bk) (t:TypeId) (p:AV) (k:AV→O R):yd P g t p k=(yd P g t p some).bind k:=by
 unfold yd
 split
 ·exact W5 ..
 ·rw[Option.bind_assoc]
  congr 1;funext x
  rw[An,←W5,←tU]
 ·rfl
theorem U_ (P:Program) (t:TypeId) (x i:AV) (k:AV→O R):Ww P t x i k=(Ww P t x i some).bind k:=by
 unfold Ww
 split<;>simp[Option.bind_assoc,An]
theorem U' (P:Program) (t:TypeId) (x:AV) (f:Nat) (k:AV→O R):Wx P t x f k=(Wx P t x f some).bind k:=by
 unfold Wx
 simp only[Option.bind_assoc,An]
 congr 1;funext p;congr 1;funext n;congr 1
 split<;>rfl
theorem tV (P:Program) (t:TypeId) (x:AV) (f:Nat) (k:AV→O R):rH P t x f k=(rH P t x f some).bind k:=by
 unfold rH
 rw[Option.bind_assoc]
 congr 1;funext p
 split
 ·exact W5 ..
 ·exact Avy ..
 ·rfl
theorem tW (P:Program) (t:TypeId) (x i:AV) (k:AV→O R):rI P t x i k=(rI P t x i some).bind k:=by
 unfold rI
 split
 ·simp[An]
 ·simp only[Option.bind_assoc,An,←W5];rfl
 ·simp only[Option.bind_assoc,An,←tU];rfl
 ·rfl
theorem DK {α:Type} (lo hi mx:Option AV) (n:Nat) (f:Nat→Nat→α) (k:α→O R):(DG lo hi mx n fun l h=>k (f l h))=(DG lo hi mx n fun l h=>some (f l h)).bind k:=by
 unfold DG
 simp[Option.bind_assoc,An]
theorem tX (P:Program) (g:Bk) (t:TypeId) (x:AV) (lo hi mx:Option AV) (k:AV→O R):rJ P g t x lo hi mx k=(rJ P g t x lo hi mx some).bind k:=by
 unfold rJ
 split
 ·rw[An,←DK];rfl
 ·rw[Option.bind_assoc];congr 1;funext _;exact DK lo hi mx 0 (fun _ _=>AV.nsl) k
 ·rw[Option.bind_assoc];congr 1;funext _;rw[An,←DK];rfl
 ·rw[Option.bind_assoc];congr 1;funext _;rw[Option.bind_assoc];congr 1;funext _;rw[An,←DK];rfl
 ·rfl
theorem A02 (P:Program) (t:TypeId) (op:BinOp) (x y:AV) (k:AV→O R):A0q P t op x y k=(A0q P t op x y some).bind k:=by
 unfold A0q
 split
 ·split<;>simp[An]
 ·split<;>simp[An]
 ·split<;>simp[An]
 ·rfl
def pr (v:AV) (u:Fx):Option (AV×Fx):=some (v,u)
theorem Aqh (P:Program) (g:Bk) (t:TypeId) (p v:AV) (k:AV→Fx→O R):rK P g t p v k=(rK P g t p v pr).bind fun q=>k q.1 q.2:=by
 unfold rK
 split
 ·simp only[Option.bind_assoc,An]
  congr 1;funext x;congr 1;funext n;congr 1;congr 1
  split<;>simp[An,pr]
 ·rfl
theorem lM (P:Program) (c:LA) (org:Bool):∀ (L:List (Nat×TypeId)) (acc:LA) (k:LA→O R),mM P c org L acc k=(mM P c org L acc some).bind k
 | [],acc,k=>rfl
 | (off,t)::L,acc,k=>by
  rw[mM,mM,An]
  congr 1
  rw[W5,W5 (k:=fun v=>mM P c org L (acc++[v]) some),Option.bind_assoc]
  congr 1;funext v
  exact lM P c org L _ k
theorem tY (P:Program) (co:Bool) (t:TypeId) (v:AV) (k:AV→O R):rM P co t v k=(rM P co t v some).bind k:=by
 unfold rM
 split
 ·rename_i c org
  rw[lM,lM (k:=fun l=>cond (Nat.beq c.length l.length) (some (AV.agg l)) none),Option.bind_assoc]
  congr 1;funext l
  rw[An];rfl
 ·rfl
theorem Ail (P:Program) (g:Bk) (d:Nat) (t:TypeId) (v:AV) (k:AV→Fx→O R):Aps P g d t v k=(Aps P g d t v pr).bind fun q=>k q.1 q.2:=by
 unfold Aps
 split<;>simp[Option.bind_assoc,An,pr]
theorem r7 (P:Program) (g:Bk) (d:Nat) (t:TypeId) (len:Nat) (ps:List (Nat×AV)) (k:AV→Fx→O R):T1 P g d t len ps k=(T1 P g d t len ps pr).bind fun q=>k q.1 q.2:=by
 unfold T1
 split<;>simp[Option.bind_assoc,An,pr,NS]
theorem xZ (P:Program) (g:Bk) (d:Nat) (t:TypeId) (len:Nat) (ps:List (Nat×AV)) (k:AV→Fx→O R):Wy P g d t len ps k=(Wy P g d t len ps pr).bind fun q=>k q.1 q.2:=by
 unfold Wy
 split<;>simp[Option.bind_assoc,An,pr]
theorem A03 (P:Program) (t:TypeId) (co:Bool) (d:Nat) (v:AV) (k:AV→Fx→O R):A0r P t co d v k=(A0r P t co d v pr).bind fun q=>k q.1 q.2:=by
 unfold A0r
 split<;>simp[An,pr]
theorem Avz (P:Program) (d:Nat) (t:TypeId) (l c:AV) (k:AV→Fx→O R):Ah9 P d t l c k=(Ah9 P d t l c pr).bind fun q=>k q.1 q.2:=by
 unfold Ah9
 split<;>simp[Option.bind_assoc,An,pr]
theorem Als (P:Program) (g:Bk) (d:Nat) (t tx:TypeId) (s x:AV) (k:AV→Fx→O R):fX P g d t tx s x k=(fX P g d t tx s x pr).bind fun q=>k q.1 q.2:=by
 unfold fX lB
 split<;>simp[Option.bind_assoc,An,pr,R_]
theorem Av0 (P:Program) (g:Bk) (t:TypeId) (s x:AV) (k:AV→Fx→O R):Aia P g t s x k=(Aia P g t s x pr).bind fun q=>k q.1 q.2:=by
 unfold Aia lB
 split<;>simp[Option.bind_assoc,An,pr,R_]
theorem Alt (P:Program) (g:Bk) (d:Nat) (t:TypeId) (k:AV→Fx→O R):fW P g d t k=(fW P g d t pr).bind fun q=>k q.1 q.2:=by
 unfold fW
 split<;>simp[An,pr]
theorem Aqi (P:Program) (g:Bk) (t:TypeId) (s:AV) (k:AV→Fx→O R):rN P g t s k=(rN P g t s pr).bind fun q=>k q.1 q.2:=by
 unfold rN
 split<;>simp[Option.bind_assoc,An,pr]
theorem Av1 (P:Program) (g:Bk) (d:Nat) (src dst:TypeId) (x:AV) (k:AV→Fx→O R):Aib P g d src dst x k=(Aib P g d src dst x pr).bind fun q=>k q.1 q.2:=by
 unfold Aib
 split
 ·split<;>simp[An,pr]
 ·split
  ·split<;>simp[pr]
  ·split
   ·split<;>simp[Option.bind_assoc,pr]
   ·rfl
  ·rfl
 ·split
  ·rw[An,Option.bind_assoc];simp only[An];rfl
  ·rfl
  ·rfl
 ·rfl
theorem Aqj (P:Program) (g:Bk) (d:Nat) (src dst:TypeId) (x:AV) (k:AV→Fx→O R):rO P g d src dst x k=(rO P g d src dst x pr).bind fun q=>k q.1 q.2:=by
 unfold rO
 split
 ·split
  ·simp only[Option.bind_assoc,An];rfl
  ·rfl
 ·split
  ·simp only[Option.bind_assoc,An];rfl
  ·rfl
 ·exact Av1 ..
theorem x5 (g:Bk) (x:AV) (k:AV→Fx→O R):Wz g x k=(Wz g x pr).bind fun q=>k q.1 q.2:=by
 unfold Wz
 split
 ·rfl
 ·simp only[Option.bind_assoc,An];rfl
 ·rfl
theorem x6 (P:Program) (g:Bk) (t:TypeId) (x n:AV) (k:AV→Fx→O R):W0 P g t x n k=(W0 P g t x n pr).bind fun q=>k q.1 q.2:=by
 unfold W0
 split
 ·rw[An];rfl
 ·simp only[Option.bind_assoc]
  congr 1;funext y;congr 1;funext q
  split
  ·simp only[Option.bind_assoc,An];rfl
  ·rfl
 ·rfl
theorem lN {R':Type} {f:R'→O R} {s1:TypeId→LA→LA→(Bool→Option R')→Option R'} {s2:TypeId→LA→LA→(Bool→O R)→O R} (hs:∀ t x y k,(s1 t x y k).bind f=s2 t x y fun b=>(k b).bind f) {x y:LA} :
  ∀ (l:List (Nat×TypeId)) (k:Bool→Option R'),(NI s1 x y l k).bind f=NI s2 x y l fun b=>(k b).bind f
 | [],k=>rfl
 | (o,t)::r,k=>by
  rw[NI,NI,hs]
  congr 1;funext b
  exact lN hs r _
theorem f8 {R':Type} {f:R'→O R} (P:Program):∀ (d:Nat) (t:TypeId) (x y:LA) (k:Bool→Option R'),(xX P d t x y k).bind f=xX P d t x y fun b=>(k b).bind f
 | 0,t,x,y,k=>rfl
 | d+1,t,x,y,k=>by
  rw[xX,xX]
  split<;>simp only[Option.bind_assoc,An,Option.bind_none]
  ·congr 1;funext sz;rw[lN (f8 P d)]
  ·congr 1;funext s;congr 1;funext sz;rw[lN (f8 P d)]
theorem Av2 (P:Program) (t:TypeId) (op:BinOp) (x y:AV) (k:AV→O R):Ah6 P t op x y k=(Ah6 P t op x y some).bind k:=by
 unfold Ah6
 split
 ·rw[Option.bind_assoc]
  congr 1;funext s
  rw[An]
  congr 1
  split
  ·rw[f8];rfl
  ·rw[f8];rfl
  ·rfl
 ·exact A02 ..
theorem zF (P:Program) (g:Bk) (t:TypeId) (op:BinOp) (x y:AV) (k:AV→O R):Aie P g t op x y k=(Aie P g t op x y some).bind k:=by
 unfold Aie
 split
 ·rw[An];congr 1;split<;>rfl
 ·exact Av2 ..
theorem zG (c x y:AV) (k:AV→O R):Aig c x y k=(Aig c x y some).bind k:=by
 unfold Aig
 split<;>first | rfl | (rw[An];rfl)
theorem Aqk (P:Program) (g:Bk) (co:Bool) (d:Nat) (t:TypeId) (k:AV→Fx→O R):rL P g co d t k=(rL P g co d t pr).bind fun q=>k q.1 q.2:=by
 unfold rL
 split
 ·rw[Option.bind_assoc];rfl
 ·exact Ail ..
 ·rfl
theorem zH:∀ (T:List (Nat×Tw)) (f:Nat) (b:LA) (h:Ai) (k:AV→Ai→O R),mN T f b h k=(mN T f b h fun v h'=>some (v,h')).bind fun p=>k p.1 p.2
 | [],f,b,h,k=>rfl
 | (g,t)::r,f,b,h,k=>by
  rw[mN,mN]
  cases Nat.beq g f
  ·exact zH r f b h k
  ·exact t.eq b h k
theorem Av3 (E:Env) (g:Bk) (d f:Nat) (b:LA) (k:AV→Fx→O R):Aif E g d f b k=(Aif E g d f b pr).bind fun q=>k q.1 q.2:=by
 unfold Aif
 rw[Option.bind_assoc]
 congr 1;funext q
 simp only[An,Option.bind_none]
 congr 1
 rw[zH,zH (R:=AV×Fx),Option.bind_assoc]
 congr 1;funext p
 simp only[An,Option.bind_none,pr,Option.bind_some]
theorem Afj (d:Nat) (o:Option AV) (k:AV→Fx→O R):FV d o k=(FV d o pr).bind fun q=>k q.1 q.2:=by
 unfold FV
 split<;>rfl
theorem Aql (P:Program) (g:Bk) (t:TypeId) (m x y:AV) (k:AV→Fx→O R):rP P g t m x y k=(rP P g t m x y pr).bind fun q=>k q.1 q.2:=by
 unfold rP
 split<;>simp[An,Option.bind_assoc,pr]
theorem Aqm (P:Program) (d:Nat) (t:TypeId) (x:AV) (k:AV→Fx→O R):rQ P d t x k=(rQ P d t x pr).bind fun q=>k q.1 q.2:=by
 unfold rQ
 split<;>rfl
theorem Av4 (g:Bk) (it:AV) (b:Bool) (k:AV→Fx→O R):Aid g it b k=(Aid g it b pr).bind fun q=>k q.1 q.2:=by
 unfold Aid
 split
 ·rw[Option.bind_assoc];congr 1;funext x
  rw[An];congr 1
  split
  ·rename_i s p _
   cases decide (p<(s.length:Int))<;>rfl
  ·rfl
 ·rfl
theorem zI (P:Program) (g:Bk) (t:TypeId) (m x:AV) (c:Bool) (k:AV→O R):Aic P g t m x c k=(Aic P g t m x c some).bind k:=by
 unfold Aic
 split<;>simp[An,Option.bind_assoc]
theorem A04 (E:Env) (g:Bk) (d:Nat) (v:Operand→AV) (o:Op) (k:AV→Fx→O R):Afe E g d v o k=(Afe E g d v o pr).bind fun q=>k q.1 q.2:=by
 unfold Afe
 split
 ·rfl
 ·rfl
 ·rw[zG,zG (k:=fun r=>pr r []),Option.bind_assoc];rfl
 ·rw[An,←Alt,←Aqk]
 ·rw[tY,tY (k:=fun u=>Aps E.P g d _ u pr),Option.bind_assoc];congr 1;funext u;exact Ail ..
 ·rw[lG,lG,Option.bind_assoc];congr 1;funext x;exact A03 ..
 ·rw[An,←xZ,←r7]
 ·rw[SA,SA (k:=fun r=>pr r []),Option.bind_assoc];rfl
 ·exact Aqh ..
 ·split<;>rfl
 ·rw[zF,zF (k:=fun r=>pr r []),Option.bind_assoc];rfl
 ·rw[Option.bind_assoc];rfl
 ·exact Aqj ..
 ·rw[An];rfl
 ·exact Avz ..
 ·rw[tX,tX (k:=fun r=>pr r []),Option.bind_assoc];rfl
 ·rw[U',U' (k:=fun r=>pr r []),Option.bind_assoc];rfl
 ·rw[tV,tV (k:=fun r=>pr r []),Option.bind_assoc];rfl
 ·rw[U_,U_ (k:=fun r=>pr r []),Option.bind_assoc];rfl
 ·rw[tW,tW (k:=fun r=>pr r []),Option.bind_assoc];rfl
 ·exact Afj ..
 ·exact Aql ..
 ·rw[zI,zI (k:=fun r=>pr r []),Option.bind_assoc];rfl
 ·exact Aqm ..
 ·exact Av4 ..
 ·split
  ·rw[Option.bind_assoc];rfl
  ·rfl
 ·split
  ·split
   ·rw[Option.bind_assoc];rfl
   ·rfl
  ·split
   ·exact Als ..
   ·rfl
  ·split
   ·exact Av0 ..
   ·rfl
  ·split
   ·exact Aqi ..
   ·rfl
  ·split
   ·rw[Option.bind_assoc];rfl
   ·simp only[Option.bind_assoc];rfl
   ·rfl
  ·split
   ·rw[Option.bind_assoc];rfl
   ·simp only[Option.bind_assoc];rfl
   ·rfl
  ·split
   ·exact x5 ..
   ·rfl
  ·split
   ·exact x6 ..
   ·rfl
  ·split
   ·rw[An,←Av3,An];congr 1;congr 1
    split<;>rfl
   ·rfl
  ·rfl
 ·rfl
end
end Gx

namespace Gx
open Go
theorem NU:∀ {l acc:List Nat} {b:Nat},b ∈ tK l acc↔b ∈ l∨b ∈ acc
 | [],acc,b=>by simp[tK]
 | i::r,acc,b=>by
  rw[tK]
  cases c:Kn acc i with
  | true =>
   simp only[cond_true]
   rw[NU]
   have:=Nn.1 c
   constructor
   ·rintro(h | h)
    ·exact .inl (by simp[h])
    ·exact .inr h
   ·rintro(h | h)
    ·rcases List.mem_cons.1 h with e | h
     ·subst e;exact .inr this
     ·exact .inl h
    ·exact .inr h
  | false =>
   simp only[cond_false]
   rw[NU]
   simp only[List.mem_cons]
   constructor
   ·rintro(h | h | h)
    ·exact .inl (.inr h)
    ·exact .inl (.inl h)
    ·exact .inr h
   ·rintro((h | h) | h)
    ·exact .inr (.inl h)
    ·exact .inl h
    ·exact .inr (.inr h)
theorem IR {g g':Bk}:∀ {l:List Nat},(∀ b ∈ l,g' b=g b)→Nl g' l=Nl g l
 | [],_=>rfl
 | i::r,h=>by
  rw[Nl,Nl,h i (by simp),IR (fun b c=>h b (by simp[c]))]
theorem mY {g:Bk}:∀ {a b:List Nat},Nl g (a++b)=Nl g a++Nl g b
 | [],b=>rfl
 | i::r,b=>by rw[List.cons_append,Nl,Nl,mY,List.append_assoc]
theorem Aqn {g g':Bk} {ids:List Nat} (h:∀ b ∈ FW g ids,g' b=g b):FW g' ids=FW g ids:=by
 have d:∀ b ∈ ids,g' b=g b:=fun b c=>h b (NU.2 (.inl (List.mem_append.2 (.inl c))))
 have e1:Nl g' ids=Nl g ids:=IR d
 have e:∀ b ∈ Nl g ids,g' b=g b:=fun b c=>h b (NU.2 (.inl (List.mem_append.2 (.inr (by rw[mY];exact List.mem_append.2 (.inl c))))))
 unfold FW
 rw[e1,IR (l:=ids++Nl g ids) (fun b c=>by
  rcases List.mem_append.1 c with c | c
  ·exact d b c
  ·exact e b c)]
section
variable {R:Type} {E:Env} {ops:Array Oper} {o p:Oper} {st Azw st2:St}
theorem tZ {v v':Operand→AV} {parts:Array (Nat×Operand)} (h:∀ q ∈ parts.toList,v' q.2=v q.2):(parts.toList.map fun q=>(q.1,v' q.2))=(parts.toList.map fun q=>(q.1,v q.2)) :=
 List.map_congr_left (fun q hq=>by rw[h q hq])
theorem Av5 {g:Bk} {d:Nat} {v v':Operand→AV} {op:Op} {k:AV→Fx→O R} (h:∀ x ∈ op.operands.toList,v' x=v x):Afe E g d v' op k=Afe E g d v op k:=by
  unfold Afe
  cases op
  case build t parts =>
    simp only
    rw[tZ (v:=v) (v':=v') (fun q hq=>h q.2 (by simp[Op.operands];exact⟨q.1,by simpa using hq⟩))]
  case buildSlice t n parts =>
    simp only
    rw[tZ (v:=v) (v':=v') (fun q hq=>h q.2 (by simp[Op.operands];exact⟨q.1,by simpa using hq⟩))]
  case slice t x lo hi mx =>
    simp only
    have e:v' x=v x:=h x (by simp[Op.operands])
    have l:lo.map v'=lo.map v:=by
      cases lo with
      | none=>rfl
      | some y=>simp;exact h y (by simp[Op.operands])
    have m:hi.map v'=hi.map v:=by
      cases hi with
      | none=>rfl
      | some y=>simp;exact h y (by simp[Op.operands])
    have s:mx.map v'=mx.map v:=by
      cases mx with
      | none=>rfl
      | some y=>simp;exact h y (by simp[Op.operands])
    rw[e,l,m,s]
  case makeMap t rr =>
    simp only
    have e:rr.map v'=rr.map v:=by
      cases rr with
      | none=>rfl
      | some y=>simp;exact h y (by simp[Op.operands])
    rw[e]
  case makeFunc f first caps =>
    cases f<;>try rfl
    simp only
    have:(first.toList++caps.toList).map v'=(first.toList++caps.toList).map v:=List.map_congr_left (fun x j=>h x (by simp[Op.operands];simpa using j))
    rw[this]
  case call c =>
    have i:∀ x ∈ c.args.toList,v' x=v x:=fun x j=>h x (by
      simp only[Op.operands,Call.operands,Array.toList_append]
      exact List.mem_append.2 (.inr j))
    have u:c.args.toList.map v'=c.args.toList.map v:=List.map_congr_left i
    simp only
    cases z:c.callee with
    | value f =>
      have A:v' f=v f:=h f (by simp[Op.operands,Call.operands,z])
      simp only[A,u]
    | invoke a b=>rfl
    | builtin b =>
      cases b<;>try rfl
      all_goals
        simp only
        split
        · first
            | (rename_i e l
               simp only[e,List.mem_cons,List.not_mem_nil,or_false,forall_eq_or_imp,forall_eq] at i
               simp only[i])
            | (rename_i e
               simp only[e,List.mem_cons,List.not_mem_nil,or_false,forall_eq_or_imp,forall_eq] at i
               simp only[i])
        all_goals first
          | rfl
          | (rename_i e
             simp only[e,List.mem_cons,List.not_mem_nil,or_false,forall_eq_or_imp,forall_eq] at i
             simp only[i])
  all_goals first
    | rfl
    | (simp[Op.operands] at h;simp[h])
end
end Gx

namespace Gx
open Go
section
variable {R:Type} {E:Env} {ops:Array Oper} {o p:Oper} {st Azw st2 st3:St}
def Azx (ops:Array Oper) (o:Oper):List Nat:=match fY ops o with | some p=>[p.1] | none=>[]
def MC (o:Oper) (s:Im):LA:=o.op.operands.toList.map (ev s)
def Alu (h:Ai) (F:List Nat):Bk:=fun b=>cond (Kn F b) (Al h b) none
def A9j (o:Oper):Nat:=o.dst.getD 50000
def Wd (E:Env) (ops:Array Oper) (o:Oper) (st:St):Option (AV×Fx×Foot) :=
  (RO ops st.s o).bind fun wanted=>cond wanted
    ((Afe E (Alu st.h (BF st.h o.op (MC o st.s))) (A9j o) (ev st.s) o.op pr).bind fun q =>
      cond (iG (A9j o) (BF st.h o.op (MC o st.s)) st.h q.2) (some (q.1,q.2,{ r:=Azx ops o++lE o.op.operands.toList,w:=o.dst,f:=BF st.h o.op (MC o st.s),u:=q.2.map (·.1) })) none)
    (some (.tup [],[],{ r:=Azx ops o,w:=o.dst,f:=[],u:=[] }))
def after (E:Env) (o:Oper) (st:St) (q:AV×Fx×Foot):St:={ s:=Avl E.nt st.s o.dst q.1,h:=Ak q.2.1 st.h }
theorem f_ (k:St→Foot→O R):Apv E ops o st k=(Wd E ops o st).bind fun q=>k (after E o st q) q.2.2:=by
 unfold Apv Wd
 rw[Option.bind_assoc]
 congr 1;funext t
 rw[An]
 congr 1
 rw[A04,Option.bind_assoc]
 congr 1;funext q
 rw[An]
 rfl
theorem zJ:∀ {l:List Operand} {t:Nat},Operand.tmp t ∈ l→t ∈ lE l
 | [],t,h=>by simp at h
 | x::r,t,h=>by
  rcases List.mem_cons.1 h with e | h'
  ·subst e;simp[lE]
  ·have b:=zJ h'
   cases x<;>simp[lE]<;>first | exact .inr b | exact b
theorem t6 {d:Nat} {F:List Nat} {h e:Ai}:∀ {ups:Fx},(∀ b ∈ ups.map (·.1),Al e b=Al h b)→iG d F e ups=iG d F h ups
 | [],_=>rfl
 | (b,_)::r,f=>by rw[iG,iG,f b (by simp),t6 (fun c i=>f c (by simp at i ⊢;exact .inr i))]
theorem iN {s s2:Im} (h:∀ t ∈ Azx ops o,Ha s2 t=Ha s t):RO ops s2 o=RO ops s o:=by
 unfold RO
 cases b:o.guard with
 | none=>rfl
 | some q =>
  obtain⟨j,want⟩:=q
  simp only
  cases c:(ops[j]?).bind (·.dst) with
  | none=>rfl
  | some t =>
   have:Ha s2 t=Ha s t:=h t (by simp[Azx,fY,b,c])
   simp only[this]
theorem aN {q:AV×Fx×Foot} (k:Wd E ops o st=some q) (hr:∀ t ∈ q.2.2.r,Ha st2.s t=Ha st.s t) (c:∀ b,b ∈ q.2.2.f∨b ∈ q.2.2.u→Al st2.h b=Al st.h b):Wd E ops o st2=some q:=by
 have z:=k
 unfold Wd at k
 obtain⟨t,i,j⟩:=ub k
 cases t with
 | false =>
  simp at j;subst j
  unfold Wd
  rw[iN (s:=st.s) hr,i];rfl
 | true =>
  rw[cond_true] at j
  obtain⟨x,A,C⟩:=ub j
  obtain⟨D,n⟩:=uc C
  simp at n;subst n
  simp only at hr c
  have v:∀ y ∈ o.op.operands.toList,ev st2.s y=ev st.s y:=fun y F=>by
   cases y with
   | tmp t=>exact hr t (List.mem_append.2 (.inr (zJ F)))
   | const _=>rfl
   | global _=>rfl
   | func _=>rfl
  have d:MC o st2.s=MC o st.s:=List.map_congr_left v
  have hF:BF st2.h o.op (MC o st.s)=BF st.h o.op (MC o st.s):=by
   unfold BF at c ⊢
   cases l:Azo o.op with
   | true =>
    rw[l] at c
    cases m:Azp o.op with
    | true=>rfl
    | false=>rw[m] at c;exact Aqn (fun b e=>c b (.inl e))
   | false=>rfl
  have G:Alu st2.h (BF st.h o.op (MC o st.s))=Alu st.h (BF st.h o.op (MC o st.s)):=by
   funext b
   unfold Alu
   cases e:Kn (BF st.h o.op (MC o st.s)) b with
   | false=>rfl
   | true=>simp only[cond_true];exact c b (.inl (Nn.1 e))
  unfold Wd
  rw[iN (s:=st.s) (fun t i=>hr t (List.mem_append.2 (.inl i))),i]
  simp only[Option.bind_some,cond_true]
  rw[d,hF,G,Av5 v,A]
  simp only[Option.bind_some]
  rw[t6 (h:=st.h) (fun b e=>c b (.inr e)),D]
  rfl
theorem fa:∀ {ups:Fx} {b:Nat},Be ups b=true↔b ∈ ups.map (·.1)
 | [],b=>by simp[Be]
 | (i,_)::r,b=>by
  rw[Be]
  cases hi:Nat.beq i b with
  | true=>have:=Nat.eq_of_beq_eq_true hi;subst this;simp
  | false =>
   have ne:=BU hi
   simp only[cond_false]
   rw[fa]
   simp only[List.map_cons,List.mem_cons]
   constructor
   ·exact fun h=>.inr h
   ·rintro(h | h)
    ·exact absurd h.symm ne
    ·exact h
theorem Azy {q:AV×Fx×Foot} (c:Wd E ops o st=some q):q.2.2.w=o.dst∧q.2.2.u=q.2.1.map (·.1):=by
 unfold Wd at c
 obtain⟨t,f,b⟩:=ub c
 cases t with
 | false=>simp at b;subst b;simp
 | true =>
  rw[cond_true] at b
  obtain⟨x,i,e⟩:=ub b
  obtain⟨j,d⟩:=uc e
  simp at d;subst d;simp
theorem Io:∀ (ups:Fx) {h e:Ai},(∀ b,Al e b=Al h b)→∀ b,Al (Ak ups e) b=Al (Ak ups h) b
 | [],_,_,d,b=>d b
 | (i,some x)::r,h,e,d,b=>Io r (fun c=>by rw[Ag,Ag,d c]) b
 | (i,none)::r,h,e,d,b=>by
  rw[Ak,Ak]
  refine Io r (fun c=>?_) b
  rw[d i]
  split
  ·rw[Ag,Ag,d c]
  ·exact d c
theorem Aqo {q:AV×Fx×Foot} (h:Eqv st st2):Eqv (after E o st q) (after E o st2 q):=by
 refine⟨fun t=>?_,fun b=>?_⟩
 ·unfold after;simp only;rw[Qr,Qr,h.1 t]
 ·exact(Io q.2.1 (fun b=>(h.2 b).symm) b).symm
theorem Ux {i:Nat} {y:Blk}:∀ (ups:Fx) {h:Ai},Be ups i=false→∀ b,Al (Ak ups (Gf h i y)) b=if b=i then some y else Al (Ak ups h) b
 | [],h,_,b=>Ag h i y b
 | (j,some x)::r,h,hi,b=>by
  rw[Be] at hi
  cases d:Nat.beq j i with
  | true=>rw[d] at hi;simp at hi
  | false =>
   rw[d] at hi
   have ne:=BU d
   rw[Ak,Ak,Io r (h:=Gf (Gf h j x) i y) (fun c=>by
    rw[Ag,Ag,Ag,Ag]
    by_cases e1:c=j
    ·subst e1;simp[ne]
    ·simp[e1]) b]
   exact Ux r hi b
 | (j,none)::r,h,hi,b=>by
  rw[Be] at hi
  cases d:Nat.beq j i with
  | true=>rw[d] at hi;simp at hi
  | false =>
   rw[d] at hi
   have ne:=BU d
   rw[Ak,Ak,Ag,if_neg ne]
   split
   ·rename_i x e
    rw[Io r (h:=Gf (Gf h j { x with dead:=true,pure:=true,cells:=[] }) i y) (fun c=>by
     rw[Ag,Ag,Ag,Ag]
     by_cases e1:c=j
     ·subst e1;simp[ne]
     ·simp[e1]) b]
    exact Ux r hi b
   ·exact Ux r hi b
theorem Yg:∀ (u1 u2:Fx) (h:Ai),(∀ b,Be u1 b=true→Be u2 b=false)→∀ b,Al (Ak u2 (Ak u1 h)) b=Al (Ak u1 (Ak u2 h)) b
 | [],u2,h,_,b=>rfl
 | (i,some x)::r,u2,h,d,b=>by
  rw[Ak,Ak]
  have hi:Be u2 i=false:=d i (by simp[Be])
  rw[Yg r u2 (Gf h i x) (fun c e=>d c (by rw[Be,e];cases Nat.beq i c<;>rfl)) b]
  refine Io r (fun c=>?_) b
  rw[Ux u2 hi,Ag]
 | (i,none)::r,u2,h,d,b=>by
  rw[Ak,Ak]
  have hi:Be u2 i=false:=d i (by simp[Be])
  rw[C4 u2 h i hi]
  split
  ·rename_i x f
   rw[Yg r u2 _ (fun c e=>d c (by rw[Be,e];cases Nat.beq i c<;>rfl)) b]
   refine Io r (fun c=>?_) b
   rw[Ux u2 hi,Ag]
  ·exact Yg r u2 h (fun c e=>d c (by rw[Be,e];cases Nat.beq i c<;>rfl)) b
theorem zK:∀ {a l:List Nat},Apu a l=true→∀ b ∈ a,b ∉ l
 | [],l,_,b,c=>by simp at c
 | i::r,l,h,b,c=>by
  rw[Apu] at h;simp at h
  rcases List.mem_cons.1 c with e | c
  ·subst e;intro d;rw[Nn.2 d] at h;simp at h
  ·exact zK h.2 b c
theorem zL {q:AV×Fx×Foot} {t:Nat} (h:o.dst≠some t):Ha (after E o st q).s t=Ha st.s t:=by
 unfold after;simp only;rw[Qr,if_neg (fun b=>h b.1)]
theorem zM {q:AV×Fx×Foot} {b:Nat} (h:b ∉ q.2.1.map (·.1)):Al (after E o st q).h b=Al st.h b:=by
 unfold after;simp only
 rw[C4]
 cases hi:Be q.2.1 b with
 | false=>rfl
 | true=>exact absurd (fa.1 hi) h
theorem Aim {w:Option Nat} {l:List Nat} (h:A8u w l=false):∀ t ∈ l,w≠some t:=by
 intro t b e
 subst e
 rw[A8u,Nn.2 b] at h;cases h
theorem A8z {f d:AV×Fx×Foot} (m:Wd E ops p st=some f) (n:Wd E ops o (after E p st f)=some d) (hi:tL f.2.2 d.2.2=true) :
  Wd E ops o st=some d∧Wd E ops p (after E o st d)=some f∧Eqv (after E p (after E o st d) f) (after E o (after E p st f) d):=by
 unfold tL at hi
 simp only[Bool.and_eq_true,Bool.not_eq_true'] at hi
 obtain⟨⟨⟨⟨i1,i2⟩,i3⟩,i4⟩,i5⟩:=hi
 obtain⟨q,u1⟩:=Azy m
 obtain⟨s,u2⟩:=Azy n
 have k:=zK i4
 have v:=zK i5
 have a1:Wd E ops o st=some d:=aN n (fun t l=>(zL (by rw[←q];exact Aim i1 t l)).symm) (fun b e=>(zM (fun j=>by
  rw[←u1] at j
  exact k b j (by rcases e with e | e<;>simp[e]))).symm)
 have a2:Wd E ops p (after E o st d)=some f:=aN m (fun t l=>zL (by rw[←s];exact Aim i2 t l)) (fun b e=>zM (fun j=>by
  rw[←u2] at j
  rcases e with e | e
  ·exact v b j e
  ·exact k b e (by simp[j])))
 refine⟨a1,a2,fun t=>?_,fun b=>?_⟩
 ·unfold after;simp only
  rw[Qr,Qr,Qr,Qr]
  by_cases e1:p.dst=some t∧t<E.nt
  ·by_cases i:o.dst=some t∧t<E.nt
   ·exfalso
    rw[q,s,e1.1,i.1] at i3
    simp at i3
   ·rw[if_pos e1,if_neg i,if_pos e1]
  ·by_cases i:o.dst=some t∧t<E.nt
   ·rw[if_neg e1,if_pos i,if_pos i]
   ·rw[if_neg e1,if_neg i,if_neg i,if_neg e1]
 ·unfold after;simp only
  refine(Yg f.2.1 d.2.1 st.h (fun c x=>?_) b).symm
  cases y:Be d.2.1 c with
  | false=>rfl
  | true =>
   have m1:c ∈ f.2.2.u:=by rw[u1];exact fa.1 x
   have m2:c ∈ d.2.2.u:=by rw[u2];exact fa.1 y
   exact absurd (by simp[m2]) (k c m1)
def RunF (E:Env) (ops:Array Oper) (fp:Nat→Foot):List (Nat×Oper)→St→St→Prop
 | [],st,e=>Eqv st e
 | (i,o)::r,st,e=>∃ q,Wd E ops o st=some q∧q.2.2=fp i∧RunF E ops fp r (after E o st q) e
theorem RunF.congr {fp:Nat→Foot}:∀ {l:List (Nat×Oper)} {st st2 e:St},RunF E ops fp l st e→Eqv st st2→RunF E ops fp l st2 e
 | [],st,st2,e,h,c=>c.symm.trans h
 | (i,o)::r,st,st2,e,h,c=>by
  rw[RunF] at h ⊢
  obtain⟨q,d,f,j⟩:=h
  exact⟨q,aN d (fun t _=>(c.1 t).symm) (fun b _=>(c.2 b).symm),f,RunF.congr j (Aqo c)⟩
theorem RunF.pull {fp:Nat→Foot} {i:Nat} {o:Oper} {B:List (Nat×Oper)}:∀ {A:List (Nat×Oper)} {st e:St},RunF E ops fp (A++(i,o)::B) st e→(∀ jp ∈ A,tL (fp jp.1) (fp i)=true) →
  ∃ q,Wd E ops o st=some q∧q.2.2=fp i∧RunF E ops fp (A++B) (after E o st q) e
 | [],st,e,h,_=>h
 | (j,p)::A,st,e,h,hA=>by
  rw[List.cons_append,RunF] at h
  obtain⟨b,k,c,l⟩:=h
  obtain⟨d,m,f,n⟩:=RunF.pull l (fun jp s=>hA jp (by simp[s]))
  have hi:tL b.2.2 d.2.2=true:=by rw[c,f];exact hA (j,p) (by simp)
  obtain⟨a1,a2,a3⟩:=A8z k m hi
  refine⟨d,a1,f,?_⟩
  rw[List.cons_append,RunF]
  exact⟨b,a2,c,RunF.congr n a3.symm⟩
end
end Gx

namespace Gx
open Go
def Azz:Nat→List Oper→List (Nat×Oper)
 | _,[]=>[]
 | n,o::r=>(n,o)::Azz (n+1) r
theorem yQ:∀ {l:List Oper} {n:Nat} {p:Nat×Oper},p ∈ Azz n l↔n≤p.1∧l[p.1 - n]?=some p.2
 | [],n,p=>by simp[Azz]
 | o::r,n,p=>by
  rw[Azz,List.mem_cons,yQ]
  constructor
  ·rintro(rfl | ⟨d,c⟩)
   ·simp
   ·refine⟨by omega,?_⟩
    rw[show p.1 - n=(p.1 - (n+1))+1 by omega];simpa using c
  ·rintro⟨d,c⟩
   by_cases e:p.1=n
   ·left
    rw[e] at c;simp at c
    obtain⟨a,b⟩:=p
    simp at e c;subst e c;rfl
   ·right
    refine⟨by omega,?_⟩
    rw[show p.1 - n=(p.1 - (n+1))+1 by omega] at c;simpa using c
theorem zN:∀ (l:List Oper) (n:Nat),(Azz n l).Pairwise (fun a b=>a.1<b.1)
 | [],n=>List.Pairwise.nil
 | o::r,n=>by
  rw[Azz]
  refine List.pairwise_cons.2 ⟨fun p c=>?_,zN r (n+1)⟩
  have:=(yQ.1 c).1
  show n<p.1;omega
section
variable {R:Type} {r:R} {Z:Start} {E:Env} {ops:Array Oper}
def RunL (E:Env) (ops:Array Oper):List Oper→List Foot→St→St→Prop
 | [],[],st,e=>st=e
 | o::l,f::fs,st,e=>∃ st' q,Eqv st st'∧Wd E ops o st'=some q∧q.2.2=f∧RunL E ops l fs (after E o st' q) e
 | _,_,_,_=>False
theorem Aqp:∀ {l:List Oper} {st:St} {tr:List Foot} {k:St→List Foot→O R},yi E ops l st tr k=some r→∃ fs e,k e (fs.reverse++tr)=some r∧RunL E ops l fs st e
 | [],st,tr,k,h=>⟨[],st,by simpa[yi] using h,rfl⟩
 | o::l,st,tr,k,h=>by
  rw[yi] at h
  obtain⟨st',b,h⟩:=zB h
  rw[f_] at h
  obtain⟨q,c,d⟩:=ub h
  obtain⟨fs,e,f,i⟩:=Aqp d
  exact⟨q.2.2::fs,e,by simpa using f,st',q,b,c,rfl,i⟩
theorem RunL.length:∀ {l:List Oper} {fs:List Foot} {st e:St},RunL E ops l fs st e→fs.length=l.length
 | [],[],_,_,_=>rfl
 | [],_::_,_,_,h=>h.elim
 | _::_,[],_,_,h=>h.elim
 | o::l,f::fs,st,e,⟨_,q,_,_,_,h⟩=>by simp[RunL.length h]
theorem RunL.runF {fp:Nat→Foot}:∀ {l:List Oper} {fs:List Foot} {n:Nat} {st e:St},RunL E ops l fs st e→(∀ (j:Nat) (f:Foot),fs[j]?=some f→fp (n+j)=f)→RunF E ops fp (Azz n l) st e
 | [],[],n,st,e,h,_=>by subst h;exact Eqv.refl _
 | [],_::_,_,_,_,h,_=>h.elim
 | _::_,[],_,_,_,h,_=>h.elim
 | o::l,f::fs,n,st,e,⟨st',q,c,d,i,k⟩,b=>by
  rw[Azz]
  refine RunF.congr ?_ c.symm
  rw[RunF]
  refine⟨q,d,by rw[i];exact(b 0 f (by simp)).symm,RunL.runF k (fun j g m=>?_)⟩
  have:=b (j+1) g (by simpa using m)
  rwa [show n+(j+1)=n+1+j by omega] at this
theorem t7 {f:Foot} {anc:List Nat}:∀ {seen:List Foot} {i:Nat},mP f anc i seen=true→∀ (j:Nat) (g:Foot),seen[j]?=some g→(i+j) ∈ anc∨tL g f=true
 | [],i,_,j,g,b=>by simp at b
 | x::r,i,h,j,g,b=>by
  rw[mP] at h;simp only[Bool.and_eq_true,Bool.or_eq_true] at h
  cases j with
  | zero =>
   simp at b;subst b
   rcases h.1 with c | c
   ·exact .inl (Nn.1 c)
   ·exact .inr c
  | succ j =>
   have:=t7 h.2 j g (by simpa using b)
   rwa [show i+1+j=i+(j+1) by omega] at this
theorem zO:∀ {fs:List Foot} {az9:List (List Nat)} {seen:List Foot},fZ fs az9 seen=true→∀ (i:Nat) (f:Foot),fs[i]?=some f →
  ∃ a,az9[i]?=some a∧∀ (j:Nat) (g:Foot),(seen++fs)[j]?=some g→j<seen.length+i→j ∈ a∨tL g f=true
 | [],az9,seen,_,i,f,b=>by simp at b
 | x::r,[],seen,h,i,f,b=>by simp[fZ] at h
 | x::r,a::az9,seen,h,i,f,b=>by
  rw[fZ] at h;simp only[Bool.and_eq_true] at h
  cases i with
  | zero =>
   simp at b;subst b
   refine⟨a,by simp,fun j g c d=>?_⟩
   rw[List.getElem?_append,if_pos (by omega)] at c
   simpa using t7 h.1 j g c
  | succ i =>
   obtain⟨e,k,l⟩:=zO h.2 i f (by simpa using b)
   refine⟨e,by simpa using k,fun j g c d=>l j g ?_ (by simp;omega)⟩
   simpa using c
theorem MD:∀ {l:List Oper} {acc:List (List Nat)} {i:Nat},i<acc.length→(If l acc)[i]?=acc[i]?
 | [],acc,i,_=>rfl
 | o::r,acc,i,hi=>by
  rw[If,NP,MD (by simp;omega),List.getElem?_append,if_pos hi]
theorem SB:∀ {l:List Oper} {acc:List (List Nat)} {i:Nat} {a:List Nat},(If l acc)[i]?=some a→acc.length≤i→∃ o,l[i - acc.length]?=some o ∧
  ∀ k ∈ a,k ∈ RP o∨∃ j d,j ∈ RP o∧j<i∧(If l acc)[j]?=some d∧k ∈ d
 | [],acc,i,a,h,hi=>by
  rw[If,List.getElem?_eq_none hi] at h;cases h
 | o::r,acc,i,a,h,hi=>by
  by_cases e:i=acc.length
  ·subst e
   rw[If,NP,MD (by simp)] at h
   simp only[List.getElem?_concat_length,Option.some.injEq] at h
   refine⟨o,by simp,fun k b=>?_⟩
   rw[←h,NU] at b
   replace b:=b.resolve_right (by simp)
   rcases List.mem_append.1 b with b | b
   ·exact .inl b
   ·right
    obtain⟨j,n,b⟩:=List.mem_flatMap.1 b
    cases f:acc[j]? with
    | none=>rw[f] at b;simp at b
    | some d =>
     rw[f] at b;simp at b
     have c:j<acc.length:=(List.getElem?_eq_some_iff.1 f).1
     exact⟨j,d,n,c,by rw[MD c];exact f,b⟩
  ·rw[If,NP] at h
   obtain⟨o',m,q⟩:=SB h (by simp;omega)
   refine⟨o',?_,fun k b=>?_⟩
   ·simp at m
    rw[show i - acc.length=(i - (acc.length+1))+1 by omega];simpa using m
   ·rw[If,NP];exact q k b
theorem mZ:∀ {l:List Oper} {n i:Nat} {o:Oper},FA n l=true→l[i]?=some o→∀ e ∈ o.after,aE e=true→e.on<n+i
 | [],n,i,o,_,hi,_,_,_=>by simp at hi
 | x::r,n,i,o,h,hi,e,b,c=>by
  rw[FA] at h;simp only[Bool.and_eq_true] at h
  cases i with
  | zero =>
   simp at hi;subst hi
   have:=List.all_eq_true.1 h.1 e (by simpa using b)
   rw[c] at this;simpa using this
  | succ i =>
   have:=mZ h.2 (by simpa using hi) e b c
   omega
theorem Ain (e:Edge):Region.binds .any e=aE e:=by
 unfold Region.binds aE
 cases e.ground<;>rfl
theorem Av6 {listed:Array Bool} (hclosed:∀ (j:Nat) (o:Oper),ops[j]?=some o→listed.getD j true=true→∀ k ∈ RP o,listed.getD k false=true) :
  ∀ (i:Nat) (a:List Nat) (o:Oper),(If ops.toList [])[i]?=some a→ops[i]?=some o→(∀ k ∈ RP o,listed.getD k false=true)→∀ k ∈ a,listed.getD k false=true:=by
 intro i
 induction i using Nat.strongRecOn with
 | _ i s =>
  intro a o t u m k v
  obtain⟨o',e,x⟩:=SB t (by simp)
  simp at e
  rw[u] at e;simp at e;subst e
  rcases x k v with f | ⟨j,y,f,z,n,A⟩
  ·exact m k f
  ·have c:=m j f
   obtain⟨oj,d,_⟩:=SB n (by simp)
   simp at d
   have l:listed.getD j true=true:=by
    rw[Array.getD_eq_getD_getElem?] at c ⊢
    cases q:listed[j]? with
    | none=>rw[q] at c;simp at c
    | some b=>rw[q] at c;simpa using c
   exact s j z y oj n d (hclosed j oj d l) k A
def G4 (ops:Array Oper) (listed:Array Bool):List (Nat×Oper):=(Azz 0 ops.toList).filter fun p=>!listed.getD p.1 true
theorem aO (listed:Array Bool):(G4 ops listed).Pairwise (fun a b=>a.1<b.1):=(zN _ _).filter _
theorem NV {listed:Array Bool} {p:Nat×Oper}:p ∈ G4 ops listed↔ops[p.1]?=some p.2∧listed.getD p.1 true=false:=by
 unfold G4
 rw[List.mem_filter,yQ]
 simp
theorem Aqq {listed:Array Bool} {i:Nat} {o:Oper} {A B:List (Nat×Oper)} (h:G4 ops listed=A++(i,o)::B):G4 ops (listed.setIfInBounds i true)=A++B:=by
 have hi:(i,o) ∈ G4 ops listed:=by rw[h];simp
 have b:=(NV.1 hi).2
 have d:i<listed.size:=by
  rw[Array.getD_eq_getD_getElem?] at b
  rcases Nat.lt_or_ge i listed.size with f | f
  ·exact f
  ·rw[Array.getElem?_eq_none f] at b;simp at b
 have k:G4 ops (listed.setIfInBounds i true)=(G4 ops listed).filter fun p=>!Nat.beq p.1 i:=by
  unfold G4
  rw[List.filter_filter]
  congr 1;funext p
  by_cases e:p.1=i
  ·rw[e];simp[d]
  ·rw[getD_set_ne true (fun l=>e l.symm),ZM e];simp
 rw[k,h,List.filter_append,List.filter_cons]
 have hs:=aO (ops:=ops) listed
 rw[h] at hs
 have c:=List.pairwise_append.1 hs
 have hB:=List.pairwise_cons.1 c.2.1
 have e1:A.filter (fun p=>!Nat.beq p.1 i)=A:=List.filter_eq_self.2 (fun p j=>by
  have:p.1<i:=c.2.2 p j (i,o) (by simp)
  rw[ZM (by omega)];rfl)
 have m:B.filter (fun p=>!Nat.beq p.1 i)=B:=List.filter_eq_self.2 (fun p j=>by
  have:i<p.1:=hB.1 p j
  rw[ZM (by omega)];rfl)
 rw[e1,m];simp
theorem A05 (hC:lI E) {Q:Exit→Act→World→Prop} {fp:Nat→Foot} {e:St} (X:FA 0 ops.toList=true)
  (z:∀ (i j:Nat) (o:Oper),ops[i]?=some o→j<i→∃ a,(If ops.toList [])[i]?=some a∧(j ∈ a∨tL (fp j) (fp i)=true))
  (hQ:∀ Y w' J' β',Inv Z E.nt J' β' e Y w'→Q .normal Y w') :
  ∀ (fuel:Nat) (listed:Array Bool) {st:St} {a:Act} {w:World} {J:Bool→Nat→Prop} {β:Cn},listed.size=ops.size→(G4 ops listed).length=fuel →
   (∀ (j:Nat) (o:Oper),ops[j]?=some o→listed.getD j true=true→∀ k ∈ RP o,listed.getD k false=true) →
   RunF E ops fp (G4 ops listed) st e→Inv Z E.nt J β st a w→wpAny E.P .any ops Q fuel listed a w:=by
 intro fuel
 have fin:∀ (listed:Array Bool) {st:St} {a:Act} {w:World} {J:Bool→Nat→Prop} {β:Cn},G4 ops listed=[]→RunF E ops fp (G4 ops listed) st e→Inv Z E.nt J β st a w→Region.ready .any ops listed=[]∧Q .normal a w:=by
  intro listed st a w J β hr c I
  refine⟨List.eq_nil_iff_forall_not_mem.2 (fun i hi=>?_),?_⟩
  ·obtain⟨C,o,n,_⟩:=mem_ready.1 hi
   have:(i,o) ∈ G4 ops listed:=NV.2 ⟨n,C⟩
   rw[hr] at this;simp at this
  ·rw[hr,RunF] at c
   exact hQ _ _ J β (I.eqv c)
 induction fuel with
 | zero =>
  intro listed st a w J β _ d _ c I
  exact fin listed (List.length_eq_zero_iff.1 d) c I
 | succ fuel ih =>
  intro listed st a w J β D d hclosed c I
  refine⟨fun F=>?_,fun i hi=>?_⟩
  ·
   cases l:G4 ops listed with
   | nil=>rw[l] at d;simp at d
   | cons p r =>
    exfalso
    have hp:p ∈ G4 ops listed:=by rw[l];simp
    obtain⟨m,hl⟩:=NV.1 hp
    have hs:=aO (ops:=ops) listed
    rw[l] at hs
    have G:=(List.pairwise_cons.1 hs).1
    have:p.1 ∈ Region.ready .any ops listed:=mem_ready.2 ⟨hl,p.2,m,fun ed x hb=>by
     rw[Ain] at hb
     have t:=mZ X (i:=p.1) (o:=p.2) (by simpa using m) ed x hb
     simp at t
     have L:ed.on<ops.size:=by have:=(Array.getElem?_eq_some_iff.1 m).1;omega
     cases y:listed.getD ed.on true with
     | true =>
      rw[Array.getD_eq_getD_getElem?] at y ⊢
      rw[Array.getElem?_eq_getElem (by omega)] at y ⊢
      simpa using y
     | false =>
      have hm:(ed.on,ops[ed.on]) ∈ G4 ops listed:=NV.2 ⟨by simp[L],y⟩
      rw[l] at hm
      rcases List.mem_cons.1 hm with e1 | e1
      ·have:ed.on=p.1:=by rw[←e1]
       omega
      ·have:=G _ e1
       simp at this;omega⟩
    rw[F] at this;simp at this
  ·obtain⟨hl,o,m,M⟩:=mem_ready.1 hi
   have O:(i,o) ∈ G4 ops listed:=NV.2 ⟨m,hl⟩
   obtain⟨A,B,hAB⟩:=List.append_of_mem O
   have v:∀ k ∈ RP o,listed.getD k false=true:=by
    intro k S
    unfold RP at S
    obtain⟨ed,x,rfl⟩:=List.mem_map.1 S
    obtain⟨C,n⟩:=List.mem_filter.1 x
    exact M ed (by simpa using C) (by rw[Ain];exact n)
   have hs:=aO (ops:=ops) listed
   rw[hAB] at hs
   have hs':=List.pairwise_append.1 hs
   rw[hAB] at c
   obtain⟨q,g1,g2,g3⟩:=c.pull (fun jp T=>by
    have t:jp.1<i:=hs'.2.2 jp T (i,o) (by simp)
    obtain⟨an,C,n⟩:=z i jp.1 o m t
    rcases n with n | n
    ·exfalso
     have:=Av6 hclosed i an o C m v jp.1 n
     have hjm:jp ∈ G4 ops listed:=by rw[hAB];simp[T]
     have U:=(NV.1 hjm).2
     rw[Array.getD_eq_getD_getElem?] at this U
     cases y:listed[jp.1]? with
     | none=>rw[y] at this;simp at this
     | some b=>rw[y] at this U;simp at this U;rw[this] at U;cases U
    ·exact n)
   have V:Apv E ops o st (fun s f=>some (s,f))=some (after E o st q,q.2.2):=by rw[f_,g1];rfl
   obtain⟨st',f,h4,h5⟩:=zA (K:=wpAny E.P .any ops Q fuel (listed.setIfInBounds i true)) (Q:=Q) hC I V
   simp only[Option.some.injEq,Prod.mk.injEq] at h4
   obtain⟨rfl,rfl⟩:=h4
   have t:i<listed.size:=by rw[D];exact(Array.getElem?_eq_some_iff.1 m).1
   have:=h5 (fun Y w' J' β' I'=>ih (listed.setIfInBounds i true) (by simp[D]) (by
     rw[Aqq hAB];rw[hAB] at d;simp at d ⊢;omega) (fun j oj u hj k S=>?_) (by rw[Aqq hAB];exact g3) I')
   ·unfold wpOp
    rw[m]
    simp only
    split
    ·rename_i hw;rw[if_pos hw] at this;exact .inl this
    ·rename_i hw;rw[if_neg hw] at this;exact this
   ·by_cases e1:j=i
    ·subst e1
     rw[m] at u;simp at u;subst u
     exact getD_set_true (v k S)
    ·rw[getD_set_ne true (fun e'=>e1 e'.symm)] at hj
     exact getD_set_true (hclosed j oj u hj k S)
end
end Gx

namespace Gx
open Go
section
variable {R:Type} {r:R} {Z:Start} {E:Env}
theorem Afk (hC:lI E) (S:E.P.follows .mixedOrders=true) {roots:List Nat} {id:Nat} {ops:Array Oper} {draw:Bool} {st:St} {k:St→O R} {a:Act} {w:World} {J:Bool→Nat→Prop} {β:Cn} {Q:Exit→Act→World→Prop}
  (I:Inv Z E.nt J β st a w) (D:f3 E roots ops draw st k=some r) (hQ:∀ st' d w' J' β',Inv Z E.nt J' β' st' d w'→k st'=some r→Q .normal d w'):(Code.region id ops draw).wp E.P Q a w:=by
 unfold f3 at D
 have done:∀ {st':St} {tr:List Foot} {d:Act} {w':World} {J':Bool→Nat→Prop} {β':Cn},Inv Z E.nt J' β' st' d w' →
   cond (!draw||(FA 0 ops.toList&&fZ tr.reverse (If ops.toList []) [])) ((clean (st'.s.map (·.1)) roots st').bind k) none=some r→Q .normal d w':=by
  intro st' tr d w' J' β' I' h'
  obtain⟨_,A⟩:=uc h'
  obtain⟨st2,C,L⟩:=ub A
  obtain⟨β2,I2⟩:=Aqg I' C
  exact hQ _ _ _ _ _ I2 L
 cases draw with
 | false=>exact wp_region_list (zC hC _ I D (fun st' T d w' J' β' I' h'=>done I' h'))
 | true =>
  obtain⟨fs,e,A,C⟩:=Aqp D
  obtain⟨M,L⟩:=uc A
  simp at M
  obtain⟨F,t⟩:=M
  have v:=C.length
  refine wp_region_any S ?_
  have I':Inv Z E.nt J β st a w.drew:=I.step (Step.drew I.sim) (fun b x U hn=>by rw[U] at hn;cases hn)
  have c:G4 ops (Array.replicate ops.size false)=Azz 0 ops.toList:=by
   unfold G4
   refine List.filter_eq_self.2 (fun p V=>?_)
   have:=(yQ.1 V).2
   have m:p.1<ops.size:=by
    simp at this
    exact(Array.getElem?_eq_some_iff.1 this).1
   simp[m]
  have y:(Azz 0 ops.toList).length=ops.size:=by
   have:∀ (l:List Oper) (n:Nat),(Azz n l).length=l.length:=by
    intro l
    induction l with
    | nil=>intro n;rfl
    | cons o r X=>intro n;simp[Azz,X]
   rw[this];simp
  have z:RunF E ops (fun i=>fs.getD i { r:=[],w:=none,f:=[],u:=[] }) (Azz 0 ops.toList) st e:=C.runF (fun j f q=>by simp[q])
  refine A05 hC (fp:=fun i=>fs.getD i { r:=[],w:=none,f:=[],u:=[] }) (e:=e) F (fun i j o G K=>?_) (fun d w' J' β' Ie=>done (tr:=fs.reverse++[]) Ie A) ops.size _ (by simp) (by rw[c,y]) (fun j o G q=>?_) (by rw[c];exact z) I'
  ·have hi:i<fs.length:=by rw[v];simpa using(Array.getElem?_eq_some_iff.1 G).1
   obtain⟨an,Y,g2⟩:=zO t i fs[i] (List.getElem?_eq_getElem hi)
   refine⟨an,Y,?_⟩
   have q:j<fs.length:=by omega
   have:=g2 j fs[j] (by simp[q]) (by simpa using K)
   simpa[hi,q] using this
  ·exfalso
   have m:j<ops.size:=(Array.getElem?_eq_some_iff.1 G).1
   simp[m] at q
end
end Gx

namespace Gx
open Go
theorem m0 (ρ:Nat→Nat):∀ c:LA,(BT ρ c).length=c.length
 | []=>rfl
 | x::r=>by rw[BT,List.length_cons,List.length_cons,m0 ρ r]
theorem Pb (ρ:Nat→Nat) (x:Blk):(IH ρ x).cells.length=x.cells.length:=by
 unfold IH;cases x.pure
 ·simp;exact m0 _ _
 ·rfl
theorem Aio {ρ:Nat→Nat}:∀ {c:LA} {j:Nat} {y:AV},(BT ρ c)[j]?=some y→∃ x,c[j]?=some x∧y=g8 ρ x
 | [],j,y,b=>by simp[BT] at b
 | x::r,j,y,b=>by
  rw[BT] at b
  cases j with
  | zero=>simp at b;exact⟨x,by simp,b.symm⟩
  | succ j=>obtain⟨x',d,e⟩:=Aio (c:=r) (j:=j) (by simpa using b);exact⟨x',by simpa using d,e⟩
section
variable {R:Type} {r:R} {J J':Bool→Nat→Prop} {β β':Cn} {h h':Ai} {w w':World} {ids:List Nat} {ρ:Nat→Nat}
theorem Qs {g:Bk}:∀ {ids:List Nat},(ids.map ρ).Nodup→∀ c y,Al (sub g ρ ids) c=some y→∃ b x,b ∈ ids∧ρ b=c∧g b=some x∧y=IH ρ x
 | [],_,c,y,d=>by simp[sub,Al] at d
 | b::r,hn,c,y,d=>by
  rw[List.map_cons,List.nodup_cons] at hn
  rw[sub] at d
  split at d
  ·rename_i x m
   rw[Ag] at d
   by_cases e:c=ρ b
   ·rw[if_pos e] at d;simp at d
    exact⟨b,x,by simp,e.symm,m,d.symm⟩
   ·rw[if_neg e] at d
    obtain⟨f,x',i,j,k,l⟩:=Qs hn.2 c y d
    exact⟨f,x',by simp[i],j,k,l⟩
  ·obtain⟨f,x',i,j,k,l⟩:=Qs hn.2 c y d
   exact⟨f,x',by simp[i],j,k,l⟩
theorem IS {g:Bk}:∀ {ids:List Nat},(ids.map ρ).Nodup→∀ b x,b ∈ ids→g b=some x→Al (sub g ρ ids) (ρ b)=some (IH ρ x)
 | [],_,b,x,c,_=>by simp at c
 | i::r,hn,b,x,c,d=>by
  rw[List.map_cons,List.nodup_cons] at hn
  rw[sub]
  by_cases e:b=i
  ·subst e
   rw[d]
   simp only
   rw[Ag,if_pos rfl]
  ·have f:b ∈ r:=by simpa[e] using c
   have ne:ρ b≠ρ i:=fun h=>hn.1 (by rw[←h];exact List.mem_map.2 ⟨b,f,rfl⟩)
   split
   ·rw[Ag,if_neg ne];exact IS hn.2 b x f d
   ·exact IS hn.2 b x f d
def A3r (ρ:Nat→Nat) (ids:List Nat) (c:Nat):Option Nat:=ids.find? fun b=>Nat.beq (ρ b) c
theorem A3s (hn:(ids.map ρ).Nodup) {b:Nat} (c:b ∈ ids):A3r ρ ids (ρ b)=some b:=by
 induction ids with
 | nil=>simp at c
 | cons i r d =>
  rw[List.map_cons,List.nodup_cons] at hn
  unfold A3r at d ⊢
  rw[List.find?_cons]
  by_cases e:b=i
  ·subst e;simp
  ·have f:b ∈ r:=by simpa[e] using c
   have ne:ρ i≠ρ b:=fun h=>hn.1 (by rw[h];exact List.mem_map.2 ⟨b,f,rfl⟩)
   rw[ZM ne];exact d hn.2 f
def VA (ρ:Nat→Nat) (ids:List Nat) (β:Cn):Cn:=fun c=>(A3r ρ ids c).bind β
theorem Ip (hn:(ids.map ρ).Nodup) {b:Nat} (c:b ∈ ids):VA ρ ids β (ρ b)=β b:=by
 unfold VA;rw[A3s hn c];rfl
mutual
theorem Rep.ren (hn:(ids.map ρ).Nodup):∀ {x:AV} {v:Value},(∀ b ∈ In x,b ∈ ids)→Rep J β h w x v→Rep J (VA ρ ids β) (sub (Al h) ρ ids) w (g8 ρ x) v
 | .own b off n,v,hm,hr=>by
  rw[Rep] at hr
  obtain⟨x,A,cap,⟨hx,hmp⟩,h1,h2,h3⟩:=hr
  have hb:=hm b (by simp[In])
  rw[g8,Rep]
  refine⟨IH ρ x,A,cap,⟨IS hn b x hb hx,hmp⟩,h1,h2,?_⟩
  rw[Pb,Ip hn hb]
  exact h3
 | .optr b off,v,hm,hr=>by
  rw[Rep] at hr
  obtain⟨x,k,o,⟨hx,hmp⟩,h1,h2⟩:=hr
  have hb:=hm b (by simp[In])
  rw[g8,Rep]
  refine⟨IH ρ x,k,o,⟨IS hn b x hb hx,hmp⟩,h1,?_⟩
  rw[Ip hn hb]
  exact h2
 | .omap b,v,hm,hr=>by
  rw[Rep] at hr
  obtain⟨x,k,⟨hx,hmp⟩,h2⟩:=hr
  have hb:=hm b (by simp[In])
  rw[g8,Rep]
  refine⟨IH ρ x,k,⟨IS hn b x hb hx,hmp⟩,?_⟩
  rw[Ip hn hb]
  exact h2
 | .agg c,v,hm,hr=>by
  rw[Rep] at hr
  obtain⟨cs,h1,h2⟩:=hr
  rw[g8,Rep]
  exact⟨cs,h1,Reps.ren hn (by simpa[In] using hm) h2⟩
 | .tup c,v,hm,hr=>by
  rw[Rep] at hr
  obtain⟨cs,h1,h2⟩:=hr
  rw[g8,Rep]
  exact⟨cs,h1,Reps.ren hn (by simpa[In] using hm) h2⟩
 | .fn f c,v,hm,hr=>by
  rw[Rep] at hr
  obtain⟨cs,h1,h2⟩:=hr
  rw[g8,Rep]
  exact⟨cs,h1,Reps.ren hn (by simpa[In] using hm) h2⟩
 | .pagg c o,v,hm,hr=>by show Rep J _ _ w (.pagg c o) v;rw[Rep] at hr ⊢;exact hr
 | .undef,v,hm,hr=>by show Rep J _ _ w (.undef) v;rw[Rep] at hr ⊢;exact hr
 | .imm c n sz t o,v,hm,hr=>by show Rep J _ _ w (.imm c n sz t o) v;rw[Rep] at hr ⊢;exact hr
 | .iptr c o,v,hm,hr=>by show Rep J _ _ w (.iptr c o) v;rw[Rep] at hr ⊢;exact hr
 | .int k n,v,hm,hr=>by show Rep J _ _ w (.int k n) v;rw[Rep] at hr ⊢;exact hr
 | .bool b,v,hm,hr=>by show Rep J _ _ w (.bool b) v;rw[Rep] at hr ⊢;exact hr
 | .str s,v,hm,hr=>by show Rep J _ _ w (.str s) v;rw[Rep] at hr ⊢;exact hr
 | .nsl,v,hm,hr=>by show Rep J _ _ w (.nsl) v;rw[Rep] at hr ⊢;exact hr
 | .nilptr,v,hm,hr=>by show Rep J _ _ w (.nilptr) v;rw[Rep] at hr ⊢;exact hr
 | .nilfn,v,hm,hr=>by show Rep J _ _ w (.nilfn) v;rw[Rep] at hr ⊢;exact hr
theorem Reps.ren (hn:(ids.map ρ).Nodup):∀ {c:List AV} {cs:List Value},(∀ b ∈ Km c,b ∈ ids)→Reps J β h w c cs→Reps J (VA ρ ids β) (sub (Al h) ρ ids) w (BT ρ c) cs
 | [],cs,hm,hr=>by rw[Reps] at hr;rw[BT,Reps];exact hr
 | x::r,cs,hm,hr=>by
  rw[Reps] at hr
  obtain⟨u,us,h1,h2,h3⟩:=hr
  rw[BT,Reps]
  exact⟨u,us,h1,Rep.ren hn (fun b hb=>hm b (by simp[Km,hb])) h2,Reps.ren hn (fun b hb=>hm b (by simp[Km,hb])) h3⟩
end
theorem SimH.ren (S:SimH J β h w) (hn:(ids.map ρ).Nodup) (A:∀ b ∈ Nl (Al h) ids,b ∈ ids):SimH J (VA ρ ids β) (sub (Al h) ρ ids) w:=by
 refine⟨S.jlt,S.jft,S.gl,fun c y m n C=>?_,fun c y m n C=>by
   obtain⟨b,x,e,rfl,i,rfl⟩:=Qs hn c y m
   obtain⟨l,s,k,ob,D,F,z,G⟩:=S.mblk b x i n C
   have:(IH ρ x).cells=x.cells:=by unfold IH;rw[l];rfl
   exact⟨l,s,k,ob,by rw[Ip hn e];exact D,F,by rw[ObjIs,show(IH ρ x).sz=x.sz from rfl,this];exact z,G⟩,?_⟩
 ·obtain⟨b,x,e,rfl,i,rfl⟩:=Qs hn c y m
  rcases S.blk b x i n C with⟨l,s⟩ | ⟨k,o,cs,ty,fr,l,s,D,F,z,G,U⟩
  ·refine .inl ⟨by rw[Ip hn e];exact l,?_⟩
   have:=Pb ρ x;rw[s] at this;simpa using this
  ·refine .inr ⟨k,o,cs,ty,fr,by rw[Ip hn e];exact l,s,D,by rw[Pb];exact F,⟨fun I=>?_,fun I j q O=>?_⟩,G,U⟩
   ·have d:x.pure=true:=I
    have:(IH ρ x).cells=x.cells:=by unfold IH;rw[d];rfl
    rw[this];exact z.1 d
   ·have d:x.pure=false:=I
    have:(IH ρ x).cells=BT ρ x.cells:=by unfold IH;rw[d];rfl
    rw[this] at O
    obtain⟨V,hq,rfl⟩:=Aio O
    obtain⟨u,X,hr,Y⟩:=z.2 d j V hq
    exact⟨u,X,Rep.ren hn (fun t f=>A t (r5 e i d t (r6 hq t f))) hr,Y⟩
 ·intro c c' y y' k o o' m K n L hs T v
  obtain⟨b,x,e,rfl,i,rfl⟩:=Qs hn c y m
  obtain⟨t,x',f,rfl,M,rfl⟩:=Qs hn c' y' K
  rw[Ip hn e] at T
  rw[Ip hn f] at v
  rw[S.sep b t x x' k o o' i M n L hs T v]
theorem Alv (hn:(ids.map ρ).Nodup) {k:Nat} (e:Apy (VA ρ ids β) (sub (Al h) ρ ids) k):Apy β h k:=by
 obtain⟨c,y,o,f,i,hs,d⟩:=e
 obtain⟨b,x,j,rfl,l,rfl⟩:=Qs hn c y f
 rw[Ip hn j] at d
 exact⟨b,x,o,l,i,hs,d⟩
end
end Gx

namespace Gx
open Go
theorem Rv {ids:List Nat}:∀ {l:List Nat},UU ids l=true→∀ b ∈ l,b ∈ ids
 | [],_,b,c=>by simp at c
 | i::r,h,b,c=>by
  rw[UU] at h
  simp at h
  rcases List.mem_cons.1 c with rfl | c
  ·exact Nn.1 h.1
  ·exact Rv h.2 b c
theorem GB {d:Nat}:∀ {l:List Nat} {base b:Nat},b ∈ l→base≤Ky d (A7 base l) b∧Ky d (A7 base l) b<base+l.length
 | [],base,b,c=>by simp at c
 | i::r,base,b,c=>by
  rw[A7,Ky]
  cases hi:Nat.beq i b with
  | true=>simp
  | false =>
   have e:=BU hi
   have f:b ∈ r:=by
    rcases List.mem_cons.1 c with h | h
    ·exact absurd h.symm e
    ·exact h
   have:=GB (d:=d) (base:=base+1) f
   simp only[cond_false,List.length_cons]
   omega
theorem Aqr {free ids:List Nat} {b:Nat} (h:NQ free b=true):FZ free ids b=b:=by unfold FZ;rw[h];rfl
theorem Alw {free ids:List Nat} {b:Nat} (h:NQ free b=false) (c:b ∈ ids):300000≤FZ free ids b:=by
 unfold FZ A3h;rw[h]
 exact(GB (List.mem_filter.2 ⟨c,by simp[h]⟩)).1
theorem zP {b:Nat}:ym b=true↔100000≤b∧b<200000:=by unfold ym;simp
theorem t8 {free ids:List Nat} {b c:Nat} (e:b ∈ ids) (f:100000≤c∧c<200000) (d:FZ free ids b=c):b=c:=by
 cases hr:NQ free b with
 | true=>rw[Aqr hr] at d;exact d
 | false=>have:=Alw hr e;omega
theorem NW {ρ:Nat→Nat} {K:List Nat}:∀ {s:Im} {i:Nat},Ha (A3i ρ K s) i=if Kn K i=true then g8 ρ (Ha s i) else .undef
 | [],i=>by
  show AV.undef=if Kn K i=true then g8 ρ .undef else AV.undef
  simp[g8]
 | (t,v)::r,i=>by
  rw[A3i]
  by_cases e:t=i
  ·subst e
   cases b:Kn K t with
   | true=>simp[Ha]
   | false=>simp only[cond_false];rw[NW];simp[b]
  ·have c:Nat.beq t i=false:=ZM e
   cases b:Kn K t with
   | true=>simp only[cond_true,Ha,c,cond_false];exact NW
   | false=>simp only[cond_false,Ha,c];exact NW
theorem Aqs {g:Bk} {l:List Nat} {b:Nat} (h:b ∈ IM g l):∃ x,g b=some x∧x.dead=false:=by
 unfold IM at h
 obtain⟨_,c⟩:=List.mem_filter.1 h
 unfold Hb at c
 cases d:g b with
 | none=>simp[d] at c
 | some x =>
  cases e:x.dead with
  | false=>exact⟨x,rfl,e⟩
  | true=>simp[d,e] at c
section
variable {Z:Start} {nt:Nat} {J:Bool→Nat→Prop} {β:Cn} {st st':St} {a:Act} {w:World}
def AV.isz:AV→Nat
 | .imm _ _ s _ _=>s
 | _=>0
theorem Qt {live:List Nat}:∀ (nils:List (Nat×Nat)) {st:St} {J:Bool→Nat→Prop} {β:Cn},Inv Z nt J β st a w→RQ live nils st=some st'→∃ J' β',Inv Z nt J' β' st' a w
 | [],st,J,β,I,f=>by simp[RQ] at f;subst f;exact⟨J,β,I⟩
 | (t,sz)::r,st,J,β,I,f=>by
  rw[RQ] at f
  cases q:Nat.ble 1000000 sz with
  | true =>
   rw[q,cond_true] at f
   split at f
   ·rename_i L hs
    refine Qt r (J:=J) (β:=β) (st:={ s:=lA st.s t (.imm [] 0 (sz - 1000000) false false),h:=st.h }) ?_ f
    refine { I with ss:=⟨fun i v k=>?_,fun i hi=>?_⟩ }
    ·rw[Qp]
     by_cases e:i=t
     ·subst e
      have:=I.ss.slot i v k
      rw[hs,Rep] at this
      subst this
      rw[if_pos rfl,Rep,RepC]
      exact⟨by simp,none,0,rfl,Nat.le_refl _,fun _=>rfl,.inl rfl⟩
     ·rw[if_neg e];exact I.ss.slot i v k
    ·rw[Qp]
     by_cases e:i=t
     ·subst e
      have:=I.ss.out i hi
      rw[hs] at this;cases this
     ·rw[if_neg e];exact I.ss.out i hi
   ·rename_i b off n L hs
    obtain⟨⟨v',ups,org⟩,u,M⟩:=ub f
    by_cases z:∃ v,a.tmps[t]?=some v
    ·obtain⟨v0,C⟩:=z
     have hr:=I.ss.slot t v0 C
     rw[hs] at hr
     obtain⟨J1,A,l,_⟩:=aI I.sim (fun b x O=>⟨x,O,rfl⟩) u hr
     have I1:=I.step A (fun c x m hn=>by
      exfalso
      unfold iF at u
      obtain⟨y,F,j⟩:=ub u
      obtain⟨_,j⟩:=uc j
      simp at j
      obtain⟨_,j,_⟩:=j
      subst j
      simp only[Ak,Ag] at m
      unfold Hb at F
      obtain⟨y0,D,_⟩:=ub F
      by_cases e:c=b
      ·subst e;rw[hn] at D;cases D
      ·rw[if_neg e,hn] at m;cases m)
     refine Qt r (J:=J1) (β:=β) (st:={ s:=lA st.s t v',h:=Ak ups st.h }) ?_ M
     have G:∃ c,v'=.imm c n (v'.isz) false org:=by
      unfold iF at u
      obtain⟨y,F,j⟩:=ub u
      obtain⟨_,j⟩:=uc j
      simp at j
      obtain⟨j,_,S⟩:=j
      subst j S
      exact⟨_,rfl⟩
     refine { I1 with ss:=⟨fun i v k=>?_,fun i hi=>?_⟩ }
     ·rw[Qp]
      by_cases e:i=t
      ·subst e
       rw[if_pos rfl]
       rw[C] at k;simp at k;subst k
       obtain⟨c,T⟩:=G
       rw[T] at l ⊢
       rw[Rep];exact l
      ·rw[if_neg e];exact I1.ss.slot i v k
     ·rw[Qp]
      by_cases e:i=t
      ·subst e
       have:=I.ss.out i hi
       rw[hs] at this;cases this
      ·rw[if_neg e];exact I1.ss.out i hi
    ·exfalso
     have:=I.ss.out t (by
      cases h:a.tmps[t]? with
      | none=>simp at h;omega
      | some v=>exact absurd ⟨v,h⟩ z)
     rw[hs] at this;cases this
   ·exact Qt r I f
  | false =>
   rw[q,cond_false] at f
   split at f
   ·rename_i L hs
    cases K:Al st.h (nid t+15) with
    | some x=>simp[K] at f
    | none =>
     simp[K] at f
     have A:=Step.newNone I.sim (d:=nid t+15) (x:=Hc sz) K rfl
     have I1:=I.step A (fun b x m hn=>by
      rw[Ag] at m
      by_cases e:b=nid t+15
      ·subst e;unfold nid Ja;omega
      ·rw[if_neg e,hn] at m;cases m)
     refine Qt r (J:=J) (β:=fun b=>if b=nid t+15 then none else β b) (st:={ s:=lA st.s t (.own (nid t+15) 0 0),h:=Gf st.h (nid t+15) (Hc sz) }) ?_ f
     refine { I1 with ss:=⟨fun i v k=>?_,fun i hi=>?_⟩ }
     ·rw[Qp]
      by_cases e:i=t
      ·subst e
       rw[if_pos rfl,Rep]
       have:=I.ss.slot i v k
       rw[hs,Rep] at this
       subst this
       exact⟨Hc sz,none,0,⟨by rw[Ag,if_pos rfl],rfl⟩,rfl,Nat.le_refl _,.inl rfl⟩
      ·rw[if_neg e];exact I1.ss.slot i v k
     ·rw[Qp]
      by_cases e:i=t
      ·subst e
       have:=I.ss.out i hi
       rw[hs] at this;cases this
      ·rw[if_neg e];exact I1.ss.out i hi
   ·exact Qt r I f
theorem aP {E:Env} {live roots:List Nat} (I:Inv Z nt J β st a w) (e:mQ E live roots st=some st'):∃ J' β',Inv Z nt J' β' st' a w:=by
 unfold mQ at e
 obtain⟨s1,m,n⟩:=ub e
 obtain⟨J1,β1,I1⟩:=Qt _ I m
 obtain⟨f,j⟩:=uc n
 simp at f j
 subst j
 obtain⟨hn,hs,hi,_⟩:=f
 have hn:=W4 hn
 have d:∀ b ∈ Nl (Al s1.h) (IM (Al s1.h) (FW (Al s1.h) (yj live s1.s++roots))),b ∈ IM (Al s1.h) (FW (Al s1.h) (yj live s1.s++roots)):=Rv hi
 refine⟨J1,VA _ _ β1,{ I1 with sim:=I1.sim.ren hn d,ss:=⟨fun i v q=>?_,fun i hi=>?_⟩,wr:=fun k t=>I1.wr k (Alv hn t),outs:=fun b x0 x h0 u y=>?_ }⟩
 ·rw[NW]
  cases z:Kn live i with
  | false=>simp[Rep]
  | true =>
   simp only[if_true]
   exact Rep.ren hn (fun b A=>Rv hs b (zE z b A)) (I1.ss.slot i v q)
 ·rw[NW,I1.ss.out i hi];simp[g8]
 ·obtain⟨C,x',c,l,D,rfl⟩:=Qs hn b x u
  have:=t8 c ⟨I1.zge b x0 h0,I1.zlt b x0 h0⟩ l
  subst this
  obtain⟨⟨e1,em⟩,F,e3,e4⟩:=I1.outs C x0 x' h0 D y
  refine⟨⟨?_,em⟩,F,by rw[Pb];exact e3,e4⟩
  have:=Ip (β:=β1) hn c
  rw[l] at this
  rw[this];exact e1
end
end Gx

namespace Gx
open Go
section
variable {R:Type} {r:R} {Z:Start} {E:Env}
theorem Aqt (hC:lI E) (z:E.P.follows .mixedOrders=true) {roots:List Nat} {N:Nat}:∀ (c:Code) {H:Hint} {kn:St→O R} {kx:Nat→St→O R} {kr:St→O R} {st:St} {a:Act} {w:World} {J:Bool→Nat→Prop} {β:Cn} {Q:Exit→Act→World→Prop},
  Inv Z E.nt J β st a w→Hd E roots N c H kn kx kr st=some r →
  (∀ st' d w' J' β',Inv Z E.nt J' β' st' d w'→kn st'=some r→Q .normal d w') →
  (∀ id st' d w' J' β',Inv Z E.nt J' β' st' d w'→kx id st'=some r→Q (.exit id) d w') →
  (∀ st' d w' J' β',Inv Z E.nt J' β' st' d w'→kr st'=some r→Q .ret d w')→c.wp E.P Q a w:=by
 intro c
 induction c with
 | skip=>intro H kn kx kr st a w J β Q I b hn e hr;exact wp_skip (hn _ _ _ _ _ I b)
 | region id ops draw=>intro H kn kx kr st a w J β Q I b hn e hr;exact Afk hC z I b hn
 | seq x y i f =>
  intro H kn kx kr st a w J β Q I b hn e hr
  rw[Hd] at b
  refine wp_seq (i I b (fun st' d w' J' β' I' h'=>?_) (fun id st' d w' J' β' I' h'=>e id st' d w' J' β' I' h') (fun st' d w' J' β' I' h'=>hr st' d w' J' β' I' h'))
  unfold A0u at h'
  cases l:H.isJoin with
  | true =>
   rw[l,cond_true,IN] at h'
   obtain⟨s2,m,q⟩:=ub h'
   obtain⟨J2,β2,I2⟩:=aP I' m
   exact f I2 q hn e hr
  | false=>rw[l] at h';exact f I' h' hn e hr
 | cond c x y i f =>
  intro H kn kx kr st a w J β Q I b hn e hr
  rw[Hd] at b
  split at b
  ·rename_i t A
   have v:=Bi I.ss c
   rw[A,Rep] at v
   refine wp_cond v ?_
   cases t with
   | true=>exact i I b hn e hr
   | false=>exact f I b hn e hr
  ·simp at b
 | block id c s =>
  intro H kn kx kr st a w J β Q I b hn e hr
  rw[Hd] at b
  refine wp_block (s I b (fun st' d w' J' β' I' h'=>hn _ _ _ _ _ I' h') (fun j st' d w' J' β' I' h'=>?_) (fun st' d w' J' β' I' h'=>hr _ _ _ _ _ I' h'))
  cases l:Nat.beq j id with
  | true =>
   rw[l] at h'
   have:=Nat.eq_of_beq_eq_true l
   subst this
   simp only[Exit.inBlock,if_true]
   exact hn _ _ _ _ _ I' h'
  | false =>
   rw[l] at h'
   simp only[Exit.inBlock]
   rw[if_neg (BU l)]
   exact e _ _ _ _ _ _ I' h'
 | loop c s =>
  intro H kn kx kr st a w J β Q I b hn e hr
  rw[Hd,IN] at b
  refine wp_loop_rounds N ?_
  have key:∀ (n:Nat) {st:St} {a:Act} {w:World} {J:Bool→Nat→Prop} {β:Cn},Inv Z E.nt J β st a w→aF (mQ E H.live roots) (fun k st=>Hd E roots N c H.a k kx kr st) n st=some r→Code.rounds E.P c Q n a w:=by
   intro n
   induction n with
   | zero=>intro st a w J β I h';simp[aF] at h'
   | succ n u =>
    intro st a w J β I h'
    rw[aF] at h'
    rw[rounds_succ]
    refine s I h' (fun st' d w' J' β' I' h''=>?_) (fun id st' d w' J' β' I' h''=>e _ _ _ _ _ _ I' h'') (fun st' d w' J' β' I' h''=>hr _ _ _ _ _ I' h'')
    obtain⟨s2,m,q⟩:=ub h''
    obtain⟨J2,β2,I2⟩:=aP I' m
    exact u I2 q
  obtain⟨s2,m,q⟩:=ub b
  obtain⟨J2,β2,I2⟩:=aP I m
  exact key N I2 q
 | exit id=>intro H kn kx kr st a w J β Q I b hn e hr;exact wp_exit (e _ _ _ _ _ _ I b)
 | ret=>intro H kn kx kr st a w J β Q I b hn e hr;exact wp_ret (hr _ _ _ _ _ I b)
 | rangeFunc=>intro H kn kx kr st a w J β Q I b;simp[Hd] at b
 | scope=>intro H kn kx kr st a w J β Q I b;simp[Hd] at b
 | label=>intro H kn kx kr st a w J β Q I b;simp[Hd] at b
 | goto=>intro H kn kx kr st a w J β Q I b;simp[Hd] at b
 | refuse=>intro H kn kx kr st a w J β Q I b;simp[Hd] at b
end
end Gx

namespace Gx
open Go
structure FDone (Z:Start) (J:Bool→Nat→Prop) (β:Cn) (h:Ai) (w:World):Prop where
 sim:SimH J β h w
 os:w.os=Z.w.os
 tape:w.tape=Z.w.tape
 output:w.output=Z.w.output
 size:Z.w.heap.size≤w.heap.size
 frame:∀ k,k<Z.w.heap.size→¬ Apy Z.β Z.h k→w.heap[k]?=Z.w.heap[k]?
 wr:∀ k,Apy β h k→k<Z.w.heap.size→Apy Z.β Z.h k
 jsub:∀ o k,Z.J o k→J o k
 jup:∀ o k,J o k→Z.J o k∨Apy Z.β Z.h k∨Z.w.heap.size≤k
 sizes:∀ k,Bh Z.w k≤Bh w k
 outs:∀ b x0 x,Al Z.h b=some x0→Al h b=some x→x.dead=false→(β b=Z.β b∧x.mp=x0.mp)∧x.sz=x0.sz∧(x0.mp=false→x.cells.length=x0.cells.length)∧x0.dead=false
 live:∀ b x,Al h b=some x→x.dead=false
def A71 (P:Program) (f:Nat) (args:LA) (h:Ai) (res:AV) (h':Ai):Prop :=
 ∀ (J:Bool→Nat→Prop) (β:Cn) (w:World) (vs:List Value),SimH J β h w→Reps J β h w args vs →
  Calls P f vs.toArray w fun e w'=>∃ vc J' β',e=.returned vc∧FDone ⟨J,β,h,w⟩ J' β' h' w'∧Rep J' β' h' w' res vc
def Aqu (P:Program) (f:Nat) (t:Tw):Prop:=∀ args h res h',(t.runK args h fun v h'=>some (v,h'))=some (res,h')→A71 P f args h res h'
def zQ (P:Program):List (Nat×Tw)→Prop
 | []=>True
 | p::r=>Aqu P p.1 p.2∧zQ P r
theorem Aqv {P:Program} {R:Type} {r:R}:∀ {T:List (Nat×Tw)},zQ P T→∀ {f:Nat} {b:LA} {h:Ai} {k:AV→Ai→O R},mN T f b h k=some r →
  ∃ c h',A71 P f b h c h'∧k c h'=some r
 | [],_,f,b,h,k,d=>by simp[mN] at d
 | (g,t)::T,hT,f,b,h,k,d=>by
  rw[mN] at d
  cases e:Nat.beq g f with
  | false=>rw[e] at d;exact Aqv hT.2 d
  | true =>
   rw[e] at d
   have:=Nat.eq_of_beq_eq_true e
   subst this
   simp only[cond_true] at d
   rw[t.eq] at d
   obtain⟨⟨c,h'⟩,i,j⟩:=ub d
   exact⟨c,h',hT.1 b h c h' i,j⟩
section
variable {R:Type} {r:R} {Z:Start} {nt:Nat} {J:Bool→Nat→Prop} {β:Cn} {st:St} {a:Act} {w:World}
def m7 (tmps:Array Value):ResultVar→Sem Value
 | .tmp t=>pure (tmps.getD t undef)
 | .cell a t=>do loadVar t (←Go.asAddr (tmps.getD a undef))
theorem A3t {α β:Type} (f:α→Sem β) (xs:Array α):xs.mapM f=(List.toArray <$> xs.toList.mapM f):=by
 rw[←List.mapM_toArray]
theorem Av7 (fn:Func) (tmps:Array Value):results fn tmps=(do let vs ←fn.results.mapM (m7 tmps);pure (if h:vs.size=1 then vs[0] else .tuple vs)):=by
 unfold results
 congr 1
def Aqw (l:List Value):Value:=match l with | [v]=>v | l=>.tuple l.toArray
theorem Aqx {P:Program} (fn:Func) (tmps:Array Value) {vs:List Value} (h:(fn.results.toList.mapM (m7 tmps)).run P w=.ok vs w):(results fn tmps).run P w=.ok (Aqw vs) w:=by
 rw[Av7,A3t]
 simp only[map_eq_pure_bind,Sem.run_bind,h,Result.andThen_ok,Sem.run_pure]
 congr 1
 match vs with
 | []=>rfl
 | [v]=>rfl
 | v::u::r=>simp[Aqw]
theorem Aqy {P:Program} {t:TypeId} {v vc:Value} (h:(Instr.loadAt t v).run P w=.ok vc w):(do loadVar t (←Go.asAddr v):Sem Value).run P w=.ok vc w:=by
 unfold Instr.loadAt at h
 cases v with
 | pointer a =>
  cases a with
  | some a=>exact h
  | none=>simp[Instr.sureAddr] at h
 | _=>simp[Instr.sureAddr] at h
theorem ME {E:Env} (S:SimH J β st.h w) (SS:SimS J β st.h w st.s a.tmps):∀ (l:List ResultVar) {acc:LA} {k:LA→O R},Qo E st l acc k=some r →
  ∃ vals vs,k (acc.reverse++vals)=some r∧(l.mapM (m7 a.tmps)).run E.P w=.ok vs w∧Reps J β st.h w vals vs
 | [],acc,k,b=>⟨[],[],by simpa[Qo] using b,by simp,by rw[Reps]⟩
 | .tmp t::l,acc,k,b=>by
  rw[Qo] at b
  obtain⟨vals,vs,c,d,e⟩:=ME S SS l b
  refine⟨Ha st.s t::vals,a.tmps.getD t undef::vs,by simpa using c,?_,by rw[Reps];exact⟨_,_,rfl,Bi SS (.tmp t),e⟩⟩
  simp only[List.mapM_cons,m7,Sem.run_bind,Sem.run_pure,Result.andThen_ok,d]
 | .cell ad t::l,acc,k,b=>by
  rw[Qo] at b
  obtain⟨v,vc,h0,c,d⟩:=tO S (fun _ _ h=>h) b (Bi SS (.tmp ad))
  obtain⟨vals,vs,e,f,i⟩:=ME S SS l h0
  refine⟨v::vals,vc::vs,by simpa using e,?_,by rw[Reps];exact⟨_,_,rfl,d,i⟩⟩
  have:(m7 a.tmps (.cell ad t)).run E.P w=.ok vc w:=Aqy c
  simp only[List.mapM_cons,Sem.run_bind,this,Sem.run_pure,Result.andThen_ok,f]
theorem Av8 {i:Nat} {m:Nat×Nat} {v v':AV} {ups:Fx} {vc:Value} {h:Ai} (S:SimH J β h w) (d:A66 (Al h) i m v=some (v',ups)) (f:Rep J β h w v vc) :
  ∃ J' β',Step J β h w J' β' (Ak ups h) w∧Rep J' β' (Ak ups h) w v' vc∧(∀ b x,Al (Ak ups h) b=some x→Al h b=none→Ja≤b):=by
 have old:∀ {ups:Fx},(∀ b,Be ups b=true→∃ x,Al h b=some x)→∀ b x,Al (Ak ups h) b=some x→Al h b=none→Ja≤b:=by
  intro ups z b x j hn
  cases hi:Be ups b with
  | true=>obtain⟨y,C⟩:=z b hi;rw[C] at hn;cases hn
  | false=>rw[C4 _ _ _ hi,hn] at j;cases j
 unfold A66 at d
 cases h0:Nat.beq m.1 0 with
 | true =>
  rw[h0] at d;simp at d
  obtain⟨rfl,rfl⟩:=d
  exact⟨J,β,Step.refl S,f,old (by simp[Be])⟩
 | false =>
  rw[h0,cond_false] at d
  cases t:Nat.beq m.1 1 with
  | true =>
   rw[t,cond_true] at d
   split at d
   ·simp at d;obtain⟨rfl,rfl⟩:=d
    rw[Rep] at f;subst f
    refine⟨J,β,Step.refl S,?_,old (by simp[Be])⟩
    rw[Rep,RepC]
    exact⟨by simp,none,0,rfl,Nat.le_refl _,by simp,.inl rfl⟩
   ·simp at d;obtain⟨rfl,rfl⟩:=d
    refine⟨J,β,Step.refl S,?_,old (by simp[Be])⟩
    rw[Rep,RepC] at f ⊢
    obtain⟨e1,A,cap,D,e3,e4,F⟩:=f
    exact⟨e1,A,cap,D,e3,by simp,F⟩
   ·obtain⟨⟨G,I,K⟩,hq,l⟩:=ub d
    simp at l;obtain⟨rfl,rfl⟩:=l
    obtain⟨J',A,hA,_⟩:=aI S (Looks.s fun _ _ h=>h) hq f
    refine⟨J',β,A,?_,old (Aij hq)⟩
    unfold iF at hq
    obtain⟨x,j,k⟩:=ub hq
    obtain⟨_,u⟩:=uc k
    simp at u
    obtain⟨rfl,rfl,rfl⟩:=u
    rw[Rep];exact hA
   ·simp at d
  | false =>
   rw[t,cond_false] at d
   cases l:Nat.beq m.1 2 with
   | true =>
    rw[l,cond_true] at d
    split at d
    ·obtain⟨hn,k⟩:=Avo d
     simp at k;obtain⟨rfl,rfl⟩:=k
     have q:Al h (nid 90000+i)=none:=by cases j:Al h (nid 90000+i)<;>simp_all
     have A:=Step.newNone S (x:=Hc m.2) q rfl
     refine⟨J,fun b=>if b=nid 90000+i then none else β b,A,?_,fun b x j L=>?_⟩
     ·rw[Rep] at f;subst f;rw[Rep]
      exact⟨Hc m.2,none,0,⟨by simp only[Ak];rw[Ag,if_pos rfl],rfl⟩,rfl,Nat.le_refl _,.inl rfl⟩
     ·simp only[Ak] at j
      rw[Ag] at j
      by_cases e:b=nid 90000+i
      ·subst e;unfold nid Ja;omega
      ·rw[if_neg e,L] at j;cases j
    ·simp at d;obtain⟨rfl,rfl⟩:=d
     exact⟨J,β,Step.refl S,f,old (by simp[Be])⟩
   | false =>
    rw[l,cond_false] at d
    split at d
    ·rename_i c
     obtain⟨⟨G,I,K⟩,hq,k⟩:=ub d
     simp at k;obtain⟨rfl,rfl⟩:=k
     rw[Rep] at f
     obtain⟨cs,rfl,M⟩:=f
     obtain⟨J',A,hA,n,_⟩:=Uw S (Looks.s fun _ _ h=>h) hq M
     refine⟨J',β,A,?_,old (F_ hq)⟩
     rw[Rep]
     exact⟨cs,rfl,n.symm,hA⟩
    ·simp at d;obtain⟨rfl,rfl⟩:=d
     exact⟨J,β,Step.refl S,f,old (by simp[Be])⟩
    ·simp at d
theorem t_ {s:Im}:∀ (vals:LA) {i:Nat} {ms:List (Nat×Nat)} {h h':Ai} {vals':LA} {vs:List Value} {J:Bool→Nat→Prop} {β:Cn},
  Inv Z nt J β { s:=s,h:=h } a w→Apw h i ms vals=some (vals',h')→Reps J β h w vals vs →
  ∃ J' β',Inv Z nt J' β' { s:=s,h:=h' } a w∧Reps J' β' h' w vals' vs∧∀ x v,Rep J β h w x v→Rep J' β' h' w x v
 | [],i,ms,h,h',vals',vs,J,β,I,b,d=>by
  simp[Apw] at b;obtain⟨rfl,rfl⟩:=b
  exact⟨J,β,I,d,fun _ _ h=>h⟩
 | v::r,i,ms,h,h',vals',vs,J,β,I,b,d=>by
  rw[Apw] at b
  obtain⟨⟨v1,u1⟩,l,m⟩:=ub b
  obtain⟨⟨q,hr⟩,n,j⟩:=ub m
  simp at j;obtain⟨rfl,rfl⟩:=j
  rw[Reps] at d
  obtain⟨u,us,rfl,e,f⟩:=d
  obtain⟨J1,β1,A,hA,c⟩:=Av8 I.sim l e
  have I1:=I.step A c
  obtain⟨J2,β2,I2,hB,k⟩:=t_ r I1 n (Reps.ext A.ext f)
  refine⟨J2,β2,I2,?_,fun x v h=>k x v (Rep.ext A.ext h)⟩
  rw[Reps]
  exact⟨u,us,rfl,k _ _ hA,hB⟩
theorem Afl {E:Env} {fn:Func} {modes:List (Nat×Nat)} {outs:List Nat} {k:AV→Ai→O R} (I:Inv Z nt J β st a w) (q:DH E fn modes outs k st=some r) :
  ∃ e h' vc J' β',k e h'=some r∧(results fn a.tmps).run E.P w=.ok vc w∧FDone Z J' β' h' w∧Rep J' β' h' w e vc:=by
 unfold DH at q
 obtain⟨vals,vs,t,C,D⟩:=ME I.sim I.ss _ q
 simp only[List.reverse_nil,List.nil_append] at t
 obtain⟨⟨vals',h'⟩,F,G⟩:=ub t
 obtain⟨J1,β1,I1,hR,_⟩:=t_ (s:=st.s) vals I F D
 obtain⟨y,K⟩:=uc G
 simp at y
 obtain⟨hn,hs,hi,_⟩:=y
 have hn:=W4 hn
 have f:=Rv hi
 have hs:=Rv hs
 refine⟨_,_,Aqw vs,J1,VA _ _ β1,K,Aqx fn a.tmps C,?_,Rep.ren hn hs ?_⟩
 ·exact⟨I1.sim.ren hn f,I1.os,I1.tape,I1.output,I1.size,I1.frame,fun k L=>I1.wr k (Alv hn L),I1.jsub,I1.jup,I1.sizes,fun b x0 x h0 i M=>by
   obtain⟨z,x',d,j,m,rfl⟩:=Qs hn b x i
   have:=t8 d ⟨I1.zge b x0 h0,I1.zlt b x0 h0⟩ j
   subst this
   obtain⟨⟨e1,em⟩,S,e3,e4⟩:=I1.outs z x0 x' h0 m M
   refine⟨⟨?_,em⟩,S,by rw[Pb];exact e3,e4⟩
   have:=Ip (β:=β1) hn d
   rw[j] at this
   rw[this];exact e1,fun b x i=>by
   obtain⟨z,x',d,j,m,rfl⟩:=Qs hn b x i
   obtain⟨x2,n,T⟩:=Aqs d
   rw[m] at n;simp at n;subst n;exact T⟩
 ·match vals',vs,hR with
  | [],vs,hR=>rw[Reps] at hR;subst hR;simp only[Aqw,A67];rw[Rep];exact⟨[],rfl,by rw[Reps]⟩
  | [v],vs,hR =>
   rw[Reps] at hR
   obtain⟨u,us,rfl,A,c⟩:=hR
   rw[Reps] at c;subst c
   exact A
  | v::v2::l,vs,hR =>
   have hR':=hR
   rw[Reps] at hR
   obtain⟨u,us,rfl,A,c⟩:=hR
   rw[Reps] at c
   obtain⟨u2,us2,rfl,_,_⟩:=c
   simp only[Aqw,A67]
   rw[Rep]
   exact⟨_,rfl,hR'⟩
end
end Gx

namespace Gx
open Go
section
variable {J J':Bool→Nat→Prop} {β:Cn} {h:Ai} {w:World}
mutual
theorem Rep.noOrg:∀ {x:AV} {v:Value},MA x=false→Rep J β h w x v→Rep (fun _=>J false) β h w x v
 | .own ..,v,_,hr=>by rw[Rep] at hr ⊢;exact hr
 | .optr ..,v,_,hr=>by rw[Rep] at hr ⊢;exact hr
 | .omap ..,v,_,hr=>by rw[Rep] at hr ⊢;exact hr
 | .pagg c o,v,ho,hr=>by
  rw[MA] at ho;subst ho
  rw[Rep] at hr ⊢;exact hr
 | .agg c,v,ho,hr=>by
  rw[MA] at ho
  rw[Rep] at hr ⊢
  obtain⟨cs,h1,h2⟩:=hr
  exact⟨cs,h1,Reps.noOrg ho h2⟩
 | .tup c,v,ho,hr=>by
  rw[MA] at ho
  rw[Rep] at hr ⊢
  obtain⟨cs,h1,h2⟩:=hr
  exact⟨cs,h1,Reps.noOrg ho h2⟩
 | .fn f c,v,ho,hr=>by
  rw[MA] at ho
  rw[Rep] at hr ⊢
  obtain⟨cs,h1,h2⟩:=hr
  exact⟨cs,h1,Reps.noOrg ho h2⟩
 | .undef,_,_,_=>by rw[Rep];trivial
 | .imm c n sz t o,v,ho,hr=>by
  rw[MA] at ho;subst ho
  rw[Rep] at hr ⊢;exact hr
 | .iptr c o,v,ho,hr=>by
  rw[MA] at ho;subst ho
  rw[Rep] at hr ⊢;exact hr
 | .int ..,v,_,hr=>by rw[Rep] at hr ⊢;exact hr
 | .bool _,v,_,hr=>by rw[Rep] at hr ⊢;exact hr
 | .str _,v,_,hr=>by rw[Rep] at hr ⊢;exact hr
 | .nsl,v,_,hr=>by rw[Rep] at hr ⊢;exact hr
 | .nilptr,v,_,hr=>by rw[Rep] at hr ⊢;exact hr
 | .nilfn,v,_,hr=>by rw[Rep] at hr ⊢;exact hr
theorem Reps.noOrg:∀ {c:List AV} {cs:List Value},Ya c=false→Reps J β h w c cs→Reps (fun _=>J false) β h w c cs
 | [],_,_,hr=>by rw[Reps] at hr ⊢;exact hr
 | x::r,cs,ho,hr=>by
  rw[Ya] at ho
  simp at ho
  rw[Reps] at hr ⊢
  obtain⟨u,us,h1,h2,h3⟩:=hr
  exact⟨u,us,h1,Rep.noOrg ho.1 h2,Reps.noOrg ho.2 h3⟩
end
theorem zR:∀ {c:LA} {j:Nat} {x:AV},Ya c=false→c[j]?=some x→MA x=false
 | [],j,x,_,b=>by simp at b
 | y::r,j,x,d,b=>by
  rw[Ya] at d
  simp at d
  cases j with
  | zero=>simp at b;subst b;exact d.1
  | succ j=>exact zR d.2 (by simpa using b)
theorem zS:∀ {h:Ai} {b:Nat} {x:Blk},mO h=false→Al h b=some x→x.taint=false∧(x.pure=false→Ya x.cells=false)
 | [],b,x,_,c=>by simp[Al] at c
 | (i,y)::r,b,x,d,c=>by
  rw[mO] at d
  simp at d
  rw[Al] at c
  cases hi:Nat.beq i b with
  | true =>
   rw[hi] at c;simp at c;subst c
   refine⟨d.1.1,fun e=>?_⟩
   have:=d.1.2
   rw[e] at this;simpa using this
  | false=>rw[hi] at c;exact zS d.2 (by simpa using c)
theorem SimH.noOrg (S:SimH J β h w) (y:mO h=false):SimH (fun _=>J false) β h w:=by
 refine⟨fun _ k d=>S.jlt _ k d,fun k d=>d,S.gl.to (fun _ h=>h) (fun _ _=>rfl),fun b x e i l=>?_,fun b x e i l=>by
   obtain⟨m,n,k,ob,q,z,A,C⟩:=S.mblk b x e i l
   exact⟨m,n,k,ob,q,z,A,fun _ D=>C false D⟩,S.sep⟩
 obtain⟨t,F⟩:=zS y e
 rcases S.blk b x e i l with s | ⟨k,o,cs,ty,fr,s,G,I,K,v,L,M⟩
 ·exact .inl s
 ·refine .inr ⟨k,o,cs,ty,fr,s,G,I,K,⟨fun f=>?_,fun f j c d=>?_⟩,fun hs _=>L hs _,fun hs=>?_⟩
  ·have:=v.1 f;rw[t] at this;exact this
  ·obtain⟨u,m,n,q⟩:=v.2 f j c d
   exact⟨u,m,Rep.noOrg (zR (F f) d) n,q⟩
  ·have:=M hs;rw[t] at this;exact this
theorem Ext.grow (hJ:∀ o k,J o k→J' o k):Ext J β h w J' β h w:=⟨hJ,fun _ _ _=>rfl,fun b x c=>⟨x,⟨c,rfl⟩,by cases d:x.dead<;>simp⟩,fun _ _ _ _=>Nat.le_refl _⟩
theorem SimH.grow (S:SimH J β h w) (hJ:∀ o k,J o k→J' o k) (i:∀ o k,J' o k→k<w.heap.size) (j:∀ k,J' false k→J' true k)
  (c:∀ b x k o,Al h b=some x→x.dead=false→x.sealed=false→β b=some (k,o)→∀ g,¬ J' g k):SimH J' β h w:=by
 refine⟨i,j,S.gl.to (hJ false) (fun _ _=>rfl),fun b x d e l=>?_,fun b x d e l=>by
   obtain⟨q,m,k,ob,n,s,t,C⟩:=S.mblk b x d e l
   exact⟨q,m,k,ob,n,s,t,c b x k 0 d e m n⟩,S.sep⟩
 rcases S.blk b x d e l with f | ⟨k,o,cs,ty,fr,f,u,v,y,z,D,A⟩
 ·exact .inl f
 ·exact .inr ⟨k,o,cs,ty,fr,f,u,v,y,z.ext (Ext.grow hJ),fun hs=>c b x k o d e hs f,fun hs=>hJ _ _ (A hs)⟩
def A72 (β:Cn) (h:Ai) (fz:List Nat) (k:Nat):Prop:=∃ b x o,b ∈ fz∧Al h b=some x∧x.dead=false∧x.sealed=false∧β b=some (k,o)
def JS (J:Bool→Nat→Prop) (β:Cn) (h:Ai) (fz:List Nat):Bool→Nat→Prop:=fun o k=>J o k∨(o=true∧A72 β h fz k)
theorem zT {g:Bk} {b off n:Nat} {x:Blk} {vc:Value} {fz:List Nat} (S:SimH J β h w) (u:Looks g h) (c:Hb g b=some x) (v:x.pure=true) (y:x.sealed=false→b ∈ fz) (s:Rep J β h w (.own b off n) vc) :
  Rep (JS J β h fz) β h w (.imm ((x.cells.drop off).take (n*x.sz)) n x.sz false (!x.sealed||x.taint)) vc:=by
 unfold Hb at c
 obtain⟨x0,l,c⟩:=ub c
 obtain⟨m,c⟩:=Avo c
 simp at c;subst c
 have j:=u b _ l
 rw[Rep]
 have key:=(Azs (J':=fun o k=>o≠x0.taint∨JS J β h fz (!x0.sealed||x0.taint) k) S j m v s (fun k o q=>.inr ?_) (fun o k f=>?_) false (!x0.sealed||x0.taint)).2 (by simp)
 ·exact RepC.keep (fun k i=>by rcases i with i | i;exact absurd rfl i;exact i) (fun _ _=>rfl) key
 ·cases hs:x0.sealed with
  | false =>
   simp only[Bool.not_false,Bool.true_or]
   exact .inr ⟨rfl,b,x0,o,y hs,j,m,hs,q⟩
  | true =>
   simp only[Bool.not_true,Bool.false_or]
   rcases S.blk b x0 j m (A3k j s) with⟨d,_⟩ | ⟨A,o',cs,ty,fr,d,C,D,F,G,I,z⟩
   ·rw[q] at d;cases d
   ·rw[q] at d;simp at d;obtain⟨rfl,rfl⟩:=d
    exact .inl (z hs)
 ·by_cases e:o=x0.taint
  ·subst e
   right
   cases hs:x0.sealed with
   | false =>
    simp only[Bool.not_false,Bool.true_or]
    left
    cases t:x0.taint with
    | false=>rw[t] at f;exact S.jft k f
    | true=>rw[t] at f;exact f
   | true=>simp only[Bool.not_true,Bool.false_or];exact .inl f
  ·exact .inl e
theorem JS.mono (S:SimH J β h w) {fz:List Nat} {a b:Bool} (k:Nat) (c:JS J β h fz a k):JS J β h fz (a||b) k:=by
 cases a
 ·cases b
  ·exact c
  ·rcases c with c | ⟨d,_⟩
   ·exact .inl (S.jft k c)
   ·cases d
 ·exact c
theorem Afm {g:Bk} {v v':AV} {o:Bool} {vc:Value} {fz:List Nat} (S:SimH J β h w) (q:Looks g h) (d:RN g v=some (v',o)) (s:∀ b off n x,v=.own b off n→g b=some x→x.sealed=false→b ∈ fz) (f:Rep J β h w v vc) :
  RepC (JS J β h fz o) w v' vc:=by
 cases v
 case own b off n =>
  rw[RN] at d
  obtain⟨x,e,u⟩:=ub d
  obtain⟨y,m⟩:=uc u
  simp at m
  obtain⟨rfl,rfl⟩:=m
  have:=zT S q e y (fun hs=>by
   unfold Hb at e
   obtain⟨x0,i,e⟩:=ub e
   obtain⟨F,e⟩:=Avo e
   simp at e;subst e
   exact s b off n x0 rfl i hs) f
  rw[Rep] at this;exact this
 case imm c n sz t org =>
  simp[RN] at d;obtain⟨rfl,rfl⟩:=d
  rw[Rep,RepC] at f
  rw[RepC]
  obtain⟨e1,A,cap,z,e3,e4,j⟩:=f
  refine⟨e1,A,cap,z,e3,by simp,?_⟩
  rcases j with j | ⟨a,C,D,e8⟩
  ·exact .inl j
  ·exact .inr ⟨a,C,.inl D,RepCs.keep (fun k l=>.inl l) (fun _ _=>rfl) (fun _=>rfl) e8⟩
 case iptr c org =>
  simp[RN] at d;obtain⟨rfl,rfl⟩:=d
  rw[Rep] at f
  exact RepC.keep (fun k l=>.inl l) (fun _ _=>rfl) f
 all_goals first
  | (simp[RN] at d;done)
  | (simp[RN] at d;obtain⟨rfl,rfl⟩:=d;rw[Rep] at f;rw[RepC];exact f)
theorem aQ {g:Bk} {fz:List Nat} (S:SimH J β h w) (y:Looks g h):∀ {c f:LA} {o:Bool} {cs:List Value},aB g c=some (f,o)→(∀ b ∈ Mg g c,b ∈ fz)→Reps J β h w c cs →
  cs.length=f.length∧∀ (j:Nat) (x:AV),f[j]?=some x→∃ u,cs[j]?=some u∧RepC (JS J β h fz o) w x u
 | [],f,o,cs,d,m,i=>by
  simp[aB] at d;obtain⟨rfl,rfl⟩:=d
  rw[Reps] at i;subst i
  exact⟨rfl,fun j x l=>by simp at l⟩
 | v::r,f,o,cs,d,m,i=>by
  rw[aB] at d
  obtain⟨⟨v1,o1⟩,z,d⟩:=ub d
  obtain⟨⟨M,o2⟩,A,d⟩:=ub d
  simp at d;obtain⟨rfl,rfl⟩:=d
  rw[Reps] at i
  obtain⟨u,us,rfl,C,D⟩:=i
  have q:∀ b ∈ Mg g r,b ∈ fz:=fun b s=>m b (by
   cases v<;>simp only[Mg]<;>try exact s
   split
   ·rename_i x _;cases x.sealed<;>simp[s]
   ·exact s)
  have a1:=Afm (fz:=fz) S y z (fun b off n x e F hs=>m b (by subst e;simp[Mg,F,hs])) C
  obtain⟨G,I⟩:=aQ S y A q D
  refine⟨by simp[G],fun j x l=>?_⟩
  cases j with
  | zero=>simp at l;subst l;exact⟨u,by simp,RepC.keep (fun k t=>JS.mono S k t) (fun _ _=>rfl) a1⟩
  | succ j =>
   obtain⟨K,e1,L⟩:=I j x (by simpa using l)
   exact⟨K,by simpa using e1,RepC.keep (fun k t=>by rw[Bool.or_comm];exact JS.mono S k t) (fun _ _=>rfl) L⟩
theorem Afn {g:Bk} {v v':AV} {q:Bool} {vc:Value} {fz:List Nat} (S:SimH J β h w) (C:Looks g h) (e:Ak7 g v=some (v',q)) (D:∀ b ∈ NM g v,b ∈ fz) (i:Rep J β h w v vc) :
  Rep (JS J β h fz) β h w v' vc∧In v'=[]:=by
 unfold Ak7 at e
 split at e
 ·rename_i b off n
  obtain⟨x,d,f⟩:=ub e
  obtain⟨F,m⟩:=uc f
  simp at m
  obtain⟨rfl,_⟩:=m
  exact⟨zT S C d F (fun hs=>by
   unfold Hb at d
   obtain⟨x0,s,d⟩:=ub d
   obtain⟨y,d⟩:=Avo d
   simp at d;subst d
   exact D b (by simp[NM,s,hs])) i,by simp[In]⟩
 ·simp at e;obtain⟨rfl,_⟩:=e
  refine⟨?_,by simp[In]⟩
  rw[Rep,RepC] at i ⊢
  obtain⟨e1,A,cap,G,e3,e4,I⟩:=i
  refine⟨e1,A,cap,G,e3,by simp,?_⟩
  rcases I with I | ⟨a,T,U,e8⟩
  ·exact .inl I
  ·exact .inr ⟨a,T,.inl U,RepCs.keep (fun k V=>.inl V) (fun _ _=>rfl) (fun _=>rfl) e8⟩
 ·rename_i b off
  obtain⟨x,d,f⟩:=ub e
  obtain⟨F,m⟩:=uc f
  simp at m
  obtain⟨rfl,_⟩:=m
  unfold Hb at d
  obtain⟨x0,s,d⟩:=ub d
  obtain⟨y,d⟩:=Avo d
  simp at d;subst d
  have K:=C b _ s
  refine⟨?_,by simp[In]⟩
  rw[Rep] at i
  obtain⟨x1,k,o,⟨L,gm⟩,X,t⟩:=i
  rw[K] at L;simp at L;subst L
  rcases t with t | t
  ·simp[y] at t
  ·rcases S.blk b x0 K y gm with⟨f,_⟩ | ⟨k',o',cs,ty,fr,f,m,h3,h4,Y,h6,h7⟩
   ·rw[t] at f;cases f
   ·rw[t] at f;simp at f;obtain⟨rfl,rfl⟩:=f
    have M:∀ z,J x0.taint z→JS J β h fz (!x0.sealed||x0.taint) z:=by
     intro z l
     left
     cases hs:x0.sealed with
     | false =>
      simp only[Bool.not_false,Bool.true_or]
      cases O:x0.taint with
      | false=>rw[O] at l;exact S.jft z l
      | true=>rw[O] at l;exact l
     | true=>simp only[Bool.not_true,Bool.false_or];exact l
    rw[Rep,RepC]
    refine⟨_,X,?_,?_⟩
    ·cases hs:x0.sealed with
     | false =>
      simp only[Bool.not_false,Bool.true_or]
      exact .inr ⟨rfl,b,x0,o,D b (by simp[NM,s,hs]),K,y,hs,t⟩
     | true =>
      simp only[Bool.not_true,Bool.false_or]
      exact .inl (h7 hs)
    ·refine RepCs.keep M (fun _ _=>rfl) (fun j=>?_) ((Y.1 F).drop off)
     rw[Addr.add_mid,Uv m,Nat.add_assoc]
 ·rename_i c
  obtain⟨⟨c1,o1⟩,f,m⟩:=ub e
  simp at m;obtain⟨rfl,_⟩:=m
  rw[Rep] at i
  obtain⟨cs,rfl,i⟩:=i
  obtain⟨b1,b2⟩:=aQ (fz:=fz) S C f (by simpa[NM] using D) i
  refine⟨?_,by simp[In]⟩
  rw[Rep]
  refine⟨cs,rfl,b1,?_⟩
  rw[Cm]
  intro j x l
  obtain⟨u,e1,G⟩:=b2 j x l
  exact⟨u,by simpa using e1,G⟩
 ·simp at e;obtain⟨rfl,_⟩:=e
  exact⟨Rep.ext (Ext.grow fun _ _ l=>.inl l) i,by simp[In,Km]⟩
 ·simp at e
 ·simp at e
 ·simp at e
 ·simp at e
 ·simp at e;obtain⟨rfl,_⟩:=e
  refine⟨Rep.ext (Ext.grow fun _ _ l=>.inl l) i,?_⟩
  cases v<;>first | rfl | simp_all
theorem GC {g:Bk} {fz:List Nat} (S:SimH J β h w) (n:Looks g h):∀ {f:LA} {ms:List Bool} {args':LA} {im e:List Nat} {vs:List Value},
  NN g ms f=some (args',im,e)→(∀ b ∈ e,b ∈ fz)→Reps J β h w f vs→Reps (JS J β h fz) β h w args' vs∧∀ b ∈ Km args',b ∈ im
 | [],ms,args',im,e,vs,d,m,i=>by
  simp[NN] at d;obtain⟨rfl,rfl,rfl⟩:=d
  rw[Reps] at i;subst i
  exact⟨by rw[Reps],by simp[Km]⟩
 | v::r,ms,args',im,e,vs,d,m,i=>by
  rw[NN] at d
  rw[Reps] at i
  obtain⟨u,us,rfl,j,k⟩:=i
  cases x:ms.headD false with
  | true =>
   rw[x,cond_true] at d
   obtain⟨⟨a2,i2,y⟩,q,l⟩:=ub d
   simp at l;obtain⟨rfl,rfl,rfl⟩:=l
   obtain⟨s,t⟩:=GC S n q m k
   refine⟨by rw[Reps];exact⟨u,us,rfl,Rep.ext (Ext.grow fun _ _ z=>.inl z) j,s⟩,fun b c=>?_⟩
   rw[Km] at c
   rcases List.mem_append.1 c with c | c
   ·exact List.mem_append.2 (.inl c)
   ·exact List.mem_append.2 (.inr (t b c))
  | false =>
   rw[x,cond_false] at d
   obtain⟨⟨v1,C⟩,h0,d⟩:=ub d
   obtain⟨⟨a2,i2,y⟩,q,l⟩:=ub d
   simp at l;obtain⟨rfl,rfl,rfl⟩:=l
   obtain⟨e1,A⟩:=Afn S n h0 (fun b c=>m b (List.mem_append.2 (.inl c))) j
   obtain⟨s,t⟩:=GC S n q (fun b c=>m b (List.mem_append.2 (.inr c))) k
   refine⟨by rw[Reps];exact⟨u,us,rfl,e1,s⟩,fun b c=>?_⟩
   rw[Km,A] at c
   exact t b (by simpa using c)
end
end Gx

namespace Gx
open Go
theorem Aip {g g':Bk} {ρ:Nat→Nat}:∀ {ids:List Nat},(∀ b ∈ ids,g b=g' b)→sub g ρ ids=sub g' ρ ids
 | [],_=>rfl
 | b::r,h=>by
  rw[sub,sub,h b (by simp),Aip (fun c d=>h c (by simp[d]))]
theorem aR {g:Bk}:∀ {l:List Nat},aD g l=true→∀ b ∈ l,∃ x,g b=some x∧x.dead=false
 | [],_,b,c=>by simp at c
 | i::r,h,b,c=>by
  rw[aD] at h
  simp at h
  rcases List.mem_cons.1 c with rfl | c
  ·cases d:g b with
   | none=>rw[d] at h;simp at h
   | some x=>rw[d] at h;exact⟨x,rfl,by simpa using h.1⟩
  ·exact aR h.2 b c
theorem Az0:∀ {l m:List Nat},Apu l m=true→∀ b ∈ l,b ∉ m
 | [],m,_,b,c=>by simp at c
 | i::r,m,h,b,c=>by
  rw[Apu] at h
  simp at h
  rcases List.mem_cons.1 c with rfl | c
  ·intro d;have:=Nn.2 d;rw[this] at h;simp at h
  ·exact Az0 h.2 b c
theorem NX {d:Nat}:∀ {l:List (Nat×Nat)} {b:Nat},b ∈ l.map (·.1)→Ky d l b ∈ l.map (·.2)
 | [],b,c=>by simp at c
 | (i,x)::r,b,c=>by
  rw[Ky]
  cases hi:Nat.beq i b with
  | true=>simp
  | false =>
   have e:b ∈ r.map (·.1):=by
    rw[List.map_cons] at c
    rcases List.mem_cons.1 c with h | h
    ·exact absurd h.symm (BU hi)
    ·exact h
   simp only[cond_false,List.map_cons]
   exact List.mem_cons_of_mem _ (NX e)
theorem DL {d:Nat}:∀ {l m:List (Nat×Nat)} {b:Nat},Ky d (l++m) b=if b ∈ l.map (·.1) then Ky d l b else Ky d m b
 | [],m,b=>by simp
 | (i,x)::r,m,b=>by
  rw[List.cons_append,Ky,Ky,DL]
  cases hi:Nat.beq i b with
  | true=>have:=Nat.eq_of_beq_eq_true hi;subst this;simp
  | false =>
   have:=BU hi
   simp only[cond_false,List.map_cons,List.mem_cons]
   by_cases c:b ∈ r.map (·.1)
   ·rw[if_pos c,if_pos (.inr c)]
   ·rw[if_neg c,if_neg (by rintro(h | h);exact this h.symm;exact c h)]
theorem Mi:∀ {base:Nat} {l:List Nat},(A7 base l).map (·.1)=l
 | _,[]=>rfl
 | base,i::r=>by rw[A7,List.map_cons,Mi]
theorem zU {d f:Nat}:∀ {l:List Nat} {base b:Nat},b ∈ l→Ky f ((A7 base l).map fun p=>(p.2,p.1)) (Ky d (A7 base l) b)=b
 | [],base,b,c=>by simp at c
 | i::r,base,b,c=>by
  rw[A7,Ky,List.map_cons,Ky]
  cases hi:Nat.beq i b with
  | true=>have:=Nat.eq_of_beq_eq_true hi;subst this;simp
  | false =>
   have e:b ∈ r:=by
    rcases List.mem_cons.1 c with h | h
    ·exact absurd h.symm (BU hi)
    ·exact h
   simp only[cond_false]
   have j:=GB (d:=d) (base:=base+1) e
   rw[ZM (show base≠Ky d (A7 (base+1) r) b by omega)]
   exact zU e
theorem W6:∀ {base:Nat} {l:List Nat} {c:Nat},c ∈ (A7 base l).map (·.2)→base≤c∧c<base+l.length
 | _,[],c,b=>by simp[A7] at b
 | base,i::r,c,b=>by
  rw[A7,List.map_cons] at b
  rcases List.mem_cons.1 b with h | h
  ·simp at h;subst h;simp
  ·have:=W6 h;simp only[List.length_cons];omega
theorem GD:∀ {base:Nat} {l:List Nat},((A7 base l).map (·.2)).Nodup
 | _,[]=>by simp[A7]
 | base,i::r=>by
  rw[A7,List.map_cons,List.nodup_cons]
  exact⟨fun h=>by have:=W6 h;simp at this;omega,GD⟩
theorem aS:∀ {base:Nat} {l:List Nat} {b:Nat},b ∈ l→(b,Ky 0 (A7 base l) b) ∈ A7 base l
 | _,[],b,c=>by simp at c
 | base,i::r,b,c=>by
  rw[A7,Ky]
  cases hi:Nat.beq i b with
  | true=>have:=Nat.eq_of_beq_eq_true hi;subst this;simp
  | false =>
   have d:b ∈ r:=by
    rcases List.mem_cons.1 c with h | h
    ·exact absurd h.symm (BU hi)
    ·exact h
   simp only[cond_false]
   exact List.mem_cons_of_mem _ (aS d)
def Av9 (x:Blk):Blk:={ x with dead:=true,pure:=true,cells:=[] }
theorem Pc:∀ {ups:Fx} {h:Ai} {b:Nat} {o:Option Blk},(ups.map (·.1)).Nodup→(b,o) ∈ ups→Al (Ak ups h) b=match o with | some x=>some x | none=>(Al h b).map Av9
 | [],h,b,o,_,j=>by simp at j
 | (i,y)::r,h,b,o,hn,j=>by
  rw[List.map_cons,List.nodup_cons] at hn
  rcases List.mem_cons.1 j with k | c
  ·simp at k
   obtain⟨rfl,rfl⟩:=k
   have d:Be r b=false:=by
    have:∀ {r:Fx},b ∉ r.map (·.1)→Be r b=false:=by
     intro r
     induction r with
     | nil=>intro _;rfl
     | cons p r l =>
      intro h
      simp only[List.map_cons,List.mem_cons,not_or] at h
      rw[Be,ZM (fun e=>h.1 e.symm)]
      exact l h.2
    exact this hn.1
   cases o with
   | some x=>rw[Ak,C4 _ _ _ d,Ag,if_pos rfl]
   | none =>
    rw[Ak,C4 _ _ _ d]
    cases m:Al h b with
    | none=>simp[m]
    | some x=>simp only[Option.map_some];rw[Ag,if_pos rfl];rfl
  ·have f:b≠i:=fun e=>by subst e;exact hn.1 (List.mem_map.2 ⟨_,c,rfl⟩)
   cases y with
   | some x =>
    rw[Ak,Pc hn.2 c]
    cases o with
    | some _=>rfl
    | none=>simp only;rw[Ag,if_neg f]
   | none =>
    rw[Ak,Pc hn.2 c]
    cases o with
    | some _=>rfl
    | none =>
     simp only
     split
     ·rw[Ag,if_neg f]
     ·rfl
theorem r8:∀ {ups:Fx} {b:Nat},Be ups b=true↔b ∈ ups.map (·.1)
 | [],b=>by simp[Be]
 | (i,y)::r,b=>by
  rw[Be,List.map_cons,List.mem_cons,←r8]
  cases hi:Nat.beq i b with
  | true=>have:=Nat.eq_of_beq_eq_true hi;subst this;simp
  | false=>have:=BU hi;simp;intro e;exact absurd e.symm this
theorem zV {β:Cn} {h:Ai} {ρ:Nat→Nat} {ids:List Nat} (hn:(ids.map ρ).Nodup) {k:Nat} (f:Apy (VA ρ ids β) (sub (Al h) ρ ids) k) :
  ∃ b x o,b ∈ ids∧Al h b=some x∧x.dead=false∧x.sealed=false∧β b=some (k,o):=by
 obtain⟨c,y,o,i,j,hs,d⟩:=f
 obtain⟨b,x,e,rfl,l,rfl⟩:=Qs hn c y i
 rw[Ip hn e] at d
 exact⟨b,x,o,e,l,j,hs,d⟩
theorem SimH.unJ {J:Bool→Nat→Prop} {β:Cn} {h:Ai} {w:World} (S:SimH J β h w) {b:Nat} {x:Blk} {k o:Nat} (e:Al h b=some x) (f:x.dead=false) (hs:x.sealed=false) (d:β b=some (k,o)):∀ g,¬ J g k:=by
 cases i:x.mp with
 | false =>
  rcases S.blk b x e f i with⟨c,_⟩ | ⟨l,o2,cs,ty,fr,c,j,n,q,s,m,t⟩
  ·rw[d] at c;cases c
  ·rw[d] at c;simp at c;obtain⟨rfl,rfl⟩:=c
   exact m hs
 | true =>
  obtain⟨_,_,l,ob,c,_,_,j⟩:=S.mblk b x e f i
  rw[d] at c;simp at c;obtain⟨rfl,_⟩:=c
  exact j
theorem SimH.seJ {J:Bool→Nat→Prop} {β:Cn} {h:Ai} {w:World} (S:SimH J β h w) {b:Nat} {x:Blk} {k o:Nat} (d:Al h b=some x) (e:x.dead=false) (hs:x.sealed=true) (f:β b=some (k,o)):J x.taint k:=by
 cases i:x.mp with
 | false =>
  rcases S.blk b x d e i with⟨c,_⟩ | ⟨l,o2,cs,ty,fr,c,m,n,q,s,t,j⟩
  ·rw[f] at c;cases c
  ·rw[f] at c;simp at c;obtain⟨rfl,rfl⟩:=c
   exact j hs
 | true =>
  have:=(S.mblk b x d e i).2.1
  rw[hs] at this;cases this
theorem Step.merge {J J0 J1:Bool→Nat→Prop} {β β1:Cn} {h O H:Ai} {w w':World} {D ids:List Nat} (S:SimH J β h w) (S1:SimH J0 β1 O w')
  (hH:∀ b,b ∉ D→Al H b=Al h b)
  (hD:∀ b x,b ∈ D→Al H b=some x→x.dead=false→Al O b=some x)
  (hD1:∀ b x,Al O b=some x→b ∈ D∧Al H b=some x)
  (T:∀ b x,b ∈ D→b ∉ ids→Al h b≠some x)
  (U:∀ b x,b ∈ ids→Al h b=some x→∃ x',(Al H b=some x'∧x'.mp=x.mp)∧(x'.dead=true∨(x.dead=false∧β1 b=β b∧x'.sz=x.sz∧(x.mp=false→x'.cells.length=x.cells.length))))
  (t:∀ b ∈ ids,b ∈ D)
  (os:w'.os=w.os) (tape:w'.tape=w.tape) (output:w'.output=w.output) (size:w.heap.size≤w'.heap.size)
  (frame:∀ k,k<w.heap.size→(¬ ∃ b x o,b ∈ ids∧Al h b=some x∧x.dead=false∧x.sealed=false∧β b=some (k,o))→w'.heap[k]?=w.heap[k]?)
  (wr:∀ k,Apy β1 O k→k<w.heap.size→∃ b x o,b ∈ ids∧Al h b=some x∧x.dead=false∧x.sealed=false∧β b=some (k,o))
  (jup:∀ o k,J0 o k→J o k∨(∃ b x o,b ∈ ids∧Al h b=some x∧x.dead=false∧x.sealed=false∧β b=some (k,o))∨w.heap.size≤k)
  (sizes:∀ k,Bh w k≤Bh w' k) :
  Step J β h w (fun o k=>J o k∨J0 o k) (fun b=>if b ∈ D then β1 b else β b) H w'∧Ext J0 β1 O w' (fun o k=>J o k∨J0 o k) (fun b=>if b ∈ D then β1 b else β b) H w':=by
 have E0:Ext J0 β1 O w' (fun o k=>J o k∨J0 o k) (fun b=>if b ∈ D then β1 b else β b) H w':=by
  refine⟨fun _ _ c=>.inr c,fun _ _ _=>rfl,fun b x d=>?_,fun _ _ _ _=>Nat.le_refl _⟩
  obtain⟨n,s⟩:=hD1 b x d
  refine⟨x,⟨s,rfl⟩,?_⟩
  cases f:x.dead
  ·exact .inr ⟨rfl,by simp[n],rfl,fun _=>rfl⟩
  ·exact .inl rfl
 have keepJ:∀ o k,J o k→w'.heap[k]?=w.heap[k]?:=by
  intro o k c
  refine frame k (S.jlt o k c) ?_
  rintro⟨b,x,o',_,d,f,hs,l⟩
  exact S.unJ d f hs l o c
 have E:Ext J β h w (fun o k=>J o k∨J0 o k) (fun b=>if b ∈ D then β1 b else β b) H w':=by
  refine⟨fun _ _ c=>.inl c,keepJ,fun b x d=>?_,fun b k o _=>sizes k⟩
  by_cases hi:b ∈ ids
  ·obtain⟨x',n,s⟩:=U b x hi d
   refine⟨x',n,?_⟩
   simp only[t b hi,if_true]
   exact s
  ·have V:b ∉ D:=fun f=>T b x f hi d
   refine⟨x,⟨by rw[hH b V];exact d,rfl⟩,?_⟩
   cases f:x.dead
   ·exact .inr ⟨rfl,by simp[V],rfl,fun _=>rfl⟩
   ·exact .inl rfl
 have out:∀ {b x},b ∉ D→Al H b=some x→Al h b=some x:=fun d q=>by rw[←hH _ d];exact q
 refine⟨⟨E,⟨?_,?_,S.gl.ext E,fun b x q f K=>?_,fun b x q f K=>by
   by_cases d:b ∈ D
   ·have n:=hD b x d q f
    have M:=S1.mblk b x n f K
    refine M.keep (by simp[d]) (fun _ _ _=>rfl) (fun g k o l c=>?_)
    rcases c with c | c
    ·exfalso
     by_cases y:k<w.heap.size
     ·obtain⟨z,x',o',j,m,i,u,e⟩:=wr k ⟨b,x,o,n,f,M.2.1,l⟩ y
      exact S.unJ m i u e g c
     ·exact y (S.jlt g k c)
    ·exact c
   ·have n:=out d q
    have M:=S.mblk b x n f K
    have v:∀ k o,β b=some (k,o)→¬ ∃ b x o,b ∈ ids∧Al h b=some x∧x.dead=false∧x.sealed=false∧β b=some (k,o):=by
     rintro k o s ⟨z,x',o',j,m,i,u,e⟩
     have:=S.sep b z x x' k o o' n m f i M.2.1 s e
     subst this
     exact d (t b j)
    refine M.keep (by simp[d]) (fun k o l=>frame k (BG S n f l) (v k o l)) (fun g k o l c=>?_)
    rcases c with c | c
    ·exact c
    ·rcases jup g k c with c | c | c
     ·exact c
     ·exact absurd c (v k o l)
     ·have:=BG S n f l;omega,?_⟩,os,tape,output,size,?_,?_,?_⟩,E0⟩
 ·rintro o k (c | c)
  ·exact Nat.lt_of_lt_of_le (S.jlt o k c) size
  ·exact S1.jlt o k c
 ·rintro k (c | c)
  ·exact .inl (S.jft k c)
  ·exact .inr (S1.jft k c)
 ·by_cases d:b ∈ D
  ·have n:=hD b x d q f
   rcases S1.blk b x n f K with⟨s,I⟩ | ⟨k,o,cs,ty,fr,s,I,h5,h6,h7,Y,h9⟩
   ·exact .inl ⟨by simp[d,s],I⟩
   ·refine .inr ⟨k,o,cs,ty,fr,by simp[d,s],I,h5,h6,h7.ext E0,fun hs g c=>?_,fun hs=>.inr (h9 hs)⟩
    rcases c with c | c
    ·by_cases y:k<w.heap.size
     ·obtain⟨z,x',o',j,m,i,u,e⟩:=wr k ⟨b,x,o,n,f,hs,s⟩ y
      exact S.unJ m i u e g c
     ·exact y (S.jlt g k c)
    ·exact Y hs g c
  ·have n:=out d q
   rcases S.blk b x n f K with⟨s,I⟩ | ⟨k,o,cs,ty,fr,s,I,h5,h6,h7,Y,h9⟩
   ·exact .inl ⟨by simp[d,s],I⟩
   ·have y:=RT I
    have v:x.sealed=false→¬ ∃ b x o,b ∈ ids∧Al h b=some x∧x.dead=false∧x.sealed=false∧β b=some (k,o):=by
     rintro hs ⟨z,x',o',j,m,i,u,e⟩
     have:=S.sep b z x x' k o o' n m f i hs s e
     subst this
     exact d (t b j)
    have same:w'.heap[k]?=w.heap[k]?:=by
     cases hs:x.sealed with
     | false=>exact frame k y (v hs)
     | true=>exact keepJ _ k (h9 hs)
    refine .inr ⟨k,o,cs,ty,fr,by simp[d,s],by rw[same];exact I,h5,h6,h7.ext E,fun hs g c=>?_,fun hs=>.inl (h9 hs)⟩
    rcases c with c | c
    ·exact Y hs g c
    ·rcases jup g k c with c | c | c
     ·exact Y hs g c
     ·exact v hs c
     ·omega
 ·intro b z x x' k o o' q m f i hs l e
  by_cases d:b ∈ D<;>by_cases j:z ∈ D
  ·simp[d] at l;simp[j] at e
   exact S1.sep b z x x' k o o' (hD b x d q f) (hD z x' j m i) f i hs l e
  ·exfalso
   simp[d] at l;simp[j] at e
   have n:=out j m
   have y:=BG S n i e
   obtain⟨X,x2,o2,L,A,C,G,F⟩:=wr k ⟨b,x,o,hD b x d q f,f,hs,l⟩ y
   have:=S.sep X z x2 x' k o2 o' A n C i G F e
   subst this
   exact j (t _ L)
  ·exfalso
   simp[d] at l;simp[j] at e
   have n:=out d q
   have s:=hD z x' j m i
   have y:=BG S n f l
   have v:¬ ∃ b x o,b ∈ ids∧Al h b=some x∧x.dead=false∧x.sealed=false∧β b=some (k,o):=by
    rintro⟨X,x2,o2,L,A,C,G,F⟩
    have:=S.sep b X x x2 k o o2 n A f C hs l F
    subst this
    exact d (t _ L)
   cases u:x'.sealed with
   | false=>exact v (wr k ⟨z,x',o',s,i,u,e⟩ y)
   | true =>
    rcases jup _ k (S1.seJ s i u e) with c | c | c
    ·exact S.unJ n f hs l _ c
    ·exact v c
    ·omega
  ·simp[d] at l;simp[j] at e
   exact S.sep b z x x' k o o' (out d q) (out j m) f i hs l e
 ·intro k y K
  exact frame k y (fun ⟨b,x,o,_,q,f,hs,l⟩=>K ⟨b,x,o,q,f,hs,l⟩)
 ·rintro k ⟨b,x,o,q,f,hs,l⟩ y
  by_cases d:b ∈ D
  ·simp[d] at l
   obtain⟨X,x2,o2,_,A,C,G,F⟩:=wr k ⟨b,x,o,hD b x d q f,f,hs,l⟩ y
   exact⟨X,x2,o2,A,C,G,F⟩
  ·simp[d] at l
   exact⟨b,x,o,out d q,f,hs,l⟩
 ·rintro o k (c | c)
  ·exact .inl c
  ·rcases jup o k c with c | ⟨b,x,o2,_,q,f,hs,l⟩ | c
   ·exact .inl c
   ·exact .inr (.inl ⟨b,x,o2,q,f,hs,l⟩)
   ·exact .inr (.inr c)
end Gx

namespace Gx
open Go
theorem Awa {l:List Nat}:Ak8 l=true↔l=[]:=by cases l<;>simp[Ak8]
theorem SC {α β:Type} {f:α→β}:∀ {l:List α},(l.map f).Nodup→l.Nodup
 | [],_=>List.nodup_nil
 | a::r,h=>by
  rw[List.map_cons,List.nodup_cons] at h
  exact List.nodup_cons.2 ⟨fun b=>h.1 (List.mem_map.2 ⟨a,b,rfl⟩),SC h.2⟩
theorem SD {α:Type} {p:α→Bool}:∀ {l:List α},l.Nodup→(l.filter p).Nodup
 | [],_=>List.nodup_nil
 | a::r,h=>by
  rw[List.nodup_cons] at h
  rw[List.filter_cons]
  split
  ·exact List.nodup_cons.2 ⟨fun b=>h.1 (List.mem_filter.1 b).1,SD h.2⟩
  ·exact SD h.2
theorem m8 {base:Nat} {l:List Nat} {p:Nat×Nat} (b:p ∈ A7 base l):p.1 ∈ l:=by
 have:p.1 ∈ (A7 base l).map (·.1):=List.mem_map.2 ⟨p,b,rfl⟩
 rw[Mi] at this;exact this
theorem Az1 {σ:Nat→Nat}:∀ {l:List Nat} {a b:Nat},(l.map σ).Nodup→a ∈ l→b ∈ l→σ a=σ b→a=b
 | [],a,b,_,e,_,_=>by simp at e
 | i::r,a,b,hn,e,j,f=>by
  rw[List.map_cons,List.nodup_cons] at hn
  rcases List.mem_cons.1 e with c | c<;>rcases List.mem_cons.1 j with d | d
  ·rw[c,d]
  ·subst c;exact absurd (List.mem_map.2 ⟨b,d,f.symm⟩) hn.1
  ·subst d;exact absurd (List.mem_map.2 ⟨a,c,f⟩) hn.1
  ·exact Az1 hn.2 c d f
theorem A3u {E:Env} (hT:zQ E.P E.tbl):lI E:=by
 intro R r k J β h w g d f args vs S hl hh hv
 unfold Aif at hh
 obtain⟨⟨args',im,fz⟩,C,h1⟩:=ub hh
 simp only at h1
 obtain⟨n,h2⟩:=uc h1
 simp only[Bool.and_eq_true] at n
 obtain⟨U,Y,V,hdj,s,_⟩:=n
 generalize hids:FW g im=ids at *
 generalize hρ:Ky 0 (A7 100000 ids)=ρ at *
 have U:=aR U
 have Y:=Rv Y
 have hdj:=Az0 hdj
 have s:=W4 s
 have hg:∀ b ∈ ids,g b=Al h b:=fun b j=>by obtain⟨x,m,_⟩:=U b j;rw[m,hl b x m]
 rw[IR (g:=Al h) hg] at V
 have V:=Rv V
 rw[Aip (g':=Al h) hg] at h2
 obtain⟨hA,hB⟩:=GC (fz:=fz) S hl C (fun _ h=>h) hv
 have aliveH:∀ b ∈ ids,∃ x,Al h b=some x∧x.dead=false:=fun b j=>by obtain⟨x,m,G⟩:=U b j;exact⟨x,hl b x m,G⟩
 have SJ:SimH (JS J β h fz) (VA ρ ids β) (sub (Al h) ρ ids) w:=by
  refine(S.ren s V).grow (fun o k t=>.inl t) ?_ ?_ ?_
  ·rintro o k (t | ⟨_,b,x,o',_,m,G,_,hβ⟩)
   ·exact S.jlt o k t
   ·exact BG S m G hβ
  ·rintro k (t | ⟨h0,_⟩)
   ·exact .inl (S.jft k t)
   ·cases h0
  ·intro c y k o hy G hs hβ q t
   obtain⟨b,x,j,rfl,m,rfl⟩:=Qs s c y hy
   rw[Ip s j] at hβ
   rcases t with t | ⟨_,b',x',o',hb',hx',hd',hs',hβ'⟩
   ·exact S.unJ m G hs hβ _ t
   ·have:=S.sep b b' x x' k o o' m hx' G hd' hs hβ hβ'
    subst this
    exact hdj b hb' j
 have RJ:Reps (JS J β h fz) (VA ρ ids β) (sub (Al h) ρ ids) w (BT ρ args') vs:=Reps.ren s (fun b j=>Y b (hB b j)) hA
 obtain⟨rv,rh,hF,h3⟩:=Aqv hT h2
 have hcall:=hF _ _ w vs SJ RJ
 obtain⟨z,h4⟩:=Avo h3
 obtain⟨hc2,h5⟩:=uc h4
 simp only[Bool.and_eq_true] at hc2
 obtain⟨I,X,hrv,v,K,u⟩:=hc2
 generalize hall:FW (Al rh) (In rv++(A7 100000 ids).map (·.2))=all at *
 generalize L:all.filter (fun b=>!Kn ((A7 100000 ids).map (·.2)) b)=new at *
 generalize hσ:Ky 0 ((A7 100000 ids).map (fun p=>(p.2,p.1))++A7 (nid d) new)=σ at *
 have I:=aR I
 have hrv:=Rv hrv
 have v:=Rv v
 have K:=Rv K
 have u:=W4 u
 have X:new.length≤16:=by simpa using X
 refine⟨_,_,h5,fun hfree=>Calls.mono hcall ?_⟩
 rintro e w' ⟨vc,J',β',rfl,F,hR⟩
 refine⟨vc,rfl,?_⟩
 have back:∀ b ∈ ids,σ (ρ b)=b:=by
  intro b j
  rw[←hσ,DL,if_pos,←hρ]
  ·exact zU j
  ·rw[List.map_map]
   have:=NX (d:=0) (l:=A7 100000 ids) (b:=b) (by rw[Mi];exact j)
   rw[hρ] at this
   exact this
 have ρall:∀ b ∈ ids,ρ b ∈ all:=by
  intro b j
  refine v _ ?_
  have:=NX (d:=0) (l:=A7 100000 ids) (b:=b) (by rw[Mi];exact j)
  rw[hρ] at this
  exact this
 have σout:∀ c ∈ all,c ∈ (A7 100000 ids).map (·.2)→σ c ∈ ids:=by
  intro c _ n
  rw[←hσ,DL,if_pos (by rw[List.map_map];exact n)]
  have:=NX (d:=0) (l:=(A7 100000 ids).map (fun p=>(p.2,p.1))) (b:=c) (by rw[List.map_map];exact n)
  rw[List.map_map] at this
  have e:(A7 100000 ids).map ((fun x=>x.2)∘fun p=>(p.2,p.1))=ids:=Mi
  rw[e] at this
  exact this
 have newmem:∀ c ∈ new,c ∈ all∧c ∉ (A7 100000 ids).map (·.2):=by
  intro c n
  rw[←L] at n
  obtain⟨O,h7⟩:=List.mem_filter.1 n
  refine⟨O,fun A=>?_⟩
  rw[Nn.2 A] at h7;simp at h7
 have σnew:∀ c ∈ new,σ c=Ky 0 (A7 (nid d) new) c:=by
  intro c n
  rw[←hσ,DL,if_neg]
  rw[List.map_map];exact(newmem c n).2
 have allcases:∀ c ∈ all,c ∈ (A7 100000 ids).map (·.2)∨c ∈ new:=by
  intro c n
  by_cases A:c ∈ (A7 100000 ids).map (·.2)
  ·exact .inl A
  ·refine .inr ?_
   rw[←L]
   refine List.mem_filter.2 ⟨n,?_⟩
   cases hq:Kn ((A7 100000 ids).map (·.2)) c with
   | false=>rfl
   | true=>exact absurd (Nn.1 hq) A
 generalize T:((A7 100000 ids).map fun p=>(p.1,(Al rh p.2).map (IH σ)))++(A7 (nid d) new).map (fun p=>(p.2,(Al rh p.1).map (IH σ)))=ups at *
 have keys:ups.map (·.1)=ids++(A7 (nid d) new).map (·.2):=by
  rw[←T,List.map_append,List.map_map,List.map_map]
  congr 1
  exact Mi
 have newFree:∀ c ∈ (A7 (nid d) new).map (·.2),Al h c=none:=by
  intro c n
  refine hfree c (r8.2 (by rw[keys];exact List.mem_append.2 (.inr n))) ?_
  have:=W6 n
  unfold NO
  simp;omega
 have keysN:(ups.map (·.1)).Nodup:=by
  rw[keys,List.nodup_append]
  refine⟨SC s,GD,fun a ha b j e=>?_⟩
  subst e
  obtain⟨x,m,_⟩:=aliveH a ha
  rw[newFree a j] at m;cases m
 have upsOld:∀ b ∈ ids,(b,(Al rh (ρ b)).map (IH σ)) ∈ ups:=by
  intro b j
  rw[←T]
  refine List.mem_append.2 (.inl (List.mem_map.2 ⟨(b,ρ b),?_,rfl⟩))
  rw[←hρ];exact aS j
 have upsNew:∀ c ∈ new,(σ c,(Al rh c).map (IH σ)) ∈ ups:=by
  intro c n
  rw[←T]
  refine List.mem_append.2 (.inr (List.mem_map.2 ⟨(c,σ c),?_,rfl⟩))
  rw[σnew c n];exact aS n
 have J0:∃ J0:Bool→Nat→Prop,SimH J0 β' rh w'∧Rep J0 β' rh w' rv vc∧∀ o k,J0 o k→J o k∨Apy (VA ρ ids β) (sub (Al h) ρ ids) k∨w.heap.size≤k:=by
  cases he:Ak8 fz with
  | true =>
   have:=Awa.1 he
   subst this
   refine⟨J',F.sim,hR,fun o k t=>?_⟩
   rcases F.jup o k t with(t | ⟨_,b,x,o',j,_⟩) | t
   ·exact .inl t
   ·simp at j
   ·exact .inr t
  | false =>
   rw[he] at z
   simp at z
   refine⟨fun _=>J' false,F.sim.noOrg z.2,Rep.noOrg z.1 hR,fun o k t=>?_⟩
   rcases F.jup false k t with(O | ⟨h0,_⟩) | O
   ·left
    cases o
    ·exact O
    ·exact S.jft k O
   ·cases h0
   ·exact .inr O
 obtain⟨J0,S0,R0,jup0⟩:=J0
 have S1:=S0.ren u K
 have R1:=Rep.ren u hrv R0
 have M:=Step.merge (J:=J) (J0:=J0) (J1:=J0) (H:=Ak ups h) (D:=ids++(A7 (nid d) new).map (·.2)) (ids:=ids) S S1
  (fun b j=>C4 _ _ _ (by
   cases hi:Be ups b with
   | false=>rfl
   | true=>exact absurd (by rw[←keys];exact r8.1 hi) j))
  (fun b x j m G=>by
   rcases List.mem_append.1 j with j | j
   ·rw[Pc keysN (upsOld b j)] at m
    cases hq:Al rh (ρ b) with
    | none =>
     rw[hq] at m;simp at m
     obtain⟨y,_,rfl⟩:=m
     simp[Av9] at G
    | some y =>
     rw[hq] at m;simp at m;subst m
     have:=IS (g:=Al rh) u (ρ b) y (ρall b j) hq
     rw[back b j] at this
     exact this
   ·obtain⟨c,n,rfl⟩:∃ c ∈ new,σ c=b:=by
     obtain⟨p,C,rfl⟩:=List.mem_map.1 j
     have hp1:p.1 ∈ new:=m8 C
     refine⟨p.1,hp1,?_⟩
     rw[σnew _ hp1]
     have:∀ {base:Nat} {l:List Nat} {p:Nat×Nat},l.Nodup→p ∈ A7 base l→Ky 0 (A7 base l) p.1=p.2:=by
      intro base l
      induction l generalizing base with
      | nil=>intro p _ C;simp[A7] at C
      | cons i r ih =>
       intro p hn C
       rw[List.nodup_cons] at hn
       rw[A7] at C ⊢
       rw[Ky]
       rcases List.mem_cons.1 C with rfl | C
       ·simp
       ·have:p.1 ∈ r:=m8 C
        rw[ZM (fun e=>hn.1 (by rw[e];exact this))]
        exact ih hn.2 C
     refine this ?_ C
     rw[←L]
     exact SD (SC u)
    rw[Pc keysN (upsNew c n)] at m
    obtain⟨y,hy,_⟩:=I c n
    rw[hy] at m;simp at m;subst m
    exact IS (g:=Al rh) u c y (newmem c n).1 hy)
  (fun b x j=>by
   obtain⟨c,y,n,rfl,hy,rfl⟩:=Qs u b x j
   rcases allcases c n with A | A
   ·have O:=σout c n A
    have h7:ρ (σ c)=c:=by
     have:(all.map σ).Nodup:=u
     have e1:=back (σ c) O
     have e2:=ρall (σ c) O
     exact Az1 this e2 n e1
    refine⟨List.mem_append.2 (.inl O),?_⟩
    rw[Pc keysN (upsOld (σ c) O),h7,hy];rfl
   ·refine⟨List.mem_append.2 (.inr ?_),?_⟩
    ·rw[σnew c A]
     exact NX (by rw[Mi];exact A)
    ·rw[Pc keysN (upsNew c A),hy];rfl)
  (fun b x j hni m=>by
   rcases List.mem_append.1 j with j | j
   ·exact hni j
   ·rw[newFree b j] at m;cases m)
  (fun b x j m=>by
   rw[Pc keysN (upsOld b j)]
   cases hq:Al rh (ρ b) with
   | none=>exact⟨Av9 x,⟨by simp[m],rfl⟩,.inl rfl⟩
   | some y =>
    cases G:y.dead with
    | true=>have:=F.live _ _ hq;rw[G] at this;cases this
    | false =>
     have e0:=IS (g:=Al h) s b x j m
     obtain⟨⟨e1,em⟩,e2,e3,e4⟩:=F.outs (ρ b) _ y e0 hq G
     refine⟨IH σ y,⟨by simp,em⟩,.inr ?_⟩
     refine⟨e4,?_,e2,fun hmx=>?_⟩
     ·have:=Ip (β:=β') u (ρall b j)
      rw[back b j] at this
      rw[this,e1]
      exact Ip s j
     ·rw[Pb,e3 hmx,Pb])
  (fun b j=>List.mem_append.2 (.inl j))
  F.os F.tape F.output F.size
  (fun k hk A=>F.frame k hk (fun hm'=>A (zV s hm')))
  (fun k A hk=>zV s (F.wr k (Alv u A) hk))
  (fun o k t=>by
   rcases jup0 o k t with t | t | t
   ·exact .inl t
   ·exact .inr (.inl (zV s t))
   ·exact .inr (.inr t))
  F.sizes
 exact⟨_,_,M.1,Rep.ext M.2 R1⟩
theorem Aqz {P:Program} {muts:Nat→List Bool} {T:List (Nat×Tw)} {hs:Hints} {N f:Nat} {d:LA} {h:Ai} {m:AV} {h':Ai} (hT:zQ P T) (F:P.follows .mixedOrders=true)
  (q:UV P muts T hs N f d h (fun v h'=>some (v,h'))=some (m,h')):A71 P f d h m h':=by
 unfold UV at q
 split at q
 ·simp at q
 ·rename_i fn G
  split at q
  ·simp at q
  ·rename_i c O
   simp only at q
   obtain⟨t,U⟩:=uc q
   simp only[Bool.and_eq_true] at t
   obtain⟨n,k⟩:=t
   have n:d.length≤fn.ntmps:=by simpa using n
   intro J β w vs S M
   have V:vs.length=d.length:=((Cu).1 M).1
   refine calls_of_wp G O ?_
   have roots:∀ {h:Ai} {b:Nat} {x:Blk},yP h=true→Al h b=some x→ym b=true:=by
    intro h
    induction h with
    | nil=>intro b x _ e;simp[Al] at e
    | cons p r K =>
     intro b x hr e
     obtain⟨i,y⟩:=p
     rw[yP] at hr
     simp at hr
     rw[Al] at e
     cases hi:Nat.beq i b with
     | true=>have:=Nat.eq_of_beq_eq_true hi;subst this;exact hr.1
     | false=>rw[hi] at e;exact K hr.2 (by simpa using e)
   have sgetI:∀ {d:LA} {j i:Nat},Ha (Aih j d) i=if j≤i then (d[i - j]?).getD .undef else .undef:=by
    intro d
    induction d with
    | nil=>intro j i;simp[Aih,Ha]
    | cons v r K =>
     intro j i
     rw[Aih,Ha]
     cases hi:Nat.beq j i with
     | true=>have:=Nat.eq_of_beq_eq_true hi;subst this;simp
     | false =>
      have:=BU hi
      simp only[cond_false]
      rw[K]
      by_cases u:j+1≤i
      ·rw[if_pos u,if_pos (by omega),show i - j=(i - (j+1))+1 by omega];simp
      ·rw[if_neg u]
       by_cases l:j≤i
       ·omega
       ·rw[if_neg l]
   have I:Inv ⟨J,β,h,w⟩ fn.ntmps J β { s:=Aih 0 d,h:=h } { tmps:=vs.toArray++Array.replicate (fn.ntmps - vs.toArray.size) undef,defers:=[] } w:=by
    refine⟨S,⟨fun i v hi=>?_,fun i hi=>?_⟩,?_,rfl,rfl,rfl,rfl,Nat.le_refl _,fun _ _ _=>rfl,fun _ F _=>F,fun _ _ L=>L,fun _ _ L=>.inl L,fun _=>Nat.le_refl _,?_,?_,?_⟩
    ·rw[sgetI,if_pos (Nat.zero_le _)]
     by_cases z:i<d.length
     ·have l:d[i - 0]?=some d[i]:=by simp[z]
      rw[l]
      have A:vs[i]?=some v:=by
       rw[Array.getElem?_append_left (by simp;omega)] at hi
       simpa using hi
      exact((Cu).1 M).2 i _ _ (by simp[z]) A
     ·have l:d[i - 0]?=none:=by simp;omega
      rw[l];simp[Rep]
    ·simp at hi
     rw[sgetI,if_pos (Nat.zero_le _)]
     have l:d[i - 0]?=none:=by simp;omega
     rw[l];rfl
    ·simp;omega
    ·intro b x0 e;exact(zP.1 (roots k e)).2
    ·intro b x0 e;exact(zP.1 (roots k e)).1
    ·intro b x0 x e C X
     change Al h b=some x0 at e
     change Al h b=some x at C
     rw[e] at C;simp at C;subst C
     exact⟨⟨rfl,rfl⟩,rfl,fun _=>rfl,X⟩
   have fin:∀ st' D w' J' β',Inv ⟨J,β,h,w⟩ fn.ntmps J' β' st' D w'→DH { P:=P,nt:=fn.ntmps,muts:=muts,nils:=hs.nils,free:=hs.free,cob:=hs.cob,tbl:=T } fn hs.modes (h.map (·.1)) (fun v h'=>some (v,h')) st'=some (m,h') →
     D.defers=[]∧∃ v,(results fn D.tmps).run P w'=.ok v w'∧∃ vc J' β',Ending.returned v=.returned vc∧FDone ⟨J,β,h,w⟩ J' β' h' w'∧Rep J' β' h' w' m vc:=by
    intro st' D w' J' β' I' l
    obtain⟨res2,Y,vc,J2,β2,A,h4,h5,h6⟩:=Afl I' l
    simp at A
    obtain⟨rfl,rfl⟩:=A
    exact⟨I'.defers,vc,h4,vc,J2,β2,rfl,h5,h6⟩
   exact Aqt (E:={ P:=P,nt:=fn.ntmps,muts:=muts,nils:=hs.nils,free:=hs.free,cob:=hs.cob,tbl:=T }) (A3u hT) F c I U fin (fun _ _ _ _ _ _ _ l=>by simp at l) fin
end Gx

namespace Gx
open Go
section
variable {R R':Type}
theorem Awb (E:Env) (ops:Array Oper) (o:Oper) (st:St) (k:St→Foot→O R) (g:R→Option R'):(Apv E ops o st k).bind g=Apv E ops o st fun st f=>(k st f).bind g:=by
 rw[f_,f_,Option.bind_assoc]
theorem Alx (ops:Array Oper) (o:Oper) (st:St) (k:St→O R) (g:R→Option R'):(rR ops o st k).bind g=rR ops o st fun st=>(k st).bind g:=by
 unfold rR
 split
 ·rfl
 ·split
  ·rfl
  ·split
   ·rw[An]
   ·rfl
theorem zW (E:Env) (ops:Array Oper) (g:R→Option R'):∀ (l:List Oper) (st:St) (tr:List Foot) (k:St→List Foot→O R),(yi E ops l st tr k).bind g=yi E ops l st tr fun st tr=>(k st tr).bind g
 | [],st,tr,k=>rfl
 | o::r,st,tr,k=>by
  rw[yi,yi,Alx]
  congr 1;funext st
  rw[Awb]
  congr 1;funext st f
  exact zW E ops g r st (f::tr) k
theorem Afo (E:Env) (roots:List Nat) (ops:Array Oper) (draw:Bool) (st:St) (k:St→O R) (g:R→Option R'):(f3 E roots ops draw st k).bind g=f3 E roots ops draw st fun st=>(k st).bind g:=by
 unfold f3
 rw[zW]
 congr 1;funext st tr
 rw[An,Option.bind_assoc];rfl
theorem Awc (E:Env) (roots:List Nat) (H:Hint) (f:St→O R) (g:R→Option R') (st:St):(A0u E roots H f st).bind g=A0u E roots H (fun st=>(f st).bind g) st:=by
 unfold A0u
 rw[An,Option.bind_assoc,IN,IN]
theorem ta (cn:St→Option St) (b:(St→O R)→St→O R) (c:(St→Option R')→St→Option R') (g:R→Option R') (d:∀ k st,(b k st).bind g=c (fun st=>(k st).bind g) st):∀ n st,(aF cn b n st).bind g=aF cn c n st
 | 0,st=>rfl
 | n+1,st=>by
  rw[aF,aF,d]
  congr 1;funext st
  rw[Option.bind_assoc]
  congr 1;funext st
  exact ta cn b c g d n st
theorem Aq0 (E:Env) (roots:List Nat) (N:Nat) (g:R→Option R'):∀ (c:Code) (H:Hint) (k:St→O R) (x:Nat→St→O R) (r:St→O R) (st:St),
  (Hd E roots N c H k x r st).bind g=Hd E roots N c H (fun st=>(k st).bind g) (fun j st=>(x j st).bind g) (fun st=>(r st).bind g) st:=by
 intro c
 induction c with
 | skip=>intro H k x r st;rfl
 | region id ops draw=>intro H k x r st;exact Afo ..
 | seq a b d e =>
  intro H k x r st
  rw[Hd,Hd,d]
  congr 1;funext st
  rw[Awc]
  congr 1;funext st
  exact e ..
 | cond c a b d e =>
  intro H k x r st
  rw[Hd,Hd]
  split
  ·rw[An,d,e]
  ·rfl
 | block id c f =>
  intro H k x r st
  rw[Hd,Hd,f]
  simp only[An]
 | loop c f =>
  intro H k x r st
  rw[Hd,Hd,Option.bind_assoc,IN,IN]
  congr 1;funext st
  exact ta _ _ _ g (fun k st=>f ..) N st
 | exit id=>intro H k x r st;rfl
 | ret=>intro H k x r st;rfl
 | rangeFunc=>intro H k x r st;rfl
 | scope=>intro H k x r st;rfl
 | label=>intro H k x r st;rfl
 | goto=>intro H k x r st;rfl
 | refuse=>intro H k x r st;rfl
theorem MF (E:Env) (st:St) (g:R→Option R'):∀ (l:List ResultVar) (acc:LA) (k:LA→O R),(Qo E st l acc k).bind g=Qo E st l acc fun l=>(k l).bind g
 | [],acc,k=>rfl
 | .tmp t::r,acc,k=>by rw[Qo,Qo];exact MF E st g r _ k
 | .cell a t::r,acc,k=>by
  rw[Qo,Qo,SA,SA (R:=R'),Option.bind_assoc]
  congr 1;funext v
  exact MF E st g r _ k
theorem Afp (E:Env) (fn:Func) (modes:List (Nat×Nat)) (outs:List Nat) (k:AV→Ai→O R) (g:R→Option R') (st:St):(DH E fn modes outs k st).bind g=DH E fn modes outs (fun v h=>(k v h).bind g) st:=by
 unfold DH
 rw[MF]
 congr 1;funext l
 rw[Option.bind_assoc]
 congr 1;funext q
 rw[An];rfl
theorem Awd (P:Program) (muts:Nat→List Bool) (T:List (Nat×Tw)) (hs:Hints) (N f:Nat) (b:LA) (h:Ai) (k:AV→Ai→O R) :
  UV P muts T hs N f b h k=(UV P muts T hs N f b h fun v h=>some (v,h)).bind fun p=>k p.1 p.2:=by
 unfold UV
 split
 ·rfl
 ·split
  ·rfl
  ·simp only
   rw[An,Aq0]
   simp only[Afp]
   rfl
structure Cut (R:Type) where
 c:Code
 H:Hint
 k:St→O R
 x:Nat→St→O R
 r:St→O R
noncomputable def A7a (E:Env) (roots:List Nat) (N:Nat):List Nat→Code→Hint→(St→O R)→(Nat→St→O R)→(St→O R)→List (St→O R)→Cut R
 | [],c,H,k,x,r,_=>⟨c,H,k,x,r⟩
 | d::p,.seq a b,H,k,x,r,ks=>cond (Nat.beq d 0) (A7a E roots N p a H.a (A0u E roots H fun st=>Hd E roots N b H.b k x r st) x r ks) (A7a E roots N p b H.b k x r ks)
 | d::p,.cond _ a b,H,k,x,r,ks=>cond (Nat.beq d 0) (A7a E roots N p a H.a k x r ks) (A7a E roots N p b H.b k x r ks)
 | _::p,.block id c,H,k,x,r,ks=>A7a E roots N p c H.a k (fun j st=>cond (Nat.beq j id) (k st) (x j st)) r ks
 | _::p,.loop c,H,_,x,r,q::ks=>A7a E roots N p c H.a (fun st=>(mQ E H.live roots st).bind q) x r ks
 | _::_,c,H,k,x,r,_=>⟨c,H,k,x,r⟩
def Aq1:Code→Code
 | .loop c=>c
 | c=>c
structure CutB (R:Type) where
 E:Env
 roots:List Nat
 N:Nat
 c:Cut R
noncomputable def B9 (q:CutB R) (st:St):O R:=Hd q.E q.roots q.N q.c.c q.c.H q.c.k q.c.x q.c.r st
noncomputable def A3v (q:CutB R) (st:St):O R:=A3j true (fun st=>Hd q.E q.roots q.N q.c.c q.c.H q.c.k q.c.x q.c.r st) st
theorem A4 (q:CutB R) (st:St):A3v q st=B9 q st:=by unfold A3v;rw[IN];rfl
noncomputable def Aj (q:CutB R) (n:Nat) (st:St):O R:=aF (mQ q.E q.c.H.live q.roots) (fun k st=>Hd q.E q.roots q.N (Aq1 q.c.c) q.c.H.a k q.c.x q.c.r st) n st
noncomputable def A6s (q:CutB R) (st:St):O R:=A3j true (aF (mQ q.E q.c.H.live q.roots) (fun k st=>Hd q.E q.roots q.N (Aq1 q.c.c) q.c.H.a k q.c.x q.c.r st) q.N) st
theorem Ad (q:CutB R) (st:St):A6s q st=Aj q q.N st:=by unfold A6s;rw[IN];rfl
def A7b (fn:Func):Code:=match fn.body with | some c=>c | none=>.skip
def A6t:List (Nat×List Bool)→Nat→List Bool
 | [],_=>[]
 | (i,l)::r,f=>cond (Nat.beq i f) l (A6t r f)
end
end Gx

namespace Gx
open Go
abbrev KF (R:Type):=AV→Ai→Option R
abbrev Gm:=List (Nat×Tw)
abbrev hL:Hint:=.leaf
abbrev hS (a b:Hint):Hint:=.node [] a b
abbrev hP (l:List Nat) (a:Hint):Hint:=.node l a .leaf
abbrev hJ (l:List Nat) (a b:Hint):Hint:=.join l a b
def A5y (P:Program) (muts:Nat→List Bool) (nt:Nat) (hs:Hints) (T:List (Nat×Tw)):Env:={ P,nt,muts,nils:=hs.nils,free:=hs.free,cob:=hs.cob,tbl:=T }
noncomputable def A9p {R:Type} (P:Program) (muts:Nat→List Bool) (fn:Func) (hs:Hints) (T:List (Nat×Tw)) (roots:List Nat) (N:Nat) (F:KF R) (p:List Nat) (ks:List (St→O R)):CutB R :=
 ⟨A5y P muts fn.ntmps hs T,roots,N,A7a (A5y P muts fn.ntmps hs T) roots N p (A7b fn) hs.H (DH (A5y P muts fn.ntmps hs T) fn hs.modes roots F) (fun _ _=>none) (DH (A5y P muts fn.ntmps hs T) fn hs.modes roots F) ks⟩
def iv (n:Int):AV:=.int .i64 n
def op (k:Nat):AV:=.optr (300000+k) 0
def A9k:Nat→List Blk→Ai
 | _,[]=>[]
 | i,b::r=>(i,b)::A9k (i+1) r
def hq (l:List Blk):Ai:=A9k 300000 l
def bQ (sz:Nat) (c:LA):Blk:=⟨false,false,true,false,sz,c,false,none⟩
def bN (sz:Nat) (c:LA):Blk:=⟨false,false,false,false,sz,c,false,none⟩
def bP (t:Bool) (sz:Nat) (c:LA):Blk:=⟨false,false,true,t,sz,c,false,none⟩
def As {R:Type} (kd:IntKind) (c:LA) (k:Int→O R):O R:=(c.head?).bind fun x=>(tF kd x).bind k
def aT {R:Type} (c:LA) (k:Bool→O R):O R:=(c.head?).bind fun x=>(asBool x).bind k
def Wb {R:Type} (c:LA) (k:List UInt8→O R):O R:=(c.head?).bind fun x=>(tG x).bind k
def B4 {R:Type} (sz:Nat) (c:LA) (k:LA→Nat→O R):O R:=(c.head?).bind fun x=>(A29 sz x).bind fun p=>k p.1 p.2
def Awe (k:IntKind) (a b:Int):Int:=k.wrap ((BitVec.ofInt k.bits a &&& BitVec.ofInt k.bits b).toNat:Int)
def tb (k:IntKind) (a b:Int):Int:=k.wrap ((BitVec.ofInt k.bits a ||| BitVec.ofInt k.bits b).toNat:Int)
def Ba (s:List UInt8):LA:=s.map fun b=>.int .u8 (b.toNat:Int)
def A7c (P:Program) (muts:Nat→List Bool) (N f:Nat) (run:(R:Type)→Nat→LA→Ai→KF R→O R):Prop:=∀ {R Q:Type} (args:LA) (h:Ai) (k:KF R) (j:KF Q),
 (∃ T hs,zQ P T∧run R N args h k=UV P muts T hs N f args h k∧run Q N args h j=UV P muts T hs N f args h j)∨(run R N args h k=none∧run Q N args h j=none)
theorem Az {P:Program} {muts:Nat→List Bool} {T:List (Nat×Tw)} {hs:Hints} {N f:Nat} {c:LA} {h:Ai} {R Q:Type} {k:KF R} {j:KF Q} {a:O R} {b:Option Q} {p:Prop}
  (d:UV P muts T hs N f c h k=a) (e:UV P muts T hs N f c h j=b) (hT:zQ P T):(∃ T hs,zQ P T∧a=UV P muts T hs N f c h k∧b=UV P muts T hs N f c h j)∨p:=.inl ⟨T,hs,hT,d.symm,e.symm⟩
theorem A2 {R Q:Type} {p:Prop}:p∨((none:O R)=none∧(none:Option Q)=none):=.inr ⟨rfl,rfl⟩
def A1 {P:Program} {muts:Nat→List Bool} {N f:Nat} {run:(R:Type)→Nat→LA→Ai→KF R→O R} (H:A7c P muts N f run):Tw:=⟨fun {R} args h k=>run R N args h k,fun args h k=>by
 rcases H args h k (fun v h=>some (v,h)) with⟨T,hs,_,e1,e2⟩ | ⟨e1,e2⟩
 ·rw[e1,e2];exact Awd ..
 ·rw[e1,e2];rfl⟩
theorem A80 {P:Program} {muts:Nat→List Bool} {N f:Nat} {run:(R:Type)→Nat→LA→Ai→KF R→O R} (H:A7c P muts N f run) (d:P.follows .mixedOrders=true):Aqu P f (A1 H):=by
 intro b h e h' c
 change run _ N b h _=_ at c
 rcases H b h (fun v h=>some (v,h)) (fun v h=>some (v,h)) with⟨T,hs,hT,e1,_⟩ | ⟨e1,_⟩
 ·rw[e1] at c;exact Aqz hT d c
 ·rw[e1] at c;cases c
theorem Bu {α δ:Type} (f:α→δ) {a b:α} (c:a=b):f a=f b:=by rw[c]
theorem NY {α β δ:Type} (f:α→β→δ) {a c:α} {b d:β} (e:a=c) (i:b=d):f a b=f c d:=by rw[e,i]
theorem A8v {α β γ δ:Type} (f:α→β→γ→δ) {a d:α} {b e:β} {c i:γ} (j:a=d) (k:b=e) (l:c=i):f a b c=f d e i:=by rw[j,k,l]
theorem A9q {α β γ ε ζ η δ:Type} (f:α→β→γ→ε→ζ→η→δ) {a i:α} {b j:β} {c k:γ} {d l:ε} {e m:ζ} {g g':η} (n:a=i) (q:b=j) (s:c=k) (t:d=l) (u:e=m) (v:g=g'):f a b c d e g=f i j k l m g':=by rw[n,q,s,t,u,v]
end Gx

namespace Gx
open Go Go.RowKit
theorem Aiq {P:Program} {f:Nat} {t:Tw} (i:Aqu P f t) {W:World} {avs:LA} {vs:List Value} (hr:Reps (fun _ k=>k<W.heap.size) (fun _=>none) [] W avs vs)
  (d:(t.runK avs [] fun v h=>some (v,h))=some (.bool true,[])) (j:GlobOk (fun _ k=>k<W.heap.size) W):Calls P f vs.toArray W fun e w'=>e=.returned (.bool true)∧Below W.heap.size W w':=by
 have S:SimH (fun _ k=>k<W.heap.size) (fun _=>none) [] W:=⟨fun _ _ h=>h,fun _ h=>h,j,fun b x c=>by simp[Al] at c,fun b x c=>by simp[Al] at c,fun b n x x' k o o' c=>by simp[Al] at c⟩
 refine Calls.mono (i avs [] _ _ d _ _ W vs S hr) ?_
 rintro e w' ⟨vc,J',β',rfl,F,l⟩
 rw[Rep] at l;subst l
 refine⟨rfl,F.os,F.tape,F.output,F.size,fun k m=>F.frame k m ?_⟩
 rintro⟨b,x,o,c,_⟩
 change Al [] b=some x at c
 simp[Al] at c
structure Opens (P:Program) (t:TypeId) {α:Type} (e:α→List AV) (n:Nat):Prop where
 size:P.cellsOf t=n
 pos:0<n
 len:∀ a,(e a).length=n
 read:∀ {H:Type} (enc:TypeId×Value→H) (W:World) (fuel:Nat) (cs:List Value) (d:DataW H) (ps:List MemPlace),DataW.trod enc P W 0 (fun _=>true) true fuel t cs=some (d,ps) →
  cs.length=n∧∃ a,RepCs (fun k=>k<W.heap.size) W (e a) (fun j=>cs[j]?) 0
theorem A06 {P:Program} {t:TypeId} {k:IntKind} (b:P.underlying t=some (.int k)) (c:P.cellsOf t=1):Opens P t (α:={ n:Int // (Lit.int k n).wf=true }) (fun n=>[.int k n.1]) 1:=by
 refine⟨c,by omega,fun _=>rfl,fun enc W fuel cs d ps h=>?_⟩
 obtain⟨n,rfl,_,e⟩:=DataW.trod_int b h
 exact⟨rfl,⟨n,e⟩,by simp[RepCs,RepC]⟩
theorem tc {α β:Type} {e:α→List β} {n:Nat} (hn:0<n) (b:∀ a,(e a).length=n):∀ (l:List α) (j:Nat),(l.flatMap e)[j]?=(l[j/n]?).bind fun a=>(e a)[j%n]?
 | [],j=>by simp
 | a::r,j=>by
  rw[List.flatMap_cons]
  by_cases c:j<n
  ·rw[List.getElem?_append_left (by rw[b];exact c),Nat.div_eq_of_lt c,Nat.mod_eq_of_lt c];simp
  ·rw[List.getElem?_append_right (by rw[b];omega),b,tc hn b r (j - n)]
   have d:j/n=(j - n)/n+1:=by
    have:=Nat.add_div_right (j - n) hn
    rw[show j - n+n=j by omega] at this;exact this
   have f:j%n=(j - n)%n:=by
    have:=Nat.add_mod_right (j - n) n
    rw[show j - n+n=j by omega] at this;exact this
   rw[d,f];simp
theorem td {α β:Type} {e:α→List β} {n:Nat} (b:∀ a,(e a).length=n):∀ (l:List α),(l.flatMap e).length=l.length*n
 | []=>by simp
 | a::r=>by rw[List.flatMap_cons,List.length_append,b,td b r,List.length_cons,Nat.succ_mul];omega
theorem Aq2 {α β:Type} {f:α→Option β}:∀ {l:List α} {r:List β},l.mapM f=some r→r.length=l.length∧∀ (i:Nat) (a:α),l[i]?=some a→f a=r[i]?
 | [],r,h=>by simp at h;subst h;simp
 | x::l,r,h=>by
  rw[List.mapM_cons] at h
  cases b:f x with
  | none=>simp[b] at h
  | some y =>
   cases c:l.mapM f with
   | none=>simp[b,c] at h
   | some ys =>
    simp[b,c] at h
    subst h
    obtain⟨d,e⟩:=Aq2 c
    refine⟨by simp[d],fun i a hi=>?_⟩
    cases i with
    | zero=>simp at hi;subst hi;simpa using b
    | succ i=>simpa using e i a (by simpa using hi)
theorem Aq3 {P:Program} {t D:TypeId} {α:Type} {e:α→LA} {n:Nat} (V:P.underlying t=some (.slice D)) (X:P.cellsOf t=1) (q:Opens P D e n) :
  Opens P t (α:={ l:List α // l.length≤maxLen }) (fun l=>[.imm (l.1.flatMap e) l.1.length n false false]) 1:=by
 refine⟨X,by omega,fun _=>rfl,fun enc W fuel cs d ps h=>?_⟩
 cases fuel with
 | zero=>simp[DataW.trod] at h
 | succ fuel =>
  unfold DataW.trod at h
  simp only[V] at h
  split at h
  all_goals first | (rename_i b;simp at b;done) | (rename_i b _;simp at b;done) | (rename_i b _ _;simp at b;done) | skip
  ·refine⟨rfl,⟨[],by simp⟩,?_⟩
   simp[RepCs,RepC]
  ·rename_i e' a len cap b
   simp at b;subst b
   split at h
   ·rename_i s
    obtain⟨hb,Y,hcm⟩:=s
    refine⟨rfl,?_⟩
    cases K:(List.range len).mapM (fun i=>(W.cells? 0 (a.add (i*P.cellsOf D)) (P.cellsOf D)).bind (DataW.trod enc P W 0 (fun _=>true) true fuel D)) with
    | none=>rw[K] at h;simp at h
    | some Ah7 =>
     obtain⟨h1,T⟩:=Aq2 K
     rw[q.size] at T
     have each:∀ i:Nat,i<len→∃ x:α,∃ cs,W.cells? 0 (a.add (i*n)) n=some cs∧RepCs (fun k=>k<W.heap.size) W (e x) (fun j=>cs[j]?) 0:=by
      intro i hi
      have F:=T i i (by simp[hi])
      rw[List.getElem?_eq_getElem (by rw[h1];simpa using hi)] at F
      cases c:W.cells? 0 (a.add (i*n)) n with
      | none=>rw[c] at F;simp at F
      | some cs =>
       rw[c] at F
       obtain⟨_,x,b⟩:=q.read enc W fuel cs _ _ F
       exact⟨x,cs,rfl,b⟩
     have build:∀ m,m≤len→∃ l:List α,l.length=m∧∀ i x,l[i]?=some x→∃ cs,W.cells? 0 (a.add (i*n)) n=some cs∧RepCs (fun k=>k<W.heap.size) W (e x) (fun j=>cs[j]?) 0:=by
      intro m
      induction m with
      | zero=>intro _;exact⟨[],rfl,by simp⟩
      | succ m ih =>
       intro K
       obtain⟨l,I,v⟩:=ih (by omega)
       obtain⟨x,cs,L,M⟩:=each m (by omega)
       refine⟨l++[x],by simp[I],fun i y A=>?_⟩
       rw[List.getElem?_append] at A
       split at A
       ·exact v i y A
       ·have:i=m:=by
         have:=(List.getElem?_eq_some_iff.1 A).1
         simp at this;omega
        subst this
        simp[I] at A;subst A
        exact⟨cs,L,M⟩
     obtain⟨l,I,v⟩:=build len (Nat.le_refl _)
     refine⟨⟨l,by omega⟩,?_⟩
     simp only[RepCs,RepC,and_true]
     refine⟨_,rfl,?_,some a,cap,by rw[I],by omega,by simp,?_⟩
     ·exact td q.len l
     ·by_cases h0:l.length=0
      ·exact .inl h0
      ·right
       refine⟨a,rfl,?_,?_⟩
       ·obtain⟨x,cs,b,_⟩:=each 0 (by omega)
        have:=World.cells?_block b q.pos
        rwa [W1] at this
       ·rw[Cm]
        intro j x C
        rw[tc q.pos q.len] at C
        cases hq:l[j/n]? with
        | none=>rw[hq] at C;simp at C
        | some y =>
         rw[hq] at C
         simp at C
         obtain⟨cs,c,f⟩:=v (j/n) y hq
         rw[Cm] at f
         obtain⟨u,G,O⟩:=f (j%n) x C
         refine⟨u,?_,O⟩
         obtain⟨_,U,z⟩:=World.cells?_some c
         have S:j%n<n:=Nat.mod_lt _ q.pos
         have:=z (j%n) S
         rw[Addr.add_add,show j/n*n+j%n=j by rw[Nat.mul_comm];exact Nat.div_add_mod j n] at this
         simp only[Nat.zero_add] at G ⊢
         rw[this];exact G
   ·simp at h
  ·simp at h
end Gx

namespace Gx
open Go Go.RowKit
theorem Awf {J:Bool→Nat→Prop} {β:Cn} {w w':World} (S:SimH J β [] w) (B:Below w.heap.size w w'):SimH J β [] w' :=
 ⟨fun o k h=>Nat.lt_of_lt_of_le (S.jlt o k h) B.size,S.jft,S.gl.to (fun _ h=>h) (fun k d=>B.block k (S.jlt _ k d)),fun b x c=>by simp[Al] at c,fun b x c=>by simp[Al] at c,fun b e x x' k o o' c=>by simp[Al] at c⟩
theorem r9 {P:Program} {f:Nat} {c:LA} {d:AV}
  (l:∀ (J:Bool→Nat→Prop) (β:Cn) (w:World) (vs:List Value),GlobOk J w→Reps J β [] w c vs→Calls P f vs.toArray w fun e w'=>∃ vc,e=.returned vc∧Below w.heap.size w w'∧∀ J β w,Rep J β [] w d vc):A71 P f c [] d []:=by
 intro J β w vs S hr
 refine(l J β w vs S.gl hr).mono ?_
 rintro e w' ⟨vc,rfl,B,m⟩
 refine⟨vc,J,β,rfl,⟨Awf S B,B.os,B.tape,B.output,B.size,fun k j _=>B.block k j,?_,fun _ _ h=>h,fun _ _ h=>.inl h,fun k=>?_,fun b x0 x i=>by simp[Al] at i,fun b x i=>by simp[Al] at i⟩,m _ _ _⟩
 ·rintro k ⟨b,x,o,i,_⟩;simp[Al] at i
 ·by_cases j:k<w.heap.size
  ·simp[Bh,B.block k j]
  ·simp[Bh,Array.getElem?_eq_none (Nat.le_of_not_lt j)]
theorem A5z {P:Program} {f:Nat} {i:LA} {c:LA} {n sz:Nat} (t:c.length=n*sz)
  (u:∀ (J:Bool→Nat→Prop) (β:Cn) (w:World) (vs:List Value),GlobOk J w→Reps J β [] w i vs→Calls P f vs.toArray w fun e w'=>∃ (cs:Array Value) (ty:TypeId),e=.returned (.slice (some ⟨w.heap.size,0,none⟩) n n)∧w'=w.alloc (.cells cs ty)∧cs.size=n*sz∧RepCs (J false) w c (fun j=>cs[j]?) 0):A71 P f i [] (.own 300000 0 n) [(300000,{ dead:=false,sealed:=false,pure:=true,taint:=false,sz,cells:=c })]:=by
 intro J β w vs S hr
 refine(u J β w vs S.gl hr).mono ?_
 rintro e w' ⟨cs,ty,rfl,rfl,hs,q⟩
 have A:=Step.new (d:=300000) (x:={ dead:=false,sealed:=false,pure:=true,taint:=false,sz,cells:=c }) (ty:=ty) (fr:=(0,0)) (cs:=cs) S rfl rfl rfl FrTy.un0 (by show c.length≤_;omega) ⟨fun _=>q,fun v=>by cases v⟩
 have m:(w.alloc (.cells cs ty)).heap[w.heap.size]?=some (.cells cs ty (0,0)):=by show(w.heap.push _)[_]?=_;simp
 refine⟨_,_,_,rfl,⟨A.sim,A.os,A.tape,A.output,A.size,A.frame,A.wr,A.ext.jsub,A.jup,fun k=>?_,fun b x0 x l=>by simp[Al] at l,fun b x l=>?_⟩,?_⟩
 ·by_cases s:k<w.heap.size
  ·simp[Bh,Dx w _ s]
  ·simp[Bh,Array.getElem?_eq_none (Nat.le_of_not_lt s)]
 ·rw[Al] at l
  cases hq:Nat.beq 300000 b<;>rw[hq] at l<;>simp[Al] at l
  subst l;rfl
 ·rw[Rep]
  refine⟨_,_,n,⟨rfl,rfl⟩,rfl,Nat.le_refl _,.inr ⟨w.heap.size,0,rfl,.inr ⟨by simp,?_,by simp[t]⟩⟩⟩
  rw[E4 m,hs];simp
theorem zX {J:Bool→Nat→Prop} {β:Cn} {h:Ai} {w:World} {x:AV} {vs:List Value} (H:Reps J β h w [x] vs):∃ u,vs=[u]∧Rep J β h w x u:=by
 rw[Reps] at H
 obtain⟨u,us,rfl,c,b⟩:=H
 rw[Reps] at b;subst b
 exact⟨u,rfl,c⟩
theorem Aq4 {J:Bool→Nat→Prop} {β:Cn} {h:Ai} {w:World} {x y:AV} {vs:List Value} (H:Reps J β h w [x,y] vs):∃ u v,vs=[u,v]∧Rep J β h w x u∧Rep J β h w y v:=by
 rw[Reps] at H
 obtain⟨u,us,rfl,b,c⟩:=H
 obtain⟨v,rfl,d⟩:=zX c
 exact⟨u,v,rfl,b,d⟩
theorem GlobOk.tab {J:Bool→Nat→Prop} {w:World} (h:GlobOk J w) {P:Program} {g:Nat} {name:String} {k:IntKind} {zs:List Int} (b:(g,zs.map fun z=>Value.int k z) ∈ Azr) (c:P.globalNamed name=some g):Lib.TabIs P w name k zs:=by
 obtain⟨ty,fr,d⟩:=(h.1 _ b).2
 unfold Lib.TabIs World.var?
 rw[c]
 simp only[Option.bind_some]
 rw[d]
theorem A3w {W:World} {P:Program} {g:Nat} {name:String} {k:IntKind} {zs:List Int} (h:Lib.TabIs P W name k zs) (b:P.globalNamed name=some g):∃ ty fr,W.heap[g]?=some (.cells (zs.map fun z=>Value.int k z).toArray ty fr):=by
 unfold Lib.TabIs World.var? at h
 rw[b] at h
 simp only[Option.bind_some] at h
 split at h
 ·rename_i cs ty fr c
  simp at h;subst h
  exact⟨ty,fr,c⟩
 ·cases h
theorem GlobOk.int {J:Bool→Nat→Prop} {w:World} (h:GlobOk J w) {g:Nat} (b:g ∈ Avm):∃ m,w.cell? ⟨g,0,none⟩=some (.int .i64 m):=(h.2 g b).2
theorem A3x {W:World} {g i:Nat} {v:Value} (h:W.cell? ⟨g,i,none⟩=some v):g<W.heap.size:=by
 rcases Nat.lt_or_ge g W.heap.size with b | b
 ·exact b
 ·simp[World.cell?,Array.getElem?_eq_none b] at h
end Gx

namespace Gx
open Go
theorem am {a b:Bool} (c:a=true) (d:b=true):(a&&b)=true:=by rw[c,d];rfl
theorem A3y {P:Program} (O:laidOutB P=true) (S:mapsRowed P=true) (T:(P.stops==[])=true) (U:(P.stopKnobs==[])=true) (b:P.stopsHeard=true) (d:P.mayEnter=true) {f:FuncId} {fn:Func} {s:ChangeSpec} {c:OpenClaim} (e:(c.inPlace==P.inPlace f)=true) (i:(c.unfollowed==P.unfollowed f)=true) (j:(c.recurses==P.recurses f)=true) (l:(c.named==P.varsNamed f)=true)
  (m:(c.lifted==P.liftsFinal)=true) (n:(P.make==some c.make)=true) (q:(c.plainKeys==P.plainKeys)=true)
  (V:c.wf (OpenSpec.ofChange s)=true) (X:fn.params.all (P.readableRec ·)=true) (Y:namedTie P c.named s.vars=true) (h6:(c.stops==[])=true) (h8:(c.knobs==[])=true)
  (u:(c.maps==(fn.params.toList++s.plain.varTypes P).any (P.mapsRec ·))=true) (v:(c.ifaces==(fn.params.toList++s.plain.varTypes P).any (P.ifacesRec ·))=true) (x:(c.mapsOut==P.mapsAmong fn.resultTypes.toList)=true)
  (y:(c.loops==(fn.params.toList++s.plain.varTypes P).any (P.loopsFrom ·))=true) (z:(c.wideKeys==(fn.params.toList++s.plain.varTypes P++fn.resultTypes.toList).any (P.wideKeysFrom ·))=true)
  (A:s.vars.all (P.varReadable ·)=true) (C:fn.resultTypes.all (fun t=>P.readableRec t&&decide (t<P.types.size))=true) (D:(c.ifacesOut==fn.resultTypes.toList.any (P.ifacesRec ·))=true) (F:(c.loopsOut==fn.resultTypes.toList.any (P.loopsFrom ·))=true)
  (G:c.shortTexts.isNone=true) (I:(c.kinds==(if c.domain.isEmpty then [] else fn.params.toList.map fun t=>match P.underlying t with | some (.int k)=>some k | _=>none))=true) (K:(c.pinned==c.pinnedBy)=true)
  (L:(c.veiled==(fn.params.toList++s.plain.varTypes P++fn.resultTypes.toList).any (P.veiledRec ·))=true) (M:c.veiledFits P fn.params.toList (fn.params.toList++s.plain.varTypes P++fn.resultTypes.toList)=true):joinedFacts P f fn s c=true:=by
 unfold joinedFacts
 exact am (am (am (am (am (am (am (am (am (am (am (am (am (am (am (am (am (am (am (am (am (am (am (am (am (am (am (am (am (am (am V O) S) X) Y) h6) T) h8) U) e) i) j) l) u) v) x) y) z) A) C) D) F) q) G) b) d) m) n) I) K) L) M
end Gx

namespace Go.Proofs.YtjmfofdghmlldaaGreatDoor
open Go.ChangeShapes Go.WideShapes Go.ChangeAt Go.RowKit
theorem A73:ownKnob Tryz.prog.godebug=none:=by kernel_rfl
theorem NZ:laidOutB Tryz.prog=true:=by kernel_rfl
theorem A81 : Tryz.prog.globalNamed "internal/strconv.uint64pow10" = some 3 := by kernel_rfl
theorem A9r:(Tryz.prog.globals[3]?).map (·.type)=some 333:=by kernel_rfl
theorem A82:Tryz.prog.underlying 333=some (.array 20 114):=by kernel_rfl
theorem A83:Tryz.prog.underlying 114=some (.int .u64):=by kernel_rfl
theorem A84:Tryz.prog.cellsOf 333=20:=by kernel_rfl
theorem A85:Tryz.prog.cellsOf 114=1:=by kernel_rfl
def A74:List Int:=(List.range 20).map fun i=>((10 ^ i:Nat):Int)
theorem A07 {H:Type}:(Rows.laid_internal_strconv_uint64pow10:DataW H)=Lib.tabData .u64 A74:=rfl
theorem A6u:mapsRowed Tryz.prog=true:=by kernel_rfl
theorem A3z:(Tryz.prog.stops==[])=true:=by kernel_rfl
theorem A30:(Tryz.prog.stopKnobs==[])=true:=by kernel_rfl
theorem A31:Tryz.prog.stopsHeard=true:=by kernel_rfl
theorem A32:Tryz.prog.mayEnter=true:=by kernel_rfl
theorem A33:(Rows.numtextNativeRow.lifted==Tryz.prog.liftsFinal)=true:=by kernel_rfl
theorem A6v:(Tryz.prog.make==some Rows.numtextNativeRow.make)=true:=by kernel_rfl
theorem A6w:(Rows.numtextNativeRow.plainKeys==Tryz.prog.plainKeys)=true:=by kernel_rfl
end Go.Proofs.YtjmfofdghmlldaaGreatDoor

namespace Gx
open Go
theorem wrap_u32 (a:Nat) (h:a<4294967296):IntKind.wrap .u32 (a:Int)=(a:Int):=IntWalk.u32_in _ (by omega)
theorem A08 (a:Nat):IntKind.wrap .u32 (a:Int)=((a%4294967296:Nat):Int):=by rw[IntKind.wrap_u32];omega
theorem wrap_i64 (a:Int) (h:-9223372036854775808≤a∧a≤9223372036854775807):IntKind.wrap .i64 a=a:=IntWalk.i64_in _ h
theorem wrap_u64 (a:Nat) (h:a<18446744073709551616):IntKind.wrap .u64 (a:Int)=(a:Int):=IntWalk.u64_in _ (by omega)
theorem fb (w a:Nat):BitVec.ofInt w (a:Int)=BitVec.ofNat w a:=by simp
theorem Awg {k:IntKind} (hs:k.signed=false) {a b:Nat} (d:a<2 ^ k.bits) (c:b<2 ^ k.bits):Awe k a b=((a &&& b:Nat):Int):=by
 unfold Awe
 rw[fb,fb]
 have e:(BitVec.ofNat k.bits a &&& BitVec.ofNat k.bits b).toNat=a &&& b:=by
  rw[BitVec.toNat_and,BitVec.toNat_ofNat,BitVec.toNat_ofNat,Nat.mod_eq_of_lt d,Nat.mod_eq_of_lt c]
 rw[e]
 have f:a &&& b<2 ^ k.bits:=Nat.and_lt_two_pow _ c
 unfold IntKind.wrap
 simp only[hs,Bool.false_and,Bool.false_eq_true,if_false]
 have:(2 ^ k.bits:Int)=((2 ^ k.bits:Nat):Int):=by simp
 rw[this,←Int.natCast_emod,Nat.mod_eq_of_lt f]
theorem Air {k:IntKind} (hs:k.signed=false) {a b:Nat} (c:a<2 ^ k.bits) (d:b<2 ^ k.bits):tb k a b=((a ||| b:Nat):Int):=by
 unfold tb
 rw[fb,fb]
 have e:(BitVec.ofNat k.bits a ||| BitVec.ofNat k.bits b).toNat=a ||| b:=by
  rw[BitVec.toNat_or,BitVec.toNat_ofNat,BitVec.toNat_ofNat,Nat.mod_eq_of_lt c,Nat.mod_eq_of_lt d]
 rw[e]
 have f:a ||| b<2 ^ k.bits:=Nat.or_lt_two_pow c d
 unfold IntKind.wrap
 simp only[hs,Bool.false_and,Bool.false_eq_true,if_false]
 have:(2 ^ k.bits:Int)=((2 ^ k.bits:Nat):Int):=by simp
 rw[this,←Int.natCast_emod,Nat.mod_eq_of_lt f]
theorem m9 (a k:Nat):Int.fdiv (a:Int) (2 ^ k)=((a/2 ^ k:Nat):Int):=by
 have:(2 ^ k:Int)=((2 ^ k:Nat):Int):=by simp
 rw[this,Int.fdiv_eq_ediv_of_nonneg (a:Int) (Int.natCast_nonneg (2 ^ k))]
 rfl
theorem A5 {R:Type} {k:IntKind} {n:Int} {r:LA} {f:Int→O R}:As k (.int k n::r) f=f n:=by simp[As,tF,Us]
theorem iO:∀ l:List UInt8,DE (Ba l)=some l
 | []=>rfl
 | b::r=>by
  show DE (.int .u8 (b.toNat:Int)::Ba r)=_
  rw[DE,iO r]
  simp[Avj]
theorem Ab {i n:Nat} (h:i<n):Ae (i:Int) n=true:=by simp[Ae];omega
end Gx

namespace Gx
open Go Go.RowKit
section
variable {P:Program} {W:World} {H:Type} {enc:TypeId×Value→H} {β:Cn} {h:Ai}
theorem A50 {t c:TypeId} {α:Type} {e:α→LA} {n:Nat} {a:Option Addr} {len cap:Nat} {d:DataW H} {p:List MemPlace} (b:P.underlying t=some (.slice c)) (f:P.cellsOf t=1) (i:Opens P c e n)
  (j:DataW.Trod enc P W 0 (fun _=>true) true t (.slice a len cap) d p):∃ l:List α,l.length≤maxLen∧Rep (fun _ k=>k<W.heap.size) β h W (.imm (l.flatMap e) l.length n false false) (.slice a len cap):=by
 obtain⟨fuel,m⟩:=j
 obtain⟨_,⟨l,q⟩,hr⟩:=(Aq3 b f i).read enc W fuel _ _ _ m
 refine⟨l,q,?_⟩
 simp only[RepCs,Value.cells,and_true] at hr
 obtain⟨u,b,hr⟩:=hr
 simp at b;subst b
 rw[Rep];exact hr
theorem Az2 {k:IntKind} {n:Int}:Rep (fun _ k=>k<W.heap.size) β h W (.int k n) (.int k n):=by rw[Rep]
theorem Aq5:Reps (fun _ k=>k<W.heap.size) β h W [] []:=by rw[Reps]
theorem FC {x:AV} {xs:LA} {v:Value} {vs:List Value} (b:Rep (fun _ k=>k<W.heap.size) β h W x v) (c:Reps (fun _ k=>k<W.heap.size) β h W xs vs):Reps (fun _ k=>k<W.heap.size) β h W (x::xs) (v::vs):=by
 rw[Reps];exact⟨v,vs,rfl,b,c⟩
end
end Gx

namespace Gx
open Go Go.Proofs
open IntKind (wrap)
set_option maxRecDepth 100000
noncomputable section
variable {R:Type} (N:Nat)
def muts:Nat→List Bool:=A6t [(66,[false,true]),(97,[true,false]),(98,[true,false,false]),(100,[true,false,false,false,false]),(101,[true,false,false,false]),(102,[true,false,false,false]),(111,[true]),(113,[true,false]),(116,[true]),(132,[false,true]),(157,[true,false]),(158,[true,false]),(159,[true,false,false,false]),(160,[true,false,false,false,false,false,false,false]),(161,[true,false,false,false,false,false]),(163,[true,false,false]),(164,[true,false,false]),(165,[true,false,false]),(166,[true,false,false]),(167,[true,false,false]),(171,[true]),(172,[true]),(173,[true]),(174,[true]),(175,[true]),(176,[true]),(177,[true]),(178,[true]),(181,[true,true]),(182,[false,true,true,true,true,true,true,true,true]),(184,[true,true]),(185,[false,true,true,true,true,true,true,true,true]),(191,[true]),(204,[true,false]),(205,[true]),(214,[true]),(225,[true,false,false,false,false,false]),(227,[true,false,false,false,false,false]),(228,[true,false,false]),(233,[true,false,false]),(234,[true,false,false,false,false]),(235,[true,false,false,false,false]),(236,[true,false,false,false]),(237,[true,false,true]),(238,[false,true,true,true,true,true,true,true,true]),(239,[false,true,true,true,true,true,true,true,true]),(240,[true,false,false]),(242,[true,false,false]),(243,[false,true,true,true,true,true,true,true,true]),(244,[true,false]),(245,[false,true,true,true,true,true,true,true,true]),(246,[false,true,true,true,true,true,true,true,true]),(247,[false,true,true,true,true,true,true,true,true]),(249,[true,false]),(254,[false,true]),(271,[true,false]),(277,[true,false]),(314,[false,true,true,true,true,true,true,true,true])]
def Ko {R:Type}:=@A9p R Tryz.prog muts
abbrev C2 {R:Type}:=@UV R Tryz.prog muts
abbrev Am:=@A7c Tryz.prog muts
theorem follows:Tryz.prog.follows .mixedOrders=true:=by kernel_rfl
theorem C5 {N f:Nat} {run:(R:Type)→Nat→LA→Ai→KF R→O R} (H:Am N f run):Aqu Tryz.prog f (A1 H):=A80 H follows
def Dc:Hints:={ H:=hL }
def iP:Hints:={ H:=hL,modes:=[(3,0)] }
def A75:Hints:={ H:=hL,modes:=[(3,0),(0,0)] }
def VB:Hints:={ H:=(hS hL (hS hL (hS (hP [0,1,2,15,16] hL) hL))) }
def iQ:Hints:={ H:=(hS hL (hS (hS hL (hS (hP [0,1,7,8] hL) hL)) hL)) }
def Ais:Hints:={ H:=(hS hL (hS hL (hS (hS (hP [0,3] hL) hL) hL))),nils:=[(2,1)],modes:=[(2,1)] }
def Az3:Hints:={ H:=hL,nils:=[(2,1)],modes:=[(2,1)] }
def Az4:Hints:={ H:=(hS hL (hS hL (hS hL (hS (hS hL (hS (hP [0,1,5] hL) hL)) hL)))) }
def A76:Hints:={ H:=hL,modes:=[(3,0),(3,0),(0,0)] }
def Az5:Hints:={ H:=(hS hL (hS (hS hL (hS (hP [0,3] hL) hL)) hL)) }
end
end Gx

namespace Gx
def val:List Nat→Nat
 | []=>0
 | x::r=>x+4294967296*val r
def Au (l:List Nat):Prop:=∀ x ∈ l,x<4294967296
def Aq6:Nat→Nat→List Nat
 | 0,_=>[]
 | f+1,n=>if n=0 then [] else n%4294967296::Aq6 f (n/4294967296)
def A9 (n:Nat):List Nat:=Aq6 n n
theorem Az6:∀ (f n:Nat),n≤f→∀ g,n≤g→Aq6 f n=Aq6 g n
 | 0,n,h,g,_=>by
  have:n=0:=by omega
  subst this;cases g<;>simp[Aq6]
 | f+1,n,h,g,b=>by
  by_cases h0:n=0
  ·subst h0;cases g<;>simp[Aq6]
  ·cases g with
   | zero=>omega
   | succ g=>simp only[Aq6,h0,if_false];rw[Az6 f _ (by omega) g (by omega)]
theorem Hf:A9 0=[]:=rfl
theorem IT {n:Nat} (h:n≠0):A9 n=n%4294967296::A9 (n/4294967296):=by
 unfold A9
 cases n with
 | zero=>omega
 | succ n=>simp only[Aq6,h,if_false];rw[Az6 n _ (by omega) ((n+1)/4294967296) (by omega)]
theorem Av:∀ n,val (A9 n)=n:=by
 intro n
 induction n using Nat.strongRecOn with
 | _ n b =>
  by_cases h:n=0
  ·subst h;rfl
  ·rw[IT h,val,b _ (by omega)];omega
theorem At:∀ n,Au (A9 n):=by
 intro n
 induction n using Nat.strongRecOn with
 | _ n c =>
  by_cases h:n=0
  ·subst h;intro x b;simp[Hf] at b
  ·rw[IT h];intro x b
   simp at b
   rcases b with rfl | b
   ·omega
   ·exact c _ (by omega) x b
theorem fc:Au []:=by intro x b;simp at b
theorem E5 {x:Nat} {r:List Nat}:Au (x::r)↔x<4294967296∧Au r:=by simp[Au]
theorem Mj {a:List Nat} (h:Au a) (n:Nat):Au (a.take n):=fun x b=>h x (List.mem_of_mem_take b)
theorem Jp {a:List Nat} (h:Au a) {i:Nat} (hi:i<a.length):a[i]<4294967296:=h _ (List.getElem_mem hi)
theorem N0 {a:List Nat} (h:Au a) {v:Nat} (d:v<4294967296) (i:Nat):Au (a.set i v):=fun x c=>by
 rcases List.mem_or_eq_of_mem_set c with b | b
 ·exact h x b
 ·omega
theorem Jq (n:Nat):Au (List.replicate n 0):=fun x b=>by simp at b;omega
theorem lO:∀ (a b:List Nat),val (a++b)=val a+4294967296 ^ a.length*val b
 | [],b=>by simp[val]
 | x::r,b=>by
  simp only[List.cons_append,val,List.length_cons,lO r b,Nat.pow_succ]
  rw[Nat.mul_add,←Nat.add_assoc,←Nat.mul_assoc];congr 2;rw[Nat.mul_comm]
theorem Kp:∀ n,val (List.replicate n 0)=0
 | 0=>rfl
 | n+1=>by rw[List.replicate_succ,val,Kp n]
theorem Le:∀ {a:List Nat},Au a→val a<4294967296 ^ a.length
 | [],_=>by simp[val]
 | x::r,h=>by
  have b:=E5.1 h
  have c:=Le b.2
  rw[val,List.length_cons,Nat.pow_succ]
  omega
theorem Awh (a:List Nat) (x:Nat):val (a++[x])=val a+4294967296 ^ a.length*x:=by rw[lO];simp[val]
theorem lP {n:Nat} (h:n≠0):A9 n≠[]:=by rw[IT h];simp
theorem Awi {n:Nat}:A9 n=[]↔n=0:=by
 constructor
 ·intro h;by_cases h0:n=0;exact h0;exact absurd h (lP h0)
 ·intro h;rw[h];rfl
theorem Ei {n:Nat}:(A9 n).length=0↔n=0:=by rw[List.length_eq_zero_iff,Awi]
theorem Dz:∀ {l:List Nat},Au l→l=A9 (val l)++List.replicate (l.length - (A9 (val l)).length) 0∧(A9 (val l)).length≤l.length
 | [],_=>by simp[val,Hf]
 | x::r,h=>by
  have c:=E5.1 h
  obtain⟨b,d⟩:=Dz c.2
  rw[val]
  by_cases h0:x+4294967296*val r=0
  ·have e:x=0:=by omega
   have hr:val r=0:=by omega
   rw[h0,Hf]
   rw[hr,Hf] at b
   simp at b
   subst e
   refine⟨?_,by simp⟩
   rw[List.nil_append,List.length_nil,Nat.sub_zero,List.length_cons,List.replicate_succ,←b]
  ·rw[IT h0,show(x+4294967296*val r)%4294967296=x by omega,show(x+4294967296*val r)/4294967296=val r by omega]
   refine⟨?_,by simp;exact d⟩
   rw[List.cons_append,List.length_cons,List.length_cons,Nat.add_sub_add_right,←b]
theorem A34:∀ (n:Nat) (h:A9 n≠[]),(A9 n).getLast h≠0:=by
 intro n
 induction n using Nat.strongRecOn with
 | _ n d =>
  intro h
  have h0:n≠0:=fun e=>h (by rw[e];rfl)
  have e:=IT h0
  by_cases c:n/4294967296=0
  ·rw[c,Hf] at e
   have:n<4294967296:=by omega
   simp[e];omega
  ·have b:=lP c
   have:=d _ (by omega) b
   have f:(A9 n).getLast h=(A9 (n/4294967296)).getLast b:=by
    simp only[e];rw[List.getLast_cons b]
   rw[f];exact this
theorem A7d:∀ {l:List Nat},Au l→(∀ h:l≠[],l.getLast h≠0)→A9 (val l)=l:=by
 intro l h i
 obtain⟨b,j⟩:=Dz h
 by_cases d:l.length - (A9 (val l)).length=0
 ·rw[d] at b;simpa using b.symm
 ·exfalso
  obtain⟨k,d⟩:=Nat.exists_eq_succ_of_ne_zero d
  rw[d,List.replicate_succ',←List.append_assoc] at b
  have c:l≠[]:=by intro e;rw[e] at b;simp at b
  apply i c
  have f:l.getLast?=some 0:=by rw[b,List.getLast?_append];rfl
  rw[List.getLast?_eq_some_getLast c] at f
  simpa using f
theorem MG {n k:Nat} (h:n<4294967296 ^ k):(A9 n).length≤k:=by
  induction k generalizing n with
  | zero => have : n = 0 := by simpa using h
            subst this;simp[Hf]
  | succ k b =>
    by_cases h0:n=0
    · subst h0;simp[Hf]
    · rw[IT h0,List.length_cons]
      have:n/4294967296<4294967296 ^ k:=by
        rw[Nat.pow_succ] at h
        exact Nat.div_lt_of_lt_mul (by rw[Nat.mul_comm];exact h)
      have:=b this
      omega
theorem Gg {a b:Nat} (h:a≤b):(A9 a).length≤(A9 b).length:=by
 apply MG
 have:=Le (At b)
 rw[Av] at this
 omega
end Gx

namespace Gx
open Go
section
variable {R:Type}
def Ar (l:List Nat):LA:=l.map fun n:Nat=>.int .u32 (n:Int)
theorem fe (x:Nat) (l:List Nat):Ar (x::l)=.int .u32 (x:Int)::Ar l:=rfl
theorem Cv (l:List Nat):(Ar l).length=l.length:=by simp[Ar]
theorem A09 (l:List Nat) (n:Nat):(Ar l).drop n=Ar (l.drop n):=by simp[Ar,List.map_drop]
theorem ff (l:List Nat) (n:Nat):(Ar l).take n=Ar (l.take n):=by simp[Ar,List.map_take]
theorem Aq7 (l:List Nat) (j:Nat) (v:Nat):List.set (Ar l) j (.int .u32 (v:Int))=Ar (l.set j v):=by simp[Ar,List.map_set]
theorem Lf (n:Nat):List.replicate n (AV.int .u32 0)=Ar (List.replicate n 0):=by simp[Ar]
theorem A35 {l:List Nat} {i:Nat} (h:i<l.length) {f:Int→O R}:As .u32 (List.drop i (Ar l)) f=f (l[i]:Nat):=by
 rw[A09,List.drop_eq_getElem_cons h,fe,A5]
theorem IU:∀ l:List Nat,A0 (Ar l)=true
 | []=>rfl
 | x::r=>by rw[fe,A0];exact IU r
theorem Aly (a b:Nat):(a:Int)+(b:Int)=((a+b:Nat):Int):=by omega
theorem A7e (a b:Nat):(a:Int)*(b:Int)=((a*b:Nat):Int):=by simp
theorem ZZ {a:Nat} (h:a<18446744073709551616):IntKind.wrap .u64 (a:Int)=(a:Int):=wrap_u64 a h
theorem A6x {a:Nat} (h:a<4294967296):IntKind.wrap .u32 (a:Int)=(a:Int):=wrap_u32 a h
theorem Aq8 (a:Nat):IntKind.wrap .u32 (a:Int)=((a%4294967296:Nat):Int):=A08 a
theorem x8 (a:Int):IntKind.wrap .u64 a=a%18446744073709551616:=IntKind.wrap_u64 a
theorem Alz {a b:Nat} (c:a<18446744073709551616) (d:b≤a):IntKind.wrap .u64 ((a:Int) - (b:Int))=((a - b:Nat):Int):=by rw[x8];omega
theorem A36 {a b:Nat} (h:a<b) (c:b≤18446744073709551616):IntKind.wrap .u64 ((a:Int) - (b:Int))=((18446744073709551616+a - b:Nat):Int):=by rw[x8];omega
theorem Awj (a:Nat):Int.fdiv (a:Int) (2 ^ 32)=((a/4294967296:Nat):Int):=m9 a 32
theorem A77 (a:Nat):Int.fdiv (a:Int) (2 ^ 63)=((a/9223372036854775808:Nat):Int):=m9 a 63
theorem i64 {a:Int} (h:-9223372036854775808≤a∧a≤9223372036854775807):IntKind.wrap .i64 a=a:=wrap_i64 a h
theorem A51 {a b:Nat} (c:a<18446744073709551616) (d:b<18446744073709551616):tb .u64 (a:Int) (b:Int)=((a ||| b:Nat):Int):=Air rfl c d
theorem Awk {a b k:Nat} (h:b<2 ^ k):a*2 ^ k ||| b=a*2 ^ k+b:=by
 rw[←Nat.shiftLeft_eq,Nat.shiftLeft_add_eq_or_of_lt h]
end
end Gx

namespace Gx
open Go Go.Proofs Go.RowKit Go.ChangeShapes
open Go.Proofs.YtjmfofdghmlldaaGreatDoor (Rows.uptoBulk Rows.uptoBulkAll)
theorem A37 {n:Int} (h:(Lit.int .i64 n).wf=true):-9223372036854775808≤n∧n≤9223372036854775807:=by
 simp only[Lit.wf,Bool.and_eq_true,decide_eq_true_eq,show IntKind.i64.min=-9223372036854775808 from rfl,show IntKind.i64.max=9223372036854775807 from rfl] at h;omega
end Gx

namespace Go.Proofs.YtjmfofdghmlldaaGreatDoor
open Go.ChangeShapes Go.WideShapes Go.ChangeAt Go.RowKit
theorem Az7 {W:World} (hL:laidMetH Tryz.prog Rows.eventsManyRow.laid W) (c:W.ShapedOpen Tryz.prog):Gx.GlobOk (fun _ k=>k<W.heap.size) W:=by
 have s : Lib.TabIs Tryz.prog W "internal/strconv.uint64pow10" .u64 A74 := by
  have d:laidMet Tryz.prog Rows.eventsManyRow.laid W:=hL
  obtain⟨ps,⟨F,t0,cs0,G,I,K,u,v,x,y,⟨L,t1,cs1,M,O,S,z,A,C,D,⟨T,t2,cs2,U,V,X,e,f,i,b,_,_⟩,_⟩,_⟩,_⟩:=d
  obtain rfl:=Option.some.inj (A81.symm.trans e)
  obtain rfl:=Option.some.inj (A9r.symm.trans f)
  unfold Lib.TabIs
  rw[A07] at b
  rw[i,←Lib.cells_of_tab A82 A83 A85 A84 b]
 obtain⟨ty,fr,j⟩:=Gx.A3w s A81
 obtain⟨m,l⟩:=cell_of_shapedOpen_int (P:=Tryz.prog) (g:=0) (t:=3) (zero:=#[.int .i64 0]) c (of_decide_eq_true (by kernel_rfl)) (by kernel_rfl) rfl (by kernel_rfl) (by kernel_rfl) Tryz.underlying3
 refine⟨fun p n=>?_,fun g q=>?_⟩
 ·simp only[Gx.Azr,List.mem_singleton] at n
  subst n
  refine⟨?_,ty,fr,?_⟩
  ·show 3<W.heap.size
   rcases Nat.lt_or_ge 3 W.heap.size with h | h
   ·exact h
   ·rw[Array.getElem?_eq_none h] at j;cases j
  ·rw[j];rfl
 ·simp only[Gx.Avm,List.mem_singleton] at q
  subst q
  exact⟨Gx.A3x l,m,l⟩
noncomputable def Ait (os:Os):World:=World.laidAll Tryz.prog os Rows.eventsManyRow.laid
theorem Aq9 (os:Os):(Ait os).os=os:=World.laidAll_os _ _ _
theorem Aiu (os:Os) (b:Array Value):laidMetH Tryz.prog Rows.eventsManyRow.laid ((Ait os).forCall (fun _ _=>0) ⟨#[],b,[]⟩).memory :=
 laidMet_laidAll b (by kernel_rfl) (by kernel_rfl)
end Go.Proofs.YtjmfofdghmlldaaGreatDoor

namespace Gx.Cf
open Go Go.Proofs
inductive Sl (α:Type) where
 | nil
 | of (l:List α) (t o:Bool)
def Sl.l {α:Type}:Sl α→List α
 | .nil=>[]
 | .of l _ _=>l
def Sl.av {α:Type} (sz:Nat) (e:α→LA):Sl α→AV
 | .nil=>.nsl
 | .of l t o=>.imm (l.flatMap e) l.length sz t o
def ZN (n:Int):LA:=[.int .i64 n]
def Ao (l:List Int):LA:=l.map fun n=>.int .i64 n
theorem Fi:∀ l:List Int,l.flatMap ZN=Ao l
 | []=>rfl
 | a::r=>by rw[List.flatMap_cons,Fi r];rfl
theorem Es (l:List Int):(Ao l).length=l.length:=by simp[Ao]
theorem aU (l m:List Int):Ao l++Ao m=Ao (l++m):=by simp[Ao]
structure FracD where
 num:Int
 den:Int
structure BusD where
 name:List UInt8
 demand:Sl Int
 shed:Int
structure LineD where
 name:List UInt8
 fr:Int
 tl:Int
 re:FracD
 smin:FracD
 smax:FracD
 limit:Int
 emer:Int
 away:Sl Int
structure SegD where
 width:Int
 price:Int
structure UnitD where
 name:List UInt8
 bus:Int
 min:Int
 max:Int
 segs:Sl SegD
 noLoad:Int
 rampUp:Int
 rampDown:Int
 startRamp:Int
 stopRamp:Int
 upTime:Int
 downTime:Int
 startTime:Int
 hotCost:Int
 coldCost:Int
 hotHours:Int
 reserve:Int
 reservePrice:Int
 away:Sl Int
 state:Int
 hours:Int
 output:Int
structure StoreD where
 name:List UInt8
 bus:Int
 capacity:Int
 initial:Int
 final:Int
 charge:Int
 discharge:Int
 eff:FracD
structure TieD where
 name:List UInt8
 bus:Int
 imp:Sl Int
 exp:Sl Int
 price:Sl Int
structure MoveD where
 unit:Int
 up:Int
 down:Int
structure OutD where
 name:List UInt8
 lines:Sl Int
 corr:Bool
 moves:Sl MoveD
structure CaseD where
 hours:Int
 reserve:Sl Int
 buses:Sl BusD
 lines:Sl LineD
 units:Sl UnitD
 stores:Sl StoreD
 ties:Sl TieD
 outs:Sl OutD
def BusD.av (b:BusD):LA:=[.str b.name,b.demand.av 1 ZN,.int .i64 b.shed]
def LineD.av (b:LineD):LA:=[.str b.name,.int .i64 b.fr,.int .i64 b.tl,.int .i64 b.re.num,.int .i64 b.re.den,.int .i64 b.smin.num,.int .i64 b.smin.den,.int .i64 b.smax.num,.int .i64 b.smax.den,.int .i64 b.limit,.int .i64 b.emer,b.away.av 1 ZN]
def SegD.av (s:SegD):LA:=[.int .i64 s.width,.int .i64 s.price]
def UnitD.av (u:UnitD):LA:=[.str u.name,.int .i64 u.bus,.int .i64 u.min,.int .i64 u.max,u.segs.av 2 SegD.av,.int .i64 u.noLoad,.int .i64 u.rampUp,.int .i64 u.rampDown,.int .i64 u.startRamp,.int .i64 u.stopRamp,.int .i64 u.upTime,.int .i64 u.downTime,.int .i64 u.startTime,.int .i64 u.hotCost,.int .i64 u.coldCost,.int .i64 u.hotHours,.int .i64 u.reserve,.int .i64 u.reservePrice,u.away.av 1 ZN,.int .i64 u.state,.int .i64 u.hours,.int .i64 u.output]
def StoreD.av (s:StoreD):LA:=[.str s.name,.int .i64 s.bus,.int .i64 s.capacity,.int .i64 s.initial,.int .i64 s.final,.int .i64 s.charge,.int .i64 s.discharge,.int .i64 s.eff.num,.int .i64 s.eff.den]
def TieD.av (t:TieD):LA:=[.str t.name,.int .i64 t.bus,t.imp.av 1 ZN,t.exp.av 1 ZN,t.price.av 1 ZN]
def MoveD.av (m:MoveD):LA:=[.int .i64 m.unit,.int .i64 m.up,.int .i64 m.down]
def OutD.av (o:OutD):LA:=[.str o.name,o.lines.av 1 ZN,.bool o.corr,o.moves.av 3 MoveD.av]
def CaseD.av (c:CaseD):LA:=[.int .i64 c.hours,c.reserve.av 1 ZN,c.buses.av 3 BusD.av,c.lines.av 12 LineD.av,c.units.av 22 UnitD.av,c.stores.av 9 StoreD.av,c.ties.av 5 TieD.av,c.outs.av 4 OutD.av]
section
variable {R:Type}
theorem Ey {α:Type} {sz:Nat} {e:α→LA} {s:Sl α} {r:LA} {f:LA→Nat→O R}:B4 sz (s.av sz e::r) f=f (s.l.flatMap e) s.l.length:=by
 cases s<;>simp[B4,Sl.av,Sl.l,A29]
theorem Et {s:List UInt8} {r:LA} {f:List UInt8→O R}:Wb (.str s::r) f=f s:=by simp[Wb,tG]
theorem A38 {b:Bool} {r:LA} {f:Bool→O R}:aT (.bool b::r) f=f b:=by simp[aT,asBool]
theorem Bq (a b:Nat):Nat.ble a b=decide (a≤b):=by
  cases h:Nat.ble a b with
  | true=>simp at h;simp[h]
  | false => have : ¬ a ≤ b := fun c => by rw [Nat.ble_eq_true_of_le c] at h; cases h
             simp[this]
theorem IJ (a b:Nat):Nat.beq a b=decide (a=b):=by
  cases h:Nat.beq a b with
  | true=>have:=Nat.eq_of_beq_eq_true h;simp[this]
  | false => have : a ≠ b := fun e => by subst e; rw [Nat.beq_refl] at h; cases h
             simp[this]
theorem ct (x y:O R):cond true x y=x:=rfl
theorem cf (x y:O R):cond false x y=y:=rfl
theorem Ax {α:Type} {e:α→LA} {sz:Nat} (b:∀ a,(e a).length=sz):∀ (l:List α) (j:Nat) (h:j<l.length),List.drop (j*sz) (l.flatMap e)=e l[j]++(l.drop (j+1)).flatMap e
 | a::r,0,_=>by simp
 | a::r,j+1,h=>by
  have:=Ax b r j (by simpa using h)
  rw[List.flatMap_cons,List.drop_append,b,show(j+1)*sz - sz=j*sz by rw[Nat.add_mul];omega,List.drop_eq_nil_of_le (by rw[b,Nat.add_mul];omega)]
  simpa using this
theorem m_ {l:List Int} {i:Nat} (h:i<l.length) {f:Int→O R}:As .i64 (List.drop i (Ao l)) f=f l[i]:=by
 rw[Ao,List.drop_eq_getElem_cons (by simpa using h)];simp[A5]
abbrev C6:=Option ((Int×Int×Int)×{ e:Int // e≠0 })
def nd (p:C6) (ok:Bool) (w:Int×Int×Int) (e:{ e:Int // e≠0 }):C6:=match p with
 | some x=>some x
 | none=>cond ok none (some (w,e))
theorem Gh (p:C6) (w:Int×Int×Int) (e:{ e:Int // e≠0 }):nd p true w e=p:=by cases p<;>rfl
theorem SE (x:(Int×Int×Int)×{ e:Int // e≠0 }) (ok:Bool) (w:Int×Int×Int) (e:{ e:Int // e≠0 }):nd (some x) ok w e=some x:=rfl
theorem Rf (p:C6) (a b:Bool) (w:Int×Int×Int) (e:{ e:Int // e≠0 }):nd (nd p a w e) b w e=nd p (a&&b) w e:=by cases p<;>cases a<;>cases b<;>rfl
def N_ (p:C6) (k i:Int):LA:=match p with
 | none=>[.int .i64 k,.int .i64 i,.int .i64 0,.int .i64 0]
 | some ((a,b,f),e)=>[.int .i64 a,.int .i64 b,.int .i64 f,.int .i64 e.1]
def Fj (lo hi n:Int):Bool:=decide (lo≤n)&&decide (n≤hi)
end
end Gx.Cf

namespace Gx
open Go Go.Proofs Go.RowKit
section
variable {W:World} {H:Type} {enc:TypeId×Value→H} {β:Cn} {h:Ai}
theorem te {q:Int→Prop}:∀ m:List { n:Int // q n },m.flatMap (fun n=>[AV.int .i64 n.1])=Cf.Ao (m.map (·.1))
 | []=>rfl
 | a::r=>by rw[List.flatMap_cons,te r];rfl
theorem fg {a:Option Addr} {len cap:Nat} {d:DataW H} {p:List MemPlace} (b:DataW.Trod enc Tryz.prog W 0 (fun _=>true) true 33 (.slice a len cap) d p) :
  ∃ l:List Int,l.length≤maxLen∧Rep (fun _ k=>k<W.heap.size) β h W (.imm (Cf.Ao l) l.length 1 false false) (.slice a len cap):=by
 obtain⟨l,c,e⟩:=A50 (β:=β) (h:=h) Tryz.underlying33 (by kernel_rfl) (A06 Tryz.underlying3 (by kernel_rfl)) b
 rw[te] at e
 exact⟨l.map (·.1),by rw[List.length_map];exact c,by rw[List.length_map];exact e⟩
end
end Gx

namespace Gx
open Go Go.Proofs
open IntKind (wrap)
set_option maxRecDepth 100000
noncomputable section
variable {R:Type} (N:Nat)
def SF (N:Nat) (r0:Nat→O R) (b:Nat) (c:LA) (k0:Int→O R) (d:Int):O R :=
 (cond ((decide (d>0))==true) (cond (Ae (wrap .i64 (d - 1)) b) (As .u32 (c.drop (0+(((wrap .i64 (d - 1)).toNat)*1))) fun e=>(cond (cond true (e==0) false) (k0 (wrap .i64 (d - 1))) (cond ((decide ((0:Int)≤(0:Int)))&&((decide (0≤d))&&((decide (d≤((b:Nat):Int)))&&(decide (((b:Nat):Int)≤((b:Nat):Int)))))) (r0 (d.toNat)) none))) none) (cond ((decide ((0:Int)≤(0:Int)))&&((decide (0≤d))&&((decide (d≤((b:Nat):Int)))&&(decide (((b:Nat):Int)≤((b:Nat):Int)))))) (r0 (d.toNat)) none))
def W7 (r0:Nat→O R) (b:Nat) (c:LA):Nat→Int→O R
 | 0,_=>none
 | n+1,d=>(SF N r0 b c (W7 r0 b c n) d)
def mb (N:Nat) (r0:Nat→O R) (q0:Int→O R) (b:Nat) (c:LA):O R :=
 (q0 ((b:Nat):Int))
def MH:=(Ah (fun (N b:Nat) (c:LA) (r0:Nat→O R)=>(mb N r0 (fun d=>(W7 N r0 b c N d)) b c))).1
theorem lR (b c r0):(@MH R N b c r0)=(mb N r0 (fun d=>(W7 N r0 b c N d)) b c):=by rw[MH,(Ah _).2]
def A1a (F:KF R):=Ko Tryz.f214 Ais [] [100000] N F
def FD (c:LA) (F:KF R):Nat→O R:=(fun f=>F (.own 100000 0 f) [(100000,(bQ 1 c))])
def A1b (b:Nat) (c:LA) (d:Int):St:=⟨[(0,(.own 100000 0 b)),(3,(iv d))],[(100000,(bQ 1 c))]⟩
def A1c (F:KF R):=A1a N F [1,1,0,0] []
theorem md (F:KF R) (b:Nat) (c:LA):∀ (n:Nat) (d:Int),Aj (A1c N F) n (A1b b c d)=(W7 N (FD c F) b c n d)
 | 0,_=>by kernel_rfl
 | n+1,d=>Eq.trans (by kernel_rfl) (Bu (SF N (FD c F) b c · d) (funext fun d=>(md F b c n d)):_)
theorem fh (b:Nat) (c:LA) (F:KF R):C2 [] Ais N 214 [(.own 100000 0 b)] [(100000,(bQ 1 c))] F=(MH N b c (FD c F)):=by
 rw[lR]
 exact Eq.trans (by kernel_rfl) (Bu (mb N (FD c F) · b c) (funext fun d=>(Ad ..).trans (md N F b c N d)):_)
def zY (a:LA) (h:Ai) (k:KF R):O R :=
 match a,h with
 | [(.own 100000 0 b)],[(100000,⟨false,false,true,false,1,c,false,none⟩)]=>(MH N b c (FD c k))
 | _,_=>none
theorem Aiv:Am N 214 @zY:=by
 intro R Q a h k j;unfold zY;split;exact Az (fh ..) (fh ..) trivial;exact A2
def A1d:=A1 (Aiv N)
def A1e:=C5 (Aiv N)
def GE (b:Int) (r0:Nat→LA→O R):O R :=
 (MH N 2 [(.int .u32 (wrap .u32 b)),(.int .u32 (wrap .u32 (Int.fdiv b (2 ^ 32))))] (fun c=>(r0 c [(.int .u32 (wrap .u32 b)),(.int .u32 (wrap .u32 (Int.fdiv b (2 ^ 32))))])))
def N1:=(Ah (@GE R)).1
theorem IV:@N1 R=@GE R:=(Ah _).2
def x9:Gm:=[(214,A1d N)]
def N' (F:KF R):Nat→LA→O R:=(fun d e=>F (.own 300000 0 d) (hq [(bQ 1 e)]))
theorem OA (b:Int) (F:KF R):C2 (x9 N) Az3 N 133 [(.int .u64 b)] [] F=(N1 N b (N' F)):=by
 rw[IV]
 kernel_rfl
def IW (a:LA) (h:Ai) (k:KF R):O R :=
 match a,h with
 | [(.int .u64 b)],[]=>(N1 N b (N' k))
 | _,_=>none
theorem OB:Am N 133 @IW:=by
 intro R Q a h k j;unfold IW;split;exact Az (OA ..) (OA ..) ⟨A1e N,trivial⟩;exact A2
def r_:=A1 (OB N)
def ra:=C5 (OB N)
def lS (N:Nat) (d:Bool) (b:Nat) (c:LA) (r0:Bool→O R):O R :=
 (cond (d==true) (r0 (cond true (decide (((b:Nat):Int)>0)) false)) (r0 false))
def Lg:=(Ah (@lS R)).1
theorem iR:@Lg R=@lS R:=(Ah _).2
def mf (b:Nat) (c:LA) (F:KF R):Bool→O R:=(fun e=>F (.agg [(.bool e),(.own 100000 0 b)]) [(100000,(bQ 1 c))])
theorem mg (d:Bool) (b:Nat) (c:LA) (F:KF R):C2 [] Dc N 132 [(.bool d),(.own 100000 0 b)] [(100000,(bQ 1 c))] F=(Lg N d b c (mf b c F)):=by
 rw[iR]
 kernel_rfl
def iS (a:LA) (h:Ai) (k:KF R):O R :=
 match a,h with
 | [(.bool d),(.own 100000 0 b)],[(100000,⟨false,false,true,false,1,c,false,none⟩)]=>(Lg N d b c (mf b c k))
 | _,_=>none
theorem mh:Am N 132 @iS:=by
 intro R Q a h k j;unfold iS;split;exact Az (mg ..) (mg ..) trivial;exact A2
def DM:=A1 (mh N)
def DN:=C5 (mh N)
def aV (b:Int) (r0:Bool→Nat→LA→O R):O R :=
 (cond (decide (b<0)) (N1 N (wrap .u64 ((0:Int) - (wrap .u64 b))) (fun c d=>(Lg N true c d (fun g=>(r0 g c d))))) (N1 N (wrap .u64 b) (fun e f=>(Lg N false e f (fun i=>(r0 i e f))))))
def Mk:=(Ah (@aV R)).1
theorem aW:@Mk R=@aV R:=(Ah _).2
def Al0:Gm:=[(133,r_ N),(132,DM N)]
def iT (F:KF R):Bool→Nat→LA→O R:=(fun l m n=>F (.agg [(.bool l),(.own 300000 0 m)]) (hq [(bQ 1 n)]))
theorem iU (b:Int) (F:KF R):C2 (Al0 N) Dc N 64 [(iv b)] [] F=(Mk N b (iT F)):=by
 rw[aW]
 kernel_rfl
def aX (a:LA) (h:Ai) (k:KF R):O R :=
 match a,h with
 | [(.int .i64 b)],[]=>(Mk N b (iT k))
 | _,_=>none
theorem iV:Am N 64 @aX:=by
 intro R Q a h k j;unfold aX;split;exact Az (iU ..) (iU ..) ⟨ra N,DN N,trivial⟩;exact A2
def iW:=A1 (iV N)
def iX:=C5 (iV N)
def Yh (N:Nat) (r0:LA→Nat→O R) (e:LA) (b:Nat) (f c:Bool) (k0:Int→O R) (d:Int):O R :=
 (cond ((decide (d>0))==true) (cond (Ae (wrap .i64 (d - 1)) b) (As .u32 (e.drop (((wrap .i64 (d - 1)).toNat)*1)) fun g=>(cond (cond true (g==0) false) (k0 (wrap .i64 (d - 1))) (cond ((decide ((0:Int)≤(0:Int)))&&((decide (0≤d))&&((decide (d≤((b:Nat):Int)))&&(decide (((b:Nat):Int)≤((b:Nat):Int)))))) (r0 (e.take ((d.toNat)*1)) (d.toNat)) none))) none) (cond ((decide ((0:Int)≤(0:Int)))&&((decide (0≤d))&&((decide (d≤((b:Nat):Int)))&&(decide (((b:Nat):Int)≤((b:Nat):Int)))))) (r0 (e.take ((d.toNat)*1)) (d.toNat)) none))
def Ml (r0:LA→Nat→O R) (e:LA) (b:Nat) (f c:Bool):Nat→Int→O R
 | 0,_=>none
 | n+1,d=>(Yh N r0 e b f c (Ml r0 e b f c n) d)
def SG (N:Nat) (r0:LA→Nat→O R) (q0:Int→O R) (e:LA) (b:Nat) (f c:Bool):O R :=
 (q0 ((b:Nat):Int))
def Fk:=(Ah (fun (N:Nat) (e:LA) (b:Nat) (f c:Bool) (r0:LA→Nat→O R)=>(SG N r0 (fun d=>(Ml N r0 e b f c N d)) e b f c))).1
theorem iY (e b f c r0):(@Fk R N e b f c r0)=(SG N r0 (fun d=>(Ml N r0 e b f c N d)) e b f c):=by rw[Fk,(Ah _).2]
def Al1 (F:KF R):=Ko Tryz.f214 Ais [] [] N F
def Qu (c:Bool) (F:KF R):LA→Nat→O R:=(fun i l=>F (.imm i l 1 false c) [])
def Al2 (e:LA) (b:Nat) (f c:Bool) (d:Int):St:=⟨[(0,(.imm e b 1 f c)),(3,(iv d))],[]⟩
def Al3 (F:KF R):=Al1 N F [1,1,0,0] []
theorem VC (F:KF R) (e:LA) (b:Nat) (f c:Bool):∀ (n:Nat) (d:Int),Aj (Al3 N F) n (Al2 e b f c d)=(Ml N (Qu c F) e b f c n d)
 | 0,_=>by kernel_rfl
 | n+1,d=>Eq.trans (by kernel_rfl) (Bu (Yh N (Qu c F) e b f c · d) (funext fun d=>(VC F e b f c n d)):_)
theorem DO (e:LA) (b:Nat) (f c:Bool) (F:KF R):C2 [] Ais N 214 [(.imm e b 1 f c)] [] F=(Fk N e b f c (Qu c F)):=by
 rw[iY]
 exact Eq.trans (by kernel_rfl) (Bu (SG N (Qu c F) · e b f c) (funext fun d=>(Ad ..).trans (VC N F e b f c N d)):_)
def iZ (a:LA) (h:Ai) (k:KF R):O R :=
 match a,h with
 | [(.imm e b 1 f c)],[]=>(Fk N e b f c (Qu c k))
 | _,_=>none
theorem mj:Am N 214 @iZ:=by
 intro R Q a h k j;unfold iZ;split;exact Az (DO ..) (DO ..) trivial;exact A2
def SH:=A1 (mj N)
def SI:=C5 (mj N)
def SK (N:Nat) (k1:Nat→Int→Int→LA→O R) (r0:Nat→LA→O R) (f:LA) (b:Nat) (e:Bool) (l:Nat) (g r:Int) (i:LA) (d:Nat) (c:Bool) (m:Int) (k2:Int→Int→Int→LA→O R) (s t o:Int) (q:LA):O R :=
 (cond (decide (o<t)) (cond (Ae o b) (As .u32 (f.drop ((o.toNat)*1)) fun aa=>(cond (Ae (wrap .i64 (g+o)) l) (As .u32 (q.drop (0+(((wrap .i64 (g+o)).toNat)*1))) fun ab=>(cond (Ae (wrap .i64 (g+o)) l) (cond ((Nat.beq 1 1)&&((Nat.ble ((0+(((wrap .i64 (g+o)).toNat)*1))+1) (q.length))&&(!false))) (k2 (Int.fdiv (wrap .u64 (s+(wrap .u64 ((wrap .u64 ((wrap .u64 r)*(wrap .u64 aa)))+(wrap .u64 ab))))) (2 ^ 32)) t (wrap .i64 (o+1)) (q.set (0+(((wrap .i64 (g+o)).toNat)*1)) (.int .u32 (wrap .u32 (wrap .u64 (s+(wrap .u64 ((wrap .u64 ((wrap .u64 r)*(wrap .u64 aa)))+(wrap .u64 ab))))))))) none) none)) none)) none) (cond (Ae (wrap .i64 (g+((b:Nat):Int))) l) (cond ((Nat.beq 1 1)&&((Nat.ble ((0+(((wrap .i64 (g+((b:Nat):Int))).toNat)*1))+1) (q.length))&&(!false))) (k1 l m (wrap .i64 (g+1)) (q.set (0+(((wrap .i64 (g+((b:Nat):Int))).toNat)*1)) (.int .u32 (wrap .u32 s)))) none) none))
def W8 (k1:Nat→Int→Int→LA→O R) (r0:Nat→LA→O R) (f:LA) (b:Nat) (e:Bool) (l:Nat) (g r:Int) (i:LA) (d:Nat) (c:Bool) (m:Int):Nat→Int→Int→Int→LA→O R
 | 0,_,_,_,_=>none
 | n+1,s,t,o,q=>(SK N k1 r0 f b e l g r i d c m (W8 k1 r0 f b e l g r i d c m n) s t o q)
def GF (r0:Nat→LA→O R) (f:LA) (b:Nat) (e:Bool) (i:LA) (d:Nat) (c:Bool) (k1:Nat→Int→Int→LA→O R) (q2:Int→Int→Int→Int→LA→O R) (l:Nat) (m g:Int) (p:LA):O R :=
 (cond (decide (g<m)) (cond (Ae g d) (As .u32 (i.drop ((g.toNat)*1)) fun r=>(cond (r==0) (k1 l m (wrap .i64 (g+1)) p) (q2 r 0 ((b:Nat):Int) 0 p))) none) (MH N l p (fun ad=>(r0 ad p))))
def Qv (r0:Nat→LA→O R) (f:LA) (b:Nat) (e:Bool) (i:LA) (d:Nat) (c:Bool):Nat→Nat→Int→Int→LA→O R
 | 0,_,_,_,_=>none
 | n+1,l,m,g,p=>(GF N r0 f b e i d c (Qv r0 f b e i d c n) (fun r s t o q=>(W8 N (Qv r0 f b e i d c n) r0 f b e l g r i d c m N s t o q)) l m g p)
def lT (N:Nat) (r0:Nat→LA→O R) (i:LA) (d:Nat) (c:Bool) (f:LA) (b:Nat) (e:Bool) (q1:Nat→Int→Int→LA→O R):O R :=
 (cond ((decide (0≤(wrap .i64 (((d:Nat):Int)+((b:Nat):Int)))))&&((decide ((wrap .i64 (((d:Nat):Int)+((b:Nat):Int)))≤(wrap .i64 (((d:Nat):Int)+((b:Nat):Int)))))&&((decide ((wrap .i64 (((d:Nat):Int)+((b:Nat):Int)))≤140737488355328))&&(decide (((wrap .i64 (((d:Nat):Int)+((b:Nat):Int)))*((4:Nat):Int))≤140737488355328))))) (q1 ((wrap .i64 (((d:Nat):Int)+((b:Nat):Int))).toNat) ((d:Nat):Int) 0 (List.replicate ((wrap .i64 (((d:Nat):Int)+((b:Nat):Int))).toNat) (.int .u32 0))) none)
def fi (r0:Nat→LA→O R) (i:LA) (d:Nat) (c:Bool) (f:LA) (b:Nat) (e:Bool):O R:=(lT N r0 i d c f b e (fun l m g p=>(Qv N r0 f b e i d c N l m g p)))
def fj (r0:Nat→LA→O R) (q0:LA→Nat→LA→Nat→O R) (v:LA) (u:Nat) (w c:Bool) (x:LA) (y:Nat) (z e:Bool):O R :=
 (Fk N v u w c (fun i d=>(Fk N x y z e (fun f b=>(cond ((((d:Nat):Int)==0)==false) (cond (cond false true (((b:Nat):Int)==0)) (r0 0 []) (q0 i d f b)) (r0 0 []))))))
def rc:=(Ah (fun (N:Nat) (v:LA) (u:Nat) (w c:Bool) (x:LA) (y:Nat) (z e:Bool) (r0:Nat→LA→O R)=>(fj N r0 (fun i d f b=>(fi N r0 i d c f b e)) v u w c x y z e))).1
theorem SL (v u w c x y z e r0):(@rc R N v u w c x y z e r0)=(fj N r0 (fun i d f b=>(fi N r0 i d c f b e)) v u w c x y z e):=by rw[rc,(Ah _).2]
def Aiw:Hints:={ H:=(hS hL (hS hL (hJ [0,1] hL (hS hL (hS (hS hL (hS (hP [1,5,29,30,31] (hS hL (hS hL (hS (hS (hS hL (hS hL (hS hL (hS (hS hL (hS (hP [1,5,6,7,8,29,30,31,38,39,40] hL) hL)) hL)))) hL) hL)))) hL)) hL))))),nils:=[(4,1)],modes:=[(2,1)] }
def Rw (a:LA) (h:Ai) (k:KF R):O R :=
 match a,h with
 | [(.imm v u 1 w c)],[]=>(Fk N v u w c (Qu c k))
 | [(.own 100000 0 u)],[(100000,⟨false,false,true,false,1,ac,false,none⟩)]=>(MH N u ac (FD ac k))
 | _,_=>none
theorem T2:Am N 214 @Rw:=by
 intro R Q a h k j;unfold Rw;split;exact Az (DO ..) (DO ..) trivial;exact Az (fh ..) (fh ..) trivial;exact A2
def Lh:=A1 (T2 N)
def Li:=C5 (T2 N)
def Ara:Gm:=[(214,Lh N)]
def rf (F:KF R):=Ko Tryz.f137 Aiw (Ara N) [] N F
def N2 (F:KF R):Nat→LA→O R:=(fun ae af=>F (.own 300000 0 ae) (hq [(bQ 1 af)]))
def A1f (f:LA) (b:Nat) (e:Bool) (l:Nat) (g r:Int) (i:LA) (d:Nat) (c:Bool) (m s t o:Int) (q:LA):St:=⟨[(1,(.imm f b 1 false e)),(5,(.own 300000 0 l)),(6,(iv g)),(7,(.int .u32 r)),(8,(.int .u64 s)),(29,(.imm i d 1 false c)),(30,(iv m)),(31,(iv g)),(38,(.imm f b 1 false e)),(39,(iv t)),(40,(iv o))],(hq [(bQ 1 q)])⟩
def A1g (F:KF R) (Q1:St→O R):=rf N F [1,1,1,1,0,1,0,0,1,1,0,0,1,1,1,0,1,0] [Q1]
def rg (f:LA) (b:Nat) (e:Bool) (i:LA) (d:Nat) (c:Bool) (l:Nat) (m g:Int) (p:LA):St:=⟨[(1,(.imm f b 1 false e)),(5,(.own 300000 0 l)),(29,(.imm i d 1 false c)),(30,(iv m)),(31,(iv g))],(hq [(bQ 1 p)])⟩
def Aix (F:KF R):=rf N F [1,1,1,1,0,1,0] []
def A1h (i:LA) (d:Nat) (c:Bool) (f:LA) (b:Nat) (e:Bool):St:=⟨[(0,(.imm i d 1 false c)),(1,(.imm f b 1 false e))],[]⟩
def A1i (F:KF R):=rf N F [1,1,1] []
theorem mm (Q1:St→O R) (F:KF R) (f:LA) (b:Nat) (e:Bool) (l:Nat) (g r:Int) (i:LA) (d:Nat) (c:Bool) (m:Int):∀ (n:Nat) (s t o:Int) (q:LA),Aj (A1g N F Q1) n (A1f f b e l g r i d c m s t o q)=(W8 N (fun l m g p=>Q1 (rg f b e i d c l m g p)) (N2 F) f b e l g r i d c m n s t o q)
 | 0,_,_,_,_=>by kernel_rfl
 | n+1,s,t,o,q=>Eq.trans (by kernel_rfl) (Bu (SK N (fun l m g p=>Q1 (rg f b e i d c l m g p)) (N2 F) f b e l g r i d c m · s t o q) (funext fun s=>funext fun t=>funext fun o=>funext fun q=>(mm Q1 F f b e l g r i d c m n s t o q)):_)
theorem mo (F:KF R) (f:LA) (b:Nat) (e:Bool) (i:LA) (d:Nat) (c:Bool):∀ (n l:Nat) (m g:Int) (p:LA),Aj (Aix N F) n (rg f b e i d c l m g p)=(Qv N (N2 F) f b e i d c n l m g p)
 | 0,_,_,_,_=>by kernel_rfl
 | n+1,l,m,g,p=>have e0:=(funext fun l=>funext fun m=>funext fun g=>funext fun p=>(mo F f b e i d c n l m g p))
  Eq.trans (by kernel_rfl) (NY (GF N (N2 F) f b e i d c · · l m g p) e0 (funext fun r=>funext fun s=>funext fun t=>funext fun o=>funext fun q=>(Ad ..).trans ((mm N (Aj (Aix N F) n) F f b e l g r i d c m N s t o q).trans (Bu (W8 N · (N2 F) f b e l g r i d c m N s t o q) e0))):_)
theorem Al4 (F:KF R) (i:LA) (d:Nat) (c:Bool) (f:LA) (b:Nat) (e:Bool):B9 (A1i N F) (A1h i d c f b e)=(fi N (N2 F) i d c f b e):=by
 exact Eq.trans (by kernel_rfl) (Bu (lT N (N2 F) i d c f b e ·) (funext fun l=>funext fun m=>funext fun g=>funext fun p=>(Ad ..).trans (mo N F f b e i d c N l m g p)):_)
theorem Aiy (v:LA) (u:Nat) (w c:Bool) (x:LA) (y:Nat) (z e:Bool) (F:KF R):C2 (Ara N) Aiw N 137 [(.imm v u 1 w c),(.imm x y 1 z e)] [] F=(rc N v u w c x y z e (N2 F)):=by
 rw[SL]
 exact Eq.trans (by kernel_rfl) (Bu (fj N (N2 F) · v u w c x y z e) (funext fun i=>funext fun d=>funext fun f=>funext fun b=>(A4 ..).trans (Al4 N F i d c f b e)):_)
def zZ (a:LA) (h:Ai) (k:KF R):O R :=
 match a,h with
 | [(.imm v u 1 w c),(.imm x y 1 z e)],[]=>(rc N v u w c x y z e (N2 k))
 | _,_=>none
theorem Aiz:Am N 137 @zZ:=by
 intro R Q a h k j;unfold zZ;split;exact Az (Aiy ..) (Aiy ..) ⟨Li N,trivial⟩;exact A2
def A1j:=A1 (Aiz N)
def A1k:=C5 (Aiz N)
def Al5 (b:LA) (d:Bool) (c:LA) (e:Bool) (r0:Bool→Nat→LA→O R):O R :=
 (aT b fun i=>(aT c fun l=>(B4 1 (b.drop 1) fun m n=>(B4 1 (c.drop 1) fun o p=>(rc N m n false d o p false e (fun f g=>(Lg N (!(i==l)) f g (fun q=>(r0 q f g)))))))))
def SM:=(Ah (@Al5 R)).1
theorem z6:@SM R=@Al5 R:=(Ah _).2
def A39:Gm:=[(137,A1j N),(132,DM N)]
def Ai0 (F:KF R):Bool→Nat→LA→O R:=(fun r s t=>F (.agg [(.bool r),(.own 300000 0 s)]) (hq [(bQ 1 t)]))
theorem Ai1 (b:LA) (d:Bool) (c:LA) (e:Bool) (F:KF R):C2 (A39 N) Dc N 68 [(.pagg b d),(.pagg c e)] [] F=(SM N b d c e (Ai0 F)):=by
 rw[z6]
 kernel_rfl
def z7 (a:LA) (h:Ai) (k:KF R):O R :=
 match a,h with
 | [(.pagg b d),(.pagg c e)],[]=>(SM N b d c e (Ai0 k))
 | _,_=>none
theorem Ai2:Am N 68 @z7:=by
 intro R Q a h k j;unfold z7;split;exact Az (Ai1 ..) (Ai1 ..) ⟨A1k N,DN N,trivial⟩;exact A2
def Ai3:=A1 (Ai2 N)
def Ai4:=C5 (Ai2 N)
def z8 (d:LA) (e:Nat) (f c:Bool) (r0:Nat→LA→O R):O R :=
 (Fk N d e f c (fun g b=>(cond ((decide (0≤((b:Nat):Int)))&&((decide (((b:Nat):Int)≤((b:Nat):Int)))&&((decide (((b:Nat):Int)≤140737488355328))&&(decide ((((b:Nat):Int)*((4:Nat):Int))≤140737488355328))))) (cond ((!c)||(A0 g)) (r0 b (Cx (List.replicate b (.int .u32 0)) 0 (g.take ((min b b)*1)))) none) none)))
def mq:=(Ah (@z8 R)).1
theorem th:@mq R=@z8 R:=(Ah _).2
def A1l:Gm:=[(214,SH N)]
def z_ (F:KF R):Nat→LA→O R:=(fun i l=>F (.own 300000 0 i) (hq [(bQ 1 l)]))
theorem za (d:LA) (e:Nat) (f c:Bool) (F:KF R):C2 (A1l N) Az3 N 212 [(.imm d e 1 f c)] [] F=(mq N d e f c (z_ F)):=by
 rw[th]
 kernel_rfl
def ti (a:LA) (h:Ai) (k:KF R):O R :=
 match a,h with
 | [(.imm d e 1 f c)],[]=>(mq N d e f c (z_ k))
 | _,_=>none
theorem zb:Am N 212 @ti:=by
 intro R Q a h k j;unfold ti;split;exact Az (za ..) (za ..) ⟨SI N,trivial⟩;exact A2
def Awl:=A1 (zb N)
def Awm:=C5 (zb N)
def Al6 (b:LA) (c:Bool) (r0:Bool→Nat→LA→O R):O R :=
 (aT b fun f=>(B4 1 (b.drop 1) fun g i=>(mq N g i false c (fun d e=>(Lg N (!f) d e (fun l=>(r0 l d e)))))))
def zc:=(Ah (@Al6 R)).1
theorem zd:@zc R=@Al6 R:=(Ah _).2
def A4a:Gm:=[(212,Awl N),(132,DM N)]
def Ai5 (F:KF R):Bool→Nat→LA→O R:=(fun m n o=>F (.agg [(.bool m),(.own 300000 0 n)]) (hq [(bQ 1 o)]))
theorem Ai6 (b:LA) (c:Bool) (F:KF R):C2 (A4a N) Dc N 148 [(.pagg b c)] [] F=(zc N b c (Ai5 F)):=by
 rw[zd]
 kernel_rfl
def ze (a:LA) (h:Ai) (k:KF R):O R :=
 match a,h with
 | [(.pagg b c)],[]=>(zc N b c (Ai5 k))
 | _,_=>none
theorem Ai7:Am N 148 @ze:=by
 intro R Q a h k j;unfold ze;split;exact Az (Ai6 ..) (Ai6 ..) ⟨Awm N,DN N,trivial⟩;exact A2
def A1m:=A1 (Ai7 N)
def A1n:=C5 (Ai7 N)
def GG (r0:Nat→LA→O R) (c:LA) (b:Nat) (e:Bool) (f:LA) (d:Nat) (i:Bool) (k1:Nat→Int→Int→Int→LA→O R) (m:Nat) (o p g:Int) (l:LA):O R :=
 (cond (decide (g<p)) (cond (Ae g b) (As .u32 (c.drop ((g.toNat)*1)) fun y=>(cond (decide (g<((d:Nat):Int))) (cond (Ae g d) (As .u32 (f.drop ((g.toNat)*1)) fun ab=>(cond (Ae g m) (cond ((Nat.beq 1 1)&&((Nat.ble ((0+((g.toNat)*1))+1) (l.length))&&(!false))) (k1 m (Int.fdiv (wrap .u64 ((wrap .u64 (o+(wrap .u64 y)))+(wrap .u64 ab))) (2 ^ 32)) p (wrap .i64 (g+1)) (l.set (0+((g.toNat)*1)) (.int .u32 (wrap .u32 (wrap .u64 ((wrap .u64 (o+(wrap .u64 y)))+(wrap .u64 ab))))))) none) none)) none) (cond (Ae g m) (cond ((Nat.beq 1 1)&&((Nat.ble ((0+((g.toNat)*1))+1) (l.length))&&(!false))) (k1 m (Int.fdiv (wrap .u64 (o+(wrap .u64 y))) (2 ^ 32)) p (wrap .i64 (g+1)) (l.set (0+((g.toNat)*1)) (.int .u32 (wrap .u32 (wrap .u64 (o+(wrap .u64 y))))))) none) none))) none) (cond (Ae ((b:Nat):Int) m) (cond ((Nat.beq 1 1)&&((Nat.ble ((0+(b*1))+1) (l.length))&&(!false))) (MH N m (l.set (0+(b*1)) (.int .u32 (wrap .u32 o))) (fun ae=>(r0 ae (l.set (0+(b*1)) (.int .u32 (wrap .u32 o)))))) none) none))
def W9 (r0:Nat→LA→O R) (c:LA) (b:Nat) (e:Bool) (f:LA) (d:Nat) (i:Bool):Nat→Nat→Int→Int→Int→LA→O R
 | 0,_,_,_,_,_=>none
 | n+1,m,o,p,g,l=>(GG N r0 c b e f d i (W9 r0 c b e f d i n) m o p g l)
def lU (N:Nat) (r0:Nat→LA→O R) (q1:Nat→Int→Int→Int→LA→O R) (c:LA) (b:Nat) (e:Bool) (f:LA) (d:Nat) (i:Bool):O R :=
 (cond ((decide (0≤(wrap .i64 (((b:Nat):Int)+1))))&&((decide ((wrap .i64 (((b:Nat):Int)+1))≤(wrap .i64 (((b:Nat):Int)+1))))&&((decide ((wrap .i64 (((b:Nat):Int)+1))≤140737488355328))&&(decide (((wrap .i64 (((b:Nat):Int)+1))*((4:Nat):Int))≤140737488355328))))) (q1 ((wrap .i64 (((b:Nat):Int)+1)).toNat) 0 ((b:Nat):Int) 0 (List.replicate ((wrap .i64 (((b:Nat):Int)+1)).toNat) (.int .u32 0))) none)
def OC (r0:Nat→LA→O R) (c:LA) (b:Nat) (e:Bool) (f:LA) (d:Nat) (i:Bool):O R:=(lU N r0 (fun m o p g l=>(W9 N r0 c b e f d i N m o p g l)) c b e f d i)
def mt (r0:Nat→LA→O R) (q0:LA→Nat→Bool→LA→Nat→Bool→O R) (s:LA) (t:Nat) (u q:Bool) (v:LA) (w:Nat) (x r:Bool):O R :=
 (Fk N s t u q (fun ac z=>(Fk N v w x r (fun ad aa=>(cond (decide (((z:Nat):Int)<((aa:Nat):Int))) (q0 ad aa r ac z q) (q0 ac z q ad aa r))))))
def ri:=(Ah (fun (N:Nat) (s:LA) (t:Nat) (u q:Bool) (v:LA) (w:Nat) (x r:Bool) (r0:Nat→LA→O R)=>(mt N r0 (fun c b e f d i=>(OC N r0 c b e f d i)) s t u q v w x r))).1
theorem lV (s t u q v w x r r0):(@ri R N s t u q v w x r r0)=(mt N r0 (fun c b e f d i=>(OC N r0 c b e f d i)) s t u q v w x r):=by rw[ri,(Ah _).2]
def Ai8:Hints:={ H:=(hS hL (hS hL (hJ [0,1] hL (hS hL (hS hL (hS (hS hL (hS (hP [0,1,5,6,24,25,26] hL) hL)) hL)))))),nils:=[(4,1)],modes:=[(2,1)] }
def Arb:Gm:=[(214,Lh N)]
def Ai9 (F:KF R):=Ko Tryz.f135 Ai8 (Arb N) [] N F
def Xa (F:KF R):Nat→LA→O R:=(fun af ag=>F (.own 300000 0 af) (hq [(bQ 1 ag)]))
def A1o (c:LA) (b:Nat) (e:Bool) (f:LA) (d:Nat) (i:Bool) (m:Nat) (o p g:Int) (l:LA):St:=⟨[(0,(.imm c b 1 false e)),(1,(.imm f d 1 false i)),(5,(.own 300000 0 m)),(6,(.int .u64 o)),(24,(.imm c b 1 false e)),(25,(iv p)),(26,(iv g))],(hq [(bQ 1 l)])⟩
def A1p (F:KF R):=Ai9 N F [1,1,1,1,1,0,1,0] []
def A1q (c:LA) (b:Nat) (e:Bool) (f:LA) (d:Nat) (i:Bool):St:=⟨[(0,(.imm c b 1 false e)),(1,(.imm f d 1 false i))],[]⟩
def A1r (F:KF R):=Ai9 N F [1,1,1] []
theorem mu (F:KF R) (c:LA) (b:Nat) (e:Bool) (f:LA) (d:Nat) (i:Bool):∀ (n m:Nat) (o p g:Int) (l:LA),Aj (A1p N F) n (A1o c b e f d i m o p g l)=(W9 N (Xa F) c b e f d i n m o p g l)
 | 0,_,_,_,_,_=>by kernel_rfl
 | n+1,m,o,p,g,l=>Eq.trans (by kernel_rfl) (Bu (GG N (Xa F) c b e f d i · m o p g l) (funext fun m=>funext fun o=>funext fun p=>funext fun g=>funext fun l=>(mu F c b e f d i n m o p g l)):_)
theorem Al7 (F:KF R):∀ (c:LA) (b:Nat) (e:Bool) (f:LA) (d:Nat) (i:Bool),B9 (A1r N F) (A1q c b e f d i)=(OC N (Xa F) c b e f d i):=by
 intro c b e f d i
 exact Eq.trans (by kernel_rfl) (Bu (lU N (Xa F) · c b e f d i) (funext fun m=>funext fun o=>funext fun p=>funext fun g=>funext fun l=>(Ad ..).trans (mu N F c b e f d i N m o p g l)):_)
theorem Aja (s:LA) (t:Nat) (u q:Bool) (v:LA) (w:Nat) (x r:Bool) (F:KF R):C2 (Arb N) Ai8 N 135 [(.imm s t 1 u q),(.imm v w 1 x r)] [] F=(ri N s t u q v w x r (Xa F)):=by
 rw[lV]
 exact Eq.trans (by kernel_rfl) (Bu (mt N (Xa F) · s t u q v w x r) (funext fun c=>funext fun b=>funext fun e=>funext fun f=>funext fun d=>funext fun i=>(A4 ..).trans (Al7 N F c b e f d i)):_)
def zf (a:LA) (h:Ai) (k:KF R):O R :=
 match a,h with
 | [(.imm s t 1 u q),(.imm v w 1 x r)],[]=>(ri N s t u q v w x r (Xa k))
 | _,_=>none
theorem Ajb:Am N 135 @zf:=by
 intro R Q a h k j;unfold zf;split;exact Az (Aja ..) (Aja ..) ⟨Li N,trivial⟩;exact A2
def A1s:=A1 (Ajb N)
def A1t:=C5 (Ajb N)
def Ol (N:Nat) (r0:Int→O R) (g:LA) (e:Nat) (c:Bool) (i:LA) (f:Nat) (d:Bool) (k0:Int→O R) (b:Int):O R :=
 (cond (decide (b≥0)) (cond (Ae b e) (As .u32 (g.drop ((b.toNat)*1)) fun s=>(cond (Ae b f) (As .u32 (i.drop ((b.toNat)*1)) fun t=>(cond (decide (s<t)) (r0 (-1)) (cond (Ae b e) (As .u32 (g.drop ((b.toNat)*1)) fun u=>(cond (Ae b f) (As .u32 (i.drop ((b.toNat)*1)) fun v=>(cond (decide (u>v)) (r0 1) (k0 (wrap .i64 (b - 1))))) none)) none))) none)) none) (r0 0))
def F4 (r0:Int→O R) (g:LA) (e:Nat) (c:Bool) (i:LA) (f:Nat) (d:Bool):Nat→Int→O R
 | 0,_=>none
 | n+1,b=>(Ol N r0 g e c i f d (F4 r0 g e c i f d n) b)
def Uy (r0:Int→O R) (q0:LA→Nat→LA→Nat→Int→O R) (l:LA) (m:Nat) (o c:Bool) (p:LA) (q:Nat) (r d:Bool):O R :=
 (Fk N l m o c (fun g e=>(Fk N p q r d (fun i f=>(cond (((e:Nat):Int) != ((f:Nat):Int)) (cond (decide (((e:Nat):Int)<((f:Nat):Int))) (r0 (-1)) (r0 1)) (q0 g e i f (wrap .i64 (((e:Nat):Int) - 1))))))))
def N3:=(Ah (fun (N:Nat) (l:LA) (m:Nat) (o c:Bool) (p:LA) (q:Nat) (r d:Bool) (r0:Int→O R)=>(Uy N r0 (fun g e i f b=>(F4 N r0 g e c i f d N b)) l m o c p q r d))).1
theorem IX (l m o c p q r d r0):(@N3 R N l m o c p q r d r0)=(Uy N r0 (fun g e i f b=>(F4 N r0 g e c i f d N b)) l m o c p q r d):=by rw[N3,(Ah _).2]
def VD:Gm:=[(214,SH N)]
def rj (F:KF R):=Ko Tryz.f131 Az4 (VD N) [] N F
def Lj (F:KF R):Int→O R:=(fun w=>F (iv w) [])
def rk (g:LA) (e:Nat) (c:Bool) (i:LA) (f:Nat) (d:Bool) (b:Int):St:=⟨[(0,(.imm g e 1 false c)),(1,(.imm i f 1 false d)),(5,(iv b))],[]⟩
def rm (F:KF R):=rj N F [1,1,1,0,1,0] []
theorem BV (F:KF R) (g:LA) (e:Nat) (c:Bool) (i:LA) (f:Nat) (d:Bool):∀ (n:Nat) (b:Int),Aj (rm N F) n (rk g e c i f d b)=(F4 N (Lj F) g e c i f d n b)
 | 0,_=>by kernel_rfl
 | n+1,b=>Eq.trans (by kernel_rfl) (Bu (Ol N (Lj F) g e c i f d · b) (funext fun b=>(BV F g e c i f d n b)):_)
theorem OD (l:LA) (m:Nat) (o c:Bool) (p:LA) (q:Nat) (r d:Bool) (F:KF R):C2 (VD N) Az4 N 131 [(.imm l m 1 o c),(.imm p q 1 r d)] [] F=(N3 N l m o c p q r d (Lj F)):=by
 rw[IX]
 exact Eq.trans (by kernel_rfl) (Bu (Uy N (Lj F) · l m o c p q r d) (funext fun g=>funext fun e=>funext fun i=>funext fun f=>funext fun b=>(Ad ..).trans (BV N F g e c i f d N b)):_)
def IY (a:LA) (h:Ai) (k:KF R):O R :=
 match a,h with
 | [(.imm l m 1 o c),(.imm p q 1 r d)],[]=>(N3 N l m o c p q r d (Lj k))
 | _,_=>none
theorem OE:Am N 131 @IY:=by
 intro R Q a h k j;unfold IY;split;exact Az (OD ..) (OD ..) ⟨SI N,trivial⟩;exact A2
def rn:=A1 (OE N)
def ro:=C5 (OE N)
def GH (r0:Nat→Bool→LA→O R) (l:LA) (g:Nat) (d:Bool) (b:Nat) (m:LA) (e:Bool) (k0:Int→Int→Int→LA→O R) (i o c:Int) (f:LA):O R :=
 (cond (decide (c<o)) (cond (Ae c b) (As .u32 (m.drop ((c.toNat)*1)) fun v=>(cond (decide (c<((g:Nat):Int))) (cond (Ae c g) (As .u32 (l.drop ((c.toNat)*1)) fun w=>(cond (Ae c b) (cond ((Nat.beq 1 1)&&((Nat.ble ((0+((c.toNat)*1))+1) (f.length))&&(!false))) (k0 (Int.fdiv (wrap .u64 ((wrap .u64 ((wrap .u64 v) - i)) - (wrap .u64 w))) (2 ^ 63)) o (wrap .i64 (c+1)) (f.set (0+((c.toNat)*1)) (.int .u32 (wrap .u32 (wrap .u64 ((wrap .u64 ((wrap .u64 v) - i)) - (wrap .u64 w))))))) none) none)) none) (cond (Ae c b) (cond ((Nat.beq 1 1)&&((Nat.ble ((0+((c.toNat)*1))+1) (f.length))&&(!false))) (k0 (Int.fdiv (wrap .u64 ((wrap .u64 v) - i)) (2 ^ 63)) o (wrap .i64 (c+1)) (f.set (0+((c.toNat)*1)) (.int .u32 (wrap .u32 (wrap .u64 ((wrap .u64 v) - i)))))) none) none))) none) (MH N b f (fun x=>(r0 x true f))))
def T3 (r0:Nat→Bool→LA→O R) (l:LA) (g:Nat) (d:Bool) (b:Nat) (m:LA) (e:Bool):Nat→Int→Int→Int→LA→O R
 | 0,_,_,_,_=>none
 | n+1,i,o,c,f=>(GH N r0 l g d b m e (T3 r0 l g d b m e n) i o c f)
def mv (r0:Nat→Bool→LA→O R) (q0:LA→Nat→Nat→LA→Int→Int→Int→LA→O R) (p:LA) (q:Nat) (r e:Bool) (s:LA) (t:Nat) (u d:Bool):O R :=
 (Fk N p q r e (fun m b=>(Fk N s t u d (fun l g=>(N3 N m b false e l g false d (fun y=>(cond (decide (y<0)) (r0 0 false []) (cond ((decide (0≤((b:Nat):Int)))&&((decide (((b:Nat):Int)≤((b:Nat):Int)))&&((decide (((b:Nat):Int)≤140737488355328))&&(decide ((((b:Nat):Int)*((4:Nat):Int))≤140737488355328))))) (q0 l g b m 0 ((b:Nat):Int) 0 (List.replicate b (.int .u32 0))) none))))))))
def aY:=(Ah (fun (N:Nat) (p:LA) (q:Nat) (r e:Bool) (s:LA) (t:Nat) (u d:Bool) (r0:Nat→Bool→LA→O R)=>(mv N r0 (fun l g b m i o c f=>(T3 N r0 l g d b m e N i o c f)) p q r e s t u d))).1
theorem lW (p q r e s t u d r0):(@aY R N p q r e s t u d r0)=(mv N r0 (fun l g b m i o c f=>(T3 N r0 l g d b m e N i o c f)) p q r e s t u d):=by rw[aY,(Ah _).2]
def Ajc:Hints:={ H:=(hS hL (hS hL (hS hL (hS hL (hS hL (hS (hS hL (hS (hP [1,6,7,22,23,24] hL) hL)) hL)))))),nils:=[(4,1)],modes:=[(2,1),(0,0)] }
def Arc:Gm:=[(214,Lh N),(131,rn N)]
def A1u (F:KF R):=Ko Tryz.f136 Ajc (Arc N) [] N F
def OF (F:KF R):Nat→Bool→LA→O R:=(fun z aa ab=>F (.tup [(.own 300000 0 z),(.bool aa)]) (hq [(bQ 1 ab)]))
def A1v (l:LA) (g:Nat) (d:Bool) (b:Nat) (m:LA) (e:Bool) (i o c:Int) (f:LA):St:=⟨[(1,(.imm l g 1 false d)),(6,(.own 300000 0 b)),(7,(.int .u64 i)),(22,(.imm m b 1 false e)),(23,(iv o)),(24,(iv c))],(hq [(bQ 1 f)])⟩
def A1w (F:KF R):=A1u N F [1,1,1,1,1,0,1,0] []
theorem mw (F:KF R) (l:LA) (g:Nat) (d:Bool) (b:Nat) (m:LA) (e:Bool):∀ (n:Nat) (i o c:Int) (f:LA),Aj (A1w N F) n (A1v l g d b m e i o c f)=(T3 N (OF F) l g d b m e n i o c f)
 | 0,_,_,_,_=>by kernel_rfl
 | n+1,i,o,c,f=>Eq.trans (by kernel_rfl) (Bu (GH N (OF F) l g d b m e · i o c f) (funext fun i=>funext fun o=>funext fun c=>funext fun f=>(mw F l g d b m e n i o c f)):_)
theorem Ajd (p:LA) (q:Nat) (r e:Bool) (s:LA) (t:Nat) (u d:Bool) (F:KF R):C2 (Arc N) Ajc N 136 [(.imm p q 1 r e),(.imm s t 1 u d)] [] F=(aY N p q r e s t u d (OF F)):=by
 rw[lW]
 exact Eq.trans (by kernel_rfl) (Bu (mv N (OF F) · p q r e s t u d) (funext fun l=>funext fun g=>funext fun b=>funext fun m=>funext fun i=>funext fun o=>funext fun c=>funext fun f=>(Ad ..).trans (mw N F l g d b m e N i o c f)):_)
def zg (a:LA) (h:Ai) (k:KF R):O R :=
 match a,h with
 | [(.imm p q 1 r e),(.imm s t 1 u d)],[]=>(aY N p q r e s t u d (OF k))
 | _,_=>none
theorem Aje:Am N 136 @zg:=by
 intro R Q a h k j;unfold zg;split;exact Az (Ajd ..) (Ajd ..) ⟨Li N,ro N,trivial⟩;exact A2
def A1x:=A1 (Aje N)
def A1y:=C5 (Aje N)
def mz (b:LA) (d:Bool) (c:LA) (e:Bool) (r0:Bool→Nat→LA→O R):O R :=
 (aT b fun o=>(aT c fun p=>(cond (o==p) (aT b fun q=>(B4 1 (b.drop 1) fun r s=>(B4 1 (c.drop 1) fun t u=>(ri N r s false d t u false e (fun f g=>(Lg N q f g (fun v=>(r0 v f g)))))))) (B4 1 (b.drop 1) fun w x=>(B4 1 (c.drop 1) fun y z=>(aY N w x false d y z false e (fun i aa l=>(cond aa (aT b fun ab=>(Lg N ab i l (fun ac=>(r0 ac i l)))) (B4 1 (c.drop 1) fun ad ae=>(B4 1 (b.drop 1) fun af ag=>(aY N ad ae false e af ag false d (fun m am n=>(aT c fun ah=>(Lg N ah m n (fun ai=>(r0 ai m n))))))))))))))))
def zh:=(Ah (@mz R)).1
theorem SN:@zh R=@mz R:=(Ah _).2
def A4b:Gm:=[(135,A1s N),(132,DM N),(136,A1x N)]
def Ajf (F:KF R):Bool→Nat→LA→O R:=(fun aj ak al=>F (.agg [(.bool aj),(.own 300000 0 ak)]) (hq [(bQ 1 al)]))
theorem Ajg (b:LA) (d:Bool) (c:LA) (e:Bool) (F:KF R):C2 (A4b N) Dc N 144 [(.pagg b d),(.pagg c e)] [] F=(zh N b d c e (Ajf F)):=by
 rw[SN]
 kernel_rfl
def zi (a:LA) (h:Ai) (k:KF R):O R :=
 match a,h with
 | [(.pagg b d),(.pagg c e)],[]=>(zh N b d c e (Ajf k))
 | _,_=>none
theorem Ajh:Am N 144 @zi:=by
 intro R Q a h k j;unfold zi;split;exact Az (Ajg ..) (Ajg ..) ⟨A1t N,DN N,A1y N,trivial⟩;exact A2
def A1z:=A1 (Ajh N)
def A10:=C5 (Ajh N)
def L6 (N:Nat) (r0:Int→O R) (c:LA) (b:Nat) (d e:Bool) (k0:Int→Int→Int→O R) (g i f:Int):O R :=
 (cond (decide (f<i)) (cond (Ae f b) (As .u32 (c.drop ((f.toNat)*1)) fun l=>(cond (decide ((wrap .i64 (32*f))<0)) none (k0 (tb .u64 g (wrap .u64 ((wrap .u64 l)*2 ^ (min ((wrap .i64 (32*f)).toNat) 64)))) i (wrap .i64 (f+1))))) none) (r0 g))
def Kq (r0:Int→O R) (c:LA) (b:Nat) (d e:Bool):Nat→Int→Int→Int→O R
 | 0,_,_,_=>none
 | n+1,g,i,f=>(L6 N r0 c b d e (Kq r0 c b d e n) g i f)
def nA (N:Nat) (r0:Int→O R) (q0:Int→Int→Int→O R) (c:LA) (b:Nat) (d e:Bool):O R :=
 (q0 0 ((b:Nat):Int) 0)
def fk:=(Ah (fun (N:Nat) (c:LA) (b:Nat) (d e:Bool) (r0:Int→O R)=>(nA N r0 (fun g i f=>(Kq N r0 c b d e N g i f)) c b d e))).1
theorem tj (c b d e r0):(@fk R N c b d e r0)=(nA N r0 (fun g i f=>(Kq N r0 c b d e N g i f)) c b d e):=by rw[fk,(Ah _).2]
def zj:Hints:={ H:=(hS hL (hS hL (hS (hS hL (hS (hP [3,6,7,8] hL) hL)) hL))) }
def Awn (F:KF R):=Ko Tryz.f215 zj [] [] N F
def GI (F:KF R):Int→O R:=(fun m=>F (.int .u64 m) [])
def Awo (c:LA) (b:Nat) (d e:Bool) (g i f:Int):St:=⟨[(3,(.int .u64 g)),(6,(.imm c b 1 d e)),(7,(iv i)),(8,(iv f))],[]⟩
def Awp (F:KF R):=Awn N F [1,1,0,1,0] []
theorem i8 (F:KF R) (c:LA) (b:Nat) (d e:Bool):∀ (n:Nat) (g i f:Int),Aj (Awp N F) n (Awo c b d e g i f)=(Kq N (GI F) c b d e n g i f)
 | 0,_,_,_=>by kernel_rfl
 | n+1,g,i,f=>Eq.trans (by kernel_rfl) (Bu (L6 N (GI F) c b d e · g i f) (funext fun g=>funext fun i=>funext fun f=>(i8 F c b d e n g i f)):_)
theorem zk (c:LA) (b:Nat) (d e:Bool) (F:KF R):C2 [] zj N 215 [(.imm c b 1 d e)] [] F=(fk N c b d e (GI F)):=by
 rw[tj]
 exact Eq.trans (by kernel_rfl) (Bu (nA N (GI F) · c b d e) (funext fun g=>funext fun i=>funext fun f=>(Ad ..).trans (i8 N F c b d e N g i f)):_)
def tn (a:LA) (h:Ai) (k:KF R):O R :=
 match a,h with
 | [(.imm c b 1 d e)],[]=>(fk N c b d e (GI k))
 | _,_=>none
theorem zl:Am N 215 @tn:=by
 intro R Q a h k j;unfold tn;split;exact Az (zk ..) (zk ..) trivial;exact A2
def Awq:=A1 (zl N)
def Awr:=C5 (zl N)
def lX (c:LA) (d:Nat) (e b:Bool) (r0:Int→Bool→O R):O R :=
 (Fk N c d e b (fun g f=>(cond (decide (((f:Nat):Int)>2)) (r0 0 false) (fk N g f false b (fun i=>(r0 i true))))))
def FE:=(Ah (@lX R)).1
theorem i_:@FE R=@lX R:=(Ah _).2
def Ard:Gm:=[(214,SH N),(215,Awq N)]
def nB (F:KF R):Int→Bool→O R:=(fun l m=>F (.tup [(.int .u64 l),(.bool m)]) [])
theorem nC (c:LA) (d:Nat) (e b:Bool) (F:KF R):C2 (Ard N) Dc N 210 [(.imm c d 1 e b)] [] F=(FE N c d e b (nB F)):=by
 rw[i_]
 kernel_rfl
def ia (a:LA) (h:Ai) (k:KF R):O R :=
 match a,h with
 | [(.imm c d 1 e b)],[]=>(FE N c d e b (nB k))
 | _,_=>none
theorem nD:Am N 210 @ia:=by
 intro R Q a h k j;unfold ia;split;exact Az (nC ..) (nC ..) ⟨SI N,Awr N,trivial⟩;exact A2
def Al8:=A1 (nD N)
def Al9:=C5 (nD N)
end
end Gx

namespace Gx
open Go Go.Proofs
open IntKind (wrap)
set_option maxRecDepth 100000
noncomputable section
variable {R:Type} (N:Nat)
def DP (N:Nat) (r0:Nat→LA→O R) (d:LA) (c:Nat) (f e:Bool) (k0:Int→O R) (b:Int):O R :=
 (cond ((decide (b>0))==true) (cond (Ae (wrap .i64 (b - 1)) c) (As .u32 (d.drop (((wrap .i64 (b - 1)).toNat)*1)) fun g=>(cond (cond true (g==0) false) (k0 (wrap .i64 (b - 1))) (cond ((decide ((0:Int)≤(0:Int)))&&((decide (0≤b))&&((decide (b≤((c:Nat):Int)))&&(decide (((c:Nat):Int)≤((c:Nat):Int)))))) (cond ((!e)||(A0 (d.take ((b.toNat)*1)))) (cond ((Nat.ble (0+(b.toNat)) 140737488355328)&&(Nat.ble ((0+(b.toNat))*4) 140737488355328)) (r0 (0+(b.toNat)) (d.take ((b.toNat)*1))) none) none) none))) none) (cond ((decide ((0:Int)≤(0:Int)))&&((decide (0≤b))&&((decide (b≤((c:Nat):Int)))&&(decide (((c:Nat):Int)≤((c:Nat):Int)))))) (cond ((!e)||(A0 (d.take ((b.toNat)*1)))) (cond ((Nat.ble (0+(b.toNat)) 140737488355328)&&(Nat.ble ((0+(b.toNat))*4) 140737488355328)) (r0 (0+(b.toNat)) (d.take ((b.toNat)*1))) none) none) none))
def Pd (r0:Nat→LA→O R) (d:LA) (c:Nat) (f e:Bool):Nat→Int→O R
 | 0,_=>none
 | n+1,b=>(DP N r0 d c f e (Pd r0 d c f e n) b)
def OG (N:Nat) (r0:Nat→LA→O R) (q0:Int→O R) (d:LA) (c:Nat) (f e:Bool):O R :=
 (q0 ((c:Nat):Int))
def Eu:=(Ah (fun (N:Nat) (d:LA) (c:Nat) (f e:Bool) (r0:Nat→LA→O R)=>(OG N r0 (fun b=>(Pd N r0 d c f e N b)) d c f e))).1
theorem SO (d c f e r0):(@Eu R N d c f e r0)=(OG N r0 (fun b=>(Pd N r0 d c f e N b)) d c f e):=by rw[Eu,(Ah _).2]
def Are (F:KF R):=Ko Tryz.f150 Ais [] [] N F
def Zg (F:KF R):Nat→LA→O R:=(fun i l=>F (.own 300000 0 i) (hq [(bQ 1 l)]))
def Arf (d:LA) (c:Nat) (f e:Bool) (b:Int):St:=⟨[(0,(.imm d c 1 f e)),(3,(iv b))],[]⟩
def Arg (F:KF R):=Are N F [1,1,0,0] []
theorem aZ (F:KF R) (d:LA) (c:Nat) (f e:Bool):∀ (n:Nat) (b:Int),Aj (Arg N F) n (Arf d c f e b)=(Pd N (Zg F) d c f e n b)
 | 0,_=>by kernel_rfl
 | n+1,b=>Eq.trans (by kernel_rfl) (Bu (DP N (Zg F) d c f e · b) (funext fun b=>(aZ F d c f e n b)):_)
theorem tq (d:LA) (c:Nat) (f e:Bool) (F:KF R):C2 [] Ais N 150 [(.imm d c 1 f e)] [] F=(Eu N d c f e (Zg F)):=by
 rw[SO]
 exact Eq.trans (by kernel_rfl) (Bu (OG N (Zg F) · d c f e) (funext fun b=>(Ad ..).trans (aZ N F d c f e N b)):_)
def nE (a:LA) (h:Ai) (k:KF R):O R :=
 match a,h with
 | [(.imm d c 1 f e)],[]=>(Eu N d c f e (Zg k))
 | _,_=>none
theorem tt:Am N 150 @nE:=by
 intro R Q a h k j;unfold nE;split;exact Az (tq ..) (tq ..) trivial;exact A2
def Ju:=A1 (tt N)
def Jv:=C5 (tt N)
def BH (b:Int) (r0:Nat→LA→O R):O R :=
 (Eu N [(.int .u32 (wrap .u32 b)),(.int .u32 (wrap .u32 (Int.fdiv b (2 ^ 32))))] 2 false true (fun c d=>(r0 c d)))
def Gn:=(Ah (@BH R)).1
theorem GJ:@Gn R=@BH R:=(Ah _).2
def rp:Gm:=[(150,Ju N)]
def IZ (F:KF R):Nat→LA→O R:=(fun e f=>F (.own 300000 0 e) (hq [(bQ 1 f)]))
theorem I_ (b:Int) (F:KF R):C2 (rp N) Az3 N 88 [(.int .u64 b)] [] F=(Gn N b (IZ F)):=by
 rw[GJ]
 kernel_rfl
def GK (a:LA) (h:Ai) (k:KF R):O R :=
 match a,h with
 | [(.int .u64 b)],[]=>(Gn N b (IZ k))
 | _,_=>none
theorem JA:Am N 88 @GK:=by
 intro R Q a h k j;unfold GK;split;exact Az (I_ ..) (I_ ..) ⟨Jv N,trivial⟩;exact A2
def JB:=A1 (JA N)
def JC:=C5 (JA N)
def rq (b:Bool) (c:LA) (d:Nat) (f e:Bool) (r0:LA→O R):O R :=
 (Eu N c d false e (fun g i=>(cond (b==true) (r0 [(.bool (cond true (decide (((g:Nat):Int)>0)) false)),(.imm (i.take (g*1)) g 1 false false)]) (r0 [(.bool false),(.imm (i.take (g*1)) g 1 false false)]))))
def Iq:=(Ah (@rq R)).1
theorem nF:@Iq R=@rq R:=(Ah _).2
def Aws:Gm:=[(150,Ju N)]
def tu (F:KF R):LA→O R:=(fun l=>F (.pagg l false) [])
theorem tv (b:Bool) (c:LA) (d:Nat) (f e:Bool) (F:KF R):C2 (Aws N) iP N 83 [(.bool b),(.imm c d 1 f e)] [] F=(Iq N b c d f e (tu F)):=by
 rw[nF]
 kernel_rfl
def nG (a:LA) (h:Ai) (k:KF R):O R :=
 match a,h with
 | [(.bool b),(.imm c d 1 f e)],[]=>(Iq N b c d f e (tu k))
 | _,_=>none
theorem tw:Am N 83 @nG:=by
 intro R Q a h k j;unfold nG;split;exact Az (tv ..) (tv ..) ⟨Jv N,trivial⟩;exact A2
def Pe:=A1 (tw N)
def Pf:=C5 (tw N)
def SP (b:Int) (r0:LA→O R):O R :=
 (cond (decide (b<0)) (Gn N (wrap .u64 ((wrap .u64 (wrap .i64 ((0:Int) - (wrap .i64 (b+1)))))+1)) (fun e g=>(Iq N true (g.take (e*1)) e false true (fun c=>(cond ((Nat.beq 0 0)&&((Nat.beq (c.length) 2)&&(Nat.beq 2 2))) (cond (Nat.ble 2 (c.length)) (r0 (c.take 2)) none) none))))) (Gn N (wrap .u64 b) (fun f i=>(Iq N false (i.take (f*1)) f false true (fun d=>(cond ((Nat.beq 0 0)&&((Nat.beq (d.length) 2)&&(Nat.beq 2 2))) (cond (Nat.ble 2 (d.length)) (r0 (d.take 2)) none) none))))))
def L7:=(Ah (@SP R)).1
theorem VE:@L7 R=@SP R:=(Ah _).2
def Afq:Gm:=[(88,JB N),(83,Pe N)]
def a6 (F:KF R):LA→O R:=(fun l=>F (.pagg l false) [])
theorem a7 (b:Int) (F:KF R):C2 (Afq N) iP N 32 [(iv b)] [] F=(L7 N b (a6 F)):=by
 rw[VE]
 kernel_rfl
def VF (a:LA) (h:Ai) (k:KF R):O R :=
 match a,h with
 | [(.int .i64 b)],[]=>(L7 N b (a6 k))
 | _,_=>none
theorem a8:Am N 32 @VF:=by
 intro R Q a h k j;unfold VF;split;exact Az (a7 ..) (a7 ..) ⟨JC N,Pf N,trivial⟩;exact A2
def a_:=A1 (a8 N)
def bA:=C5 (a8 N)
def rs (b:LA) (c:Bool) (r0:LA→O R):O R :=
 (aT b fun e=>(B4 1 (b.drop 1) fun f g=>(Iq N e f g false c (fun d=>(cond ((Nat.beq 0 0)&&((Nat.beq (d.length) 2)&&(Nat.beq 2 2))) (cond (Nat.ble 2 (d.length)) (r0 (d.take 2)) none) none)))))
def GL:=(Ah (@rs R)).1
theorem nH:@GL R=@rs R:=(Ah _).2
def Awt:Gm:=[(83,Pe N)]
def tz (F:KF R):LA→O R:=(fun i=>F (.pagg i false) [])
theorem uA (b:LA) (c:Bool) (F:KF R):C2 (Awt N) iP N 26 [(.pagg b c)] [] F=(GL N b c (tz F)):=by
 rw[nH]
 kernel_rfl
def nI (a:LA) (h:Ai) (k:KF R):O R :=
 match a,h with
 | [(.pagg b c)],[]=>(GL N b c (tz k))
 | _,_=>none
theorem uB:Am N 26 @nI:=by
 intro R Q a h k j;unfold nI;split;exact Az (uA ..) (uA ..) ⟨Pf N,trivial⟩;exact A2
def uC:=A1 (uB N)
def uD:=C5 (uB N)
def rt (b:LA) (c:Bool) (r0:Int→O R):O R :=
 (cond (Nat.ble 2 (b.length)) (GL N (b.take 2) c (fun d=>(cond ((Nat.beq (d.length) 2)&&((Nat.ble 2 (b.length))&&(!false))) (aT (setCells b 0 d) fun e=>(cond e (r0 (-1)) (B4 1 ((setCells b 0 d).drop 1) fun i f=>(cond (((f:Nat):Int)==0) (r0 0) (r0 1))))) none))) none)
def bB:=(Ah (@rt R)).1
theorem nK:@bB R=@rt R:=(Ah _).2
def Awu:Gm:=[(26,uC N)]
def uE (F:KF R):Int→O R:=(fun g=>F (iv g) [])
theorem uF (b:LA) (c:Bool) (F:KF R):C2 (Awu N) Dc N 138 [(.pagg b c)] [] F=(bB N b c (uE F)):=by
 rw[nK]
 kernel_rfl
def nL (a:LA) (h:Ai) (k:KF R):O R :=
 match a,h with
 | [(.pagg b c)],[]=>(bB N b c (uE k))
 | _,_=>none
theorem uG:Am N 138 @nL:=by
 intro R Q a h k j;unfold nL;split;exact Az (uF ..) (uF ..) ⟨uD N,trivial⟩;exact A2
def Arh:=A1 (uG N)
def Ari:=C5 (uG N)
def rx (N:Nat) (r0:LA→O R):O R :=
 (r0 [(.bool false),(.imm [] 0 1 false false),(.imm [(.int .u32 1)] 1 1 false false)])
def Zh:=(Ah (@rx R)).1
theorem nM:@Zh R=@rx R:=(Ah _).2
def uH (F:KF R):LA→O R:=(fun b=>F (.pagg b false) [])
theorem uI (F:KF R):C2 [] iP N 151 [] [] F=(Zh N (uH F)):=by
 rw[nM]
 kernel_rfl
def nN (a:LA) (h:Ai) (k:KF R):O R :=
 match a,h with
 | [],[]=>(Zh N (uH k))
 | _,_=>none
theorem uJ:Am N 151 @nN:=by
 intro R Q a h k j;unfold nN;split;exact Az (uI ..) (uI ..) trivial;exact A2
def bC:=A1 (uJ N)
def bD:=C5 (uJ N)
def Yi (N:Nat) (r0:Bool→O R) (d:LA) (b:Nat) (f g:Bool) (e:LA) (c:Nat) (i l:Bool) (k0:Int→O R) (m:Int):O R :=
 (cond (decide (m<((b:Nat):Int))) (cond (Ae m b) (As .u32 (d.drop ((m.toNat)*1)) fun o=>(cond (Ae m c) (As .u32 (e.drop ((m.toNat)*1)) fun p=>(cond (o != p) (r0 false) (k0 (wrap .i64 (m+1))))) none)) none) (r0 true))
def Mm (r0:Bool→O R) (d:LA) (b:Nat) (f g:Bool) (e:LA) (c:Nat) (i l:Bool):Nat→Int→O R
 | 0,_=>none
 | n+1,m=>(Yi N r0 d b f g e c i l (Mm r0 d b f g e c i l n) m)
def SQ (N:Nat) (r0:Bool→O R) (q0:Int→O R) (d:LA) (b:Nat) (f g:Bool) (e:LA) (c:Nat) (i l:Bool):O R :=
 (cond (((b:Nat):Int) != ((c:Nat):Int)) (r0 false) (q0 0))
def FF:=(Ah (fun (N:Nat) (d:LA) (b:Nat) (f g:Bool) (e:LA) (c:Nat) (i l:Bool) (r0:Bool→O R)=>(SQ N r0 (fun m=>(Mm N r0 d b f g e c i l N m)) d b f g e c i l))).1
theorem ib (d b f g e c i l r0):(@FF R N d b f g e c i l r0)=(SQ N r0 (fun m=>(Mm N r0 d b f g e c i l N m)) d b f g e c i l):=by rw[FF,(Ah _).2]
def nO:Hints:={ H:=(hS hL (hS hL (hS (hS hL (hS (hP [0,1,5] hL) hL)) hL))) }
def Ama (F:KF R):=Ko Tryz.f65 nO [] [] N F
def Uz (F:KF R):Bool→O R:=(fun q=>F (.bool q) [])
def Amb (d:LA) (b:Nat) (f g:Bool) (e:LA) (c:Nat) (i l:Bool) (m:Int):St:=⟨[(0,(.imm d b 1 f g)),(1,(.imm e c 1 i l)),(5,(iv m))],[]⟩
def Amc (F:KF R):=Ama N F [1,1,0,1,0] []
theorem VG (F:KF R) (d:LA) (b:Nat) (f g:Bool) (e:LA) (c:Nat) (i l:Bool):∀ (n:Nat) (m:Int),Aj (Amc N F) n (Amb d b f g e c i l m)=(Mm N (Uz F) d b f g e c i l n m)
 | 0,_=>by kernel_rfl
 | n+1,m=>Eq.trans (by kernel_rfl) (Bu (Yi N (Uz F) d b f g e c i l · m) (funext fun m=>(VG F d b f g e c i l n m)):_)
theorem nP (d:LA) (b:Nat) (f g:Bool) (e:LA) (c:Nat) (i l:Bool) (F:KF R):C2 [] nO N 65 [(.imm d b 1 f g),(.imm e c 1 i l)] [] F=(FF N d b f g e c i l (Uz F)):=by
 rw[ib]
 exact Eq.trans (by kernel_rfl) (Bu (SQ N (Uz F) · d b f g e c i l) (funext fun m=>(Ad ..).trans (VG N F d b f g e c i l N m)):_)
def ic (a:LA) (h:Ai) (k:KF R):O R :=
 match a,h with
 | [(.imm d b 1 f g),(.imm e c 1 i l)],[]=>(FF N d b f g e c i l (Uz k))
 | _,_=>none
theorem nQ:Am N 65 @ic:=by
 intro R Q a h k j;unfold ic;split;exact Az (nP ..) (nP ..) trivial;exact A2
def Amd:=A1 (nQ N)
def Ame:=C5 (nQ N)
def Gp (N:Nat) (r0:Int→Bool→O R) (b:Nat) (d:LA) (k0:Int→Int→O R) (e c:Int):O R :=
 (cond (decide (c≥0)) (cond (Ae c b) (As .u32 (d.drop (0+((c.toNat)*1))) fun m=>(k0 (tb .u64 (wrap .u64 (e*2 ^ 32)) (wrap .u64 m)) (wrap .i64 (c - 1)))) none) (r0 e true))
def Ez (r0:Int→Bool→O R) (b:Nat) (d:LA):Nat→Int→Int→O R
 | 0,_,_=>none
 | n+1,e,c=>(Gp N r0 b d (Ez r0 b d n) e c)
def JD (r0:Int→Bool→O R) (q0:Nat→LA→Int→Int→O R) (f:LA) (g:Nat) (l i:Bool):O R :=
 (Eu N f g false i (fun b d=>(cond (decide (((b:Nat):Int)>2)) (r0 0 false) (q0 b d 0 (wrap .i64 (((b:Nat):Int) - 1))))))
def Ti:=(Ah (fun (N:Nat) (f:LA) (g:Nat) (l i:Bool) (r0:Int→Bool→O R)=>(JD N r0 (fun b d e c=>(Ez N r0 b d N e c)) f g l i))).1
theorem bE (f g l i r0):(@Ti R N f g l i r0)=(JD N r0 (fun b d e c=>(Ez N r0 b d N e c)) f g l i):=by rw[Ti,(Ah _).2]
def ig:Hints:={ H:=(hS hL (hS hL (hS hL (hS hL (hS (hS hL (hS (hP [0,4,5] hL) hL)) hL))))) }
def nR:Gm:=[(150,Ju N)]
def Afr (F:KF R):=Ko Tryz.f89 ig (nR N) [] N F
def Rx (F:KF R):Int→Bool→O R:=(fun o p=>F (.tup [(.int .u64 o),(.bool p)]) [])
def Afs (b:Nat) (d:LA) (e c:Int):St:=⟨[(0,(.own 300000 0 b)),(4,(.int .u64 e)),(5,(iv c))],(hq [(bQ 1 d)])⟩
def Aft (F:KF R):=Afr N F [1,1,1,1,0,1,0] []
theorem OH (F:KF R) (b:Nat) (d:LA):∀ (n:Nat) (e c:Int),Aj (Aft N F) n (Afs b d e c)=(Ez N (Rx F) b d n e c)
 | 0,_,_=>by kernel_rfl
 | n+1,e,c=>Eq.trans (by kernel_rfl) (Bu (Gp N (Rx F) b d · e c) (funext fun e=>funext fun c=>(OH F b d n e c)):_)
theorem ii (f:LA) (g:Nat) (l i:Bool) (F:KF R):C2 (nR N) ig N 89 [(.imm f g 1 l i)] [] F=(Ti N f g l i (Rx F)):=by
 rw[bE]
 exact Eq.trans (by kernel_rfl) (Bu (JD N (Rx F) · f g l i) (funext fun b=>funext fun d=>funext fun e=>funext fun c=>(Ad ..).trans (OH N F b d N e c)):_)
def bF (a:LA) (h:Ai) (k:KF R):O R :=
 match a,h with
 | [(.imm f g 1 l i)],[]=>(Ti N f g l i (Rx k))
 | _,_=>none
theorem ij:Am N 89 @bF:=by
 intro R Q a h k j;unfold bF;split;exact Az (ii ..) (ii ..) ⟨Jv N,trivial⟩;exact A2
def Afu:=A1 (ij N)
def Afv:=C5 (ij N)
def U0 (N:Nat) (r0:Int→O R) (k0:Int→Int→O R) (b c:Int):O R :=
 (cond (decide (c>0)) (k0 (wrap .i64 (b+1)) (Int.fdiv c (2 ^ 1))) (r0 b))
def L8 (r0:Int→O R):Nat→Int→Int→O R
 | 0,_,_=>none
 | n+1,b,c=>(U0 N r0 (L8 r0 n) b c)
def OI (r0:Int→O R) (q0:Int→Int→O R) (d:LA) (e:Nat) (g f:Bool):O R :=
 (Eu N d e false f (fun i l=>(cond (((i:Nat):Int)==0) (r0 0) (cond (Ae (wrap .i64 (((i:Nat):Int) - 1)) i) (As .u32 (l.drop (0+(((wrap .i64 (((i:Nat):Int) - 1)).toNat)*1))) fun m=>(q0 (wrap .i64 (32*(wrap .i64 (((i:Nat):Int) - 1)))) m)) none))))
def OJ:=(Ah (fun (N:Nat) (d:LA) (e:Nat) (g f:Bool) (r0:Int→O R)=>(OI N r0 (fun b c=>(L8 N r0 N b c)) d e g f))).1
theorem SR (d e g f r0):(@OJ R N d e g f r0)=(OI N r0 (fun b c=>(L8 N r0 N b c)) d e g f):=by rw[OJ,(Ah _).2]
def uK:Hints:={ H:=(hS hL (hS hL (hS hL (hS hL (hS (hS hL (hS (hP [3,4] hL) hL)) hL))))) }
def zm:Gm:=[(150,Ju N)]
def Arj (F:KF R):=Ko Tryz.f206 uK (zm N) [] N F
def Zi (F:KF R):Int→O R:=(fun o=>F (iv o) [])
def Ark (b c:Int):St:=⟨[(3,(iv b)),(4,(.int .u32 c))],[]⟩
def Arl (F:KF R):=Arj N F [1,1,1,1,0,1,0] []
theorem bG (F:KF R):∀ (n:Nat) (b c:Int),Aj (Arl N F) n (Ark b c)=(L8 N (Zi F) n b c)
 | 0,_,_=>by kernel_rfl
 | n+1,b,c=>Eq.trans (by kernel_rfl) (Bu (U0 N (Zi F) · b c) (funext fun b=>funext fun c=>(bG F n b c)):_)
theorem uL (d:LA) (e:Nat) (g f:Bool) (F:KF R):C2 (zm N) uK N 206 [(.imm d e 1 g f)] [] F=(OJ N d e g f (Zi F)):=by
 rw[SR]
 exact Eq.trans (by kernel_rfl) (Bu (OI N (Zi F) · d e g f) (funext fun b=>funext fun c=>(Ad ..).trans (bG N F N b c)):_)
def nS (a:LA) (h:Ai) (k:KF R):O R :=
 match a,h with
 | [(.imm d e 1 g f)],[]=>(OJ N d e g f (Zi k))
 | _,_=>none
theorem uM:Am N 206 @nS:=by
 intro R Q a h k j;unfold nS;split;exact Az (uL ..) (uL ..) ⟨Jv N,trivial⟩;exact A2
def Arm:=A1 (uM N)
def Arn:=C5 (uM N)
def GM (N:Nat) (k0:Nat→Int→Int→LA→O R) (r0:Nat→LA→O R) (d:LA) (b:Nat) (f g:Bool) (e:LA) (c:Nat) (i l:Bool) (m:Nat) (o:LA) (s q:Int):O R :=
 (cond (decide (q<((c:Nat):Int))) (cond (Ae q c) (As .u32 (e.drop ((q.toNat)*1)) fun t=>(cond (Ae q m) (cond ((Nat.beq 1 1)&&((Nat.ble ((0+((q.toNat)*1))+1) (o.length))&&(!false))) (k0 m (Int.fdiv (wrap .u64 (s+(wrap .u64 t))) (2 ^ 32)) (wrap .i64 (q+1)) (o.set (0+((q.toNat)*1)) (.int .u32 (wrap .u32 (wrap .u64 (s+(wrap .u64 t))))))) none) none)) none) (cond (Ae q m) (cond ((Nat.beq 1 1)&&((Nat.ble ((0+((q.toNat)*1))+1) (o.length))&&(!false))) (k0 m (Int.fdiv s (2 ^ 32)) (wrap .i64 (q+1)) (o.set (0+((q.toNat)*1)) (.int .u32 (wrap .u32 s)))) none) none))
def JE (r0:Nat→LA→O R) (d:LA) (b:Nat) (f g:Bool) (e:LA) (c:Nat) (i l:Bool) (k0:Nat→Int→Int→LA→O R) (q1:Int→Int→O R) (m:Nat) (r p:Int) (o:LA):O R :=
 (cond (decide (p<((m:Nat):Int))) (cond (decide (p<((b:Nat):Int))) (cond (Ae p b) (As .u32 (d.drop ((p.toNat)*1)) fun u=>(q1 (wrap .u64 (r+(wrap .u64 u))) p)) none) (q1 r p)) (Eu N (o.take (m*1)) m false true (fun v w=>(r0 v w))))
def Kr (r0:Nat→LA→O R) (d:LA) (b:Nat) (f g:Bool) (e:LA) (c:Nat) (i l:Bool):Nat→Nat→Int→Int→LA→O R
 | 0,_,_,_,_=>none
 | n+1,m,r,p,o=>(JE N r0 d b f g e c i l (Kr r0 d b f g e c i l n) (fun s q=>(GM N (Kr r0 d b f g e c i l n) r0 d b f g e c i l m o s q)) m r p o)
def nT (N:Nat) (r0:Nat→LA→O R) (q0:Nat→Int→Int→LA→O R) (d:LA) (b:Nat) (f g:Bool) (e:LA) (c:Nat) (i l:Bool):O R :=
 (cond ((decide (0≤(wrap .i64 ((lD ((b:Nat):Int) ((c:Nat):Int))+1))))&&((decide ((wrap .i64 ((lD ((b:Nat):Int) ((c:Nat):Int))+1))≤(wrap .i64 ((lD ((b:Nat):Int) ((c:Nat):Int))+1))))&&((decide ((wrap .i64 ((lD ((b:Nat):Int) ((c:Nat):Int))+1))≤140737488355328))&&(decide (((wrap .i64 ((lD ((b:Nat):Int) ((c:Nat):Int))+1))*((4:Nat):Int))≤140737488355328))))) (q0 ((wrap .i64 ((lD ((b:Nat):Int) ((c:Nat):Int))+1)).toNat) 0 0 (List.replicate ((wrap .i64 ((lD ((b:Nat):Int) ((c:Nat):Int))+1)).toNat) (.int .u32 0))) none)
def JF:=(Ah (fun (N:Nat) (d:LA) (b:Nat) (f g:Bool) (e:LA) (c:Nat) (i l:Bool) (r0:Nat→LA→O R)=>(nT N r0 (fun m r p o=>(Kr N r0 d b f g e c i l N m r p o)) d b f g e c i l))).1
theorem uN (d b f g e c i l r0):(@JF R N d b f g e c i l r0)=(nT N r0 (fun m r p o=>(Kr N r0 d b f g e c i l N m r p o)) d b f g e c i l):=by rw[JF,(Ah _).2]
def zn:Hints:={ H:=(hS hL (hS hL (hS hL (hS (hS hL (hS (hP [0,1,5,6,7] (hS hL (hS (hS (hJ [0,1,5,6,7] hL hL) hL) hL))) hL)) hL)))),nils:=[(4,1)],modes:=[(2,1)] }
def Aji:Gm:=[(150,Ju N)]
def zo (F:KF R):=Ko Tryz.f207 zn (Aji N) [] N F
def Tj (F:KF R):Nat→LA→O R:=(fun x y=>F (.own 300000 0 x) (hq [(bQ 1 y)]))
def Awv (d:LA) (b:Nat) (f g:Bool) (e:LA) (c:Nat) (i l:Bool) (m:Nat) (o:LA) (s q:Int):St:=⟨[(0,(.imm d b 1 f g)),(1,(.imm e c 1 i l)),(5,(.own 300000 0 m)),(6,(.int .u64 s)),(7,(iv q))],(hq [(bQ 1 o)])⟩
def Aww (F:KF R) (Q0:St→O R):=zo N F [1,1,1,0,1,0,0,1,0,0,1] [Q0]
def zp (d:LA) (b:Nat) (f g:Bool) (e:LA) (c:Nat) (i l:Bool) (m:Nat) (r p:Int) (o:LA):St:=⟨[(0,(.imm d b 1 f g)),(1,(.imm e c 1 i l)),(5,(.own 300000 0 m)),(6,(.int .u64 r)),(7,(iv p))],(hq [(bQ 1 o)])⟩
def zq (F:KF R):=zo N F [1,1,1,0,1,0] []
theorem Afw (Q0:St→O R) (F:KF R) (d:LA) (b:Nat) (f g:Bool) (e:LA) (c:Nat) (i l:Bool) (m:Nat) (o:LA):∀ (s q:Int),B9 (Aww N F Q0) (Awv d b f g e c i l m o s q)=(GM N (fun m r p o=>Q0 (zp d b f g e c i l m r p o)) (Tj F) d b f g e c i l m o s q):=by
 intro s q
 kernel_rfl
theorem ik (F:KF R) (d:LA) (b:Nat) (f g:Bool) (e:LA) (c:Nat) (i l:Bool):∀ (n m:Nat) (r p:Int) (o:LA),Aj (zq N F) n (zp d b f g e c i l m r p o)=(Kr N (Tj F) d b f g e c i l n m r p o)
 | 0,_,_,_,_=>by kernel_rfl
 | n+1,m,r,p,o=>have e0:=(funext fun m=>funext fun r=>funext fun p=>funext fun o=>(ik F d b f g e c i l n m r p o))
  Eq.trans (by kernel_rfl) (NY (JE N (Tj F) d b f g e c i l · · m r p o) e0 (funext fun s=>funext fun q=>(A4 ..).trans ((Afw N (Aj (zq N F) n) F d b f g e c i l m o s q).trans (Bu (GM N · (Tj F) d b f g e c i l m o s q) e0))):_)
theorem zr (d:LA) (b:Nat) (f g:Bool) (e:LA) (c:Nat) (i l:Bool) (F:KF R):C2 (Aji N) zn N 207 [(.imm d b 1 f g),(.imm e c 1 i l)] [] F=(JF N d b f g e c i l (Tj F)):=by
 rw[uN]
 exact Eq.trans (by kernel_rfl) (Bu (nT N (Tj F) · d b f g e c i l) (funext fun m=>funext fun r=>funext fun p=>funext fun o=>(Ad ..).trans (ik N F d b f g e c i l N m r p o)):_)
def uO (a:LA) (h:Ai) (k:KF R):O R :=
 match a,h with
 | [(.imm d b 1 f g),(.imm e c 1 i l)],[]=>(JF N d b f g e c i l (Tj k))
 | _,_=>none
theorem zt:Am N 207 @uO:=by
 intro R Q a h k j;unfold uO;split;exact Az (zr ..) (zr ..) ⟨Jv N,trivial⟩;exact A2
def zu:=A1 (zt N)
def zw:=C5 (zt N)
def zx (N:Nat) (d:LA) (c:Nat) (e f:Bool) (b:Int) (r0:Int→O R):O R :=
 (cond (decide ((wrap .i64 (Int.tdiv b 32))≥((c:Nat):Int))) (r0 0) (cond (Ae (wrap .i64 (Int.tdiv b 32)) c) (As .u32 (d.drop (((wrap .i64 (Int.tdiv b 32)).toNat)*1)) fun g=>(cond (decide ((wrap .u64 (Int.tmod b 32))<0)) none (r0 (Awe .u32 (Int.fdiv g (2 ^ (min ((wrap .u64 (Int.tmod b 32)).toNat) 32))) 1)))) none))
def nU:=(Ah (@zx R)).1
theorem uP:@nU R=@zx R:=(Ah _).2
def zy (F:KF R):Int→O R:=(fun i=>F (.int .u32 i) [])
theorem Aaa (d:LA) (c:Nat) (e f:Bool) (b:Int) (F:KF R):C2 [] Dc N 208 [(.imm d c 1 e f),(iv b)] [] F=(nU N d c e f b (zy F)):=by
 rw[uP]
 kernel_rfl
def uQ (a:LA) (h:Ai) (k:KF R):O R :=
 match a,h with
 | [(.imm d c 1 e f),(.int .i64 b)],[]=>(nU N d c e f b (zy k))
 | _,_=>none
theorem Aab:Am N 208 @uQ:=by
 intro R Q a h k j;unfold uQ;split;exact Az (Aaa ..) (Aaa ..) trivial;exact A2
def Awx:=A1 (Aab N)
def Awy:=C5 (Aab N)
def Sy (N:Nat) (r0:Int→O R) (c d:Nat) (e f:LA) (k0:Int→O R) (b:Int):O R :=
 (cond (decide (b≥0)) (cond (Ae b c) (As .u32 (e.drop (0+((b.toNat)*1))) fun s=>(cond (Ae b d) (As .u32 (f.drop (0+((b.toNat)*1))) fun t=>(cond (decide (s<t)) (r0 (-1)) (cond (Ae b c) (As .u32 (e.drop (0+((b.toNat)*1))) fun u=>(cond (Ae b d) (As .u32 (f.drop (0+((b.toNat)*1))) fun v=>(cond (decide (u>v)) (r0 1) (k0 (wrap .i64 (b - 1))))) none)) none))) none)) none) (r0 0))
def Ir (r0:Int→O R) (c d:Nat) (e f:LA):Nat→Int→O R
 | 0,_=>none
 | n+1,b=>(Sy N r0 c d e f (Ir r0 c d e f n) b)
def DQ (r0:Int→O R) (q0:Nat→Nat→LA→LA→Int→O R) (g:LA) (i:Nat) (q l:Bool) (m:LA) (o:Nat) (r p:Bool):O R :=
 (Eu N g i false l (fun c e=>(Eu N m o false p (fun d f=>(cond (((c:Nat):Int) != ((d:Nat):Int)) (cond (decide (((c:Nat):Int)<((d:Nat):Int))) (r0 (-1)) (r0 1)) (q0 c d e f (wrap .i64 (((c:Nat):Int) - 1))))))))
def T4:=(Ah (fun (N:Nat) (g:LA) (i:Nat) (q l:Bool) (m:LA) (o:Nat) (r p:Bool) (r0:Int→O R)=>(DQ N r0 (fun c d e f b=>(Ir N r0 c d e f N b)) g i q l m o r p))).1
theorem VH (g i q l m o r p r0):(@T4 R N g i q l m o r p r0)=(DQ N r0 (fun c d e f b=>(Ir N r0 c d e f N b)) g i q l m o r p):=by rw[T4,(Ah _).2]
def io:Gm:=[(150,Ju N)]
def Aac (F:KF R):=Ko Tryz.f272 Az4 (io N) [] N F
def Pg (F:KF R):Int→O R:=(fun w=>F (iv w) [])
def Aad (c d:Nat) (e f:LA) (b:Int):St:=⟨[(0,(.own 300000 0 c)),(1,(.own 300001 0 d)),(5,(iv b))],(hq [(bQ 1 e),(bQ 1 f)])⟩
def Aae (F:KF R):=Aac N F [1,1,1,0,1,0] []
theorem JG (F:KF R) (c d:Nat) (e f:LA):∀ (n:Nat) (b:Int),Aj (Aae N F) n (Aad c d e f b)=(Ir N (Pg F) c d e f n b)
 | 0,_=>by kernel_rfl
 | n+1,b=>Eq.trans (by kernel_rfl) (Bu (Sy N (Pg F) c d e f · b) (funext fun b=>(JG F c d e f n b)):_)
theorem bH (g:LA) (i:Nat) (q l:Bool) (m:LA) (o:Nat) (r p:Bool) (F:KF R):C2 (io N) Az4 N 272 [(.imm g i 1 q l),(.imm m o 1 r p)] [] F=(T4 N g i q l m o r p (Pg F)):=by
 rw[VH]
 exact Eq.trans (by kernel_rfl) (Bu (DQ N (Pg F) · g i q l m o r p) (funext fun c=>funext fun d=>funext fun e=>funext fun f=>funext fun b=>(Ad ..).trans (JG N F c d e f N b)):_)
def VI (a:LA) (h:Ai) (k:KF R):O R :=
 match a,h with
 | [(.imm g i 1 q l),(.imm m o 1 r p)],[]=>(T4 N g i q l m o r p (Pg k))
 | _,_=>none
theorem bI:Am N 272 @VI:=by
 intro R Q a h k j;unfold VI;split;exact Az (bH ..) (bH ..) ⟨Jv N,trivial⟩;exact A2
def Aaf:=A1 (bI N)
def Aag:=C5 (bI N)
def GN (N:Nat) (k0:Int→Int→LA→O R) (r0:Nat→Bool→LA→O R) (b d:Nat) (e f c:LA) (i m:Int):O R :=
 (cond (Ae i b) (As .u32 (e.drop (0+((i.toNat)*1))) fun w=>(cond (decide ((wrap .u64 w)<m)) (cond (Ae i b) (cond ((Nat.beq 1 1)&&((Nat.ble ((0+((i.toNat)*1))+1) (c.length))&&(!false))) (k0 1 (wrap .i64 (i+1)) (c.set (0+((i.toNat)*1)) (.int .u32 (wrap .u32 (wrap .u64 ((wrap .u64 ((wrap .u64 w)+4294967296)) - m)))))) none) none) (cond (Ae i b) (cond ((Nat.beq 1 1)&&((Nat.ble ((0+((i.toNat)*1))+1) (c.length))&&(!false))) (k0 0 (wrap .i64 (i+1)) (c.set (0+((i.toNat)*1)) (.int .u32 (wrap .u32 (wrap .u64 ((wrap .u64 w) - m)))))) none) none))) none)
def JH (r0:Nat→Bool→LA→O R) (b d:Nat) (e f:LA) (k0:Int→Int→LA→O R) (q1:Int→Int→O R) (l g:Int) (c:LA):O R :=
 (cond (decide (g<((b:Nat):Int))) (cond (decide (g<((d:Nat):Int))) (cond (Ae g d) (As .u32 (f.drop (0+((g.toNat)*1))) fun x=>(q1 g (wrap .u64 (l+(wrap .u64 x))))) none) (q1 g l)) (Eu N (c.take (b*1)) b false true (fun y z=>(r0 y true z))))
def Ks (r0:Nat→Bool→LA→O R) (b d:Nat) (e f:LA):Nat→Int→Int→LA→O R
 | 0,_,_,_=>none
 | n+1,l,g,c=>(JH N r0 b d e f (Ks r0 b d e f n) (fun i m=>(GN N (Ks r0 b d e f n) r0 b d e f c i m)) l g c)
def nV (r0:Nat→Bool→LA→O R) (q0:Nat→Nat→LA→LA→Int→Int→LA→O R) (o:LA) (p:Nat) (u q:Bool) (r:LA) (s:Nat) (v t:Bool):O R :=
 (T4 N o p false q r s false t (fun aa=>(cond (decide (aa<0)) (r0 0 false []) (Eu N o p false q (fun b e=>(Eu N r s false t (fun d f=>(cond ((decide (0≤((b:Nat):Int)))&&((decide (((b:Nat):Int)≤((b:Nat):Int)))&&((decide (((b:Nat):Int)≤140737488355328))&&(decide ((((b:Nat):Int)*((4:Nat):Int))≤140737488355328))))) (q0 b d e f 0 0 (List.replicate b (.int .u32 0))) none))))))))
def JI:=(Ah (fun (N:Nat) (o:LA) (p:Nat) (u q:Bool) (r:LA) (s:Nat) (v t:Bool) (r0:Nat→Bool→LA→O R)=>(nV N r0 (fun b d e f l g c=>(Ks N r0 b d e f N l g c)) o p u q r s v t))).1
theorem uR (o p u q r s v t r0):(@JI R N o p u q r s v t r0)=(nV N r0 (fun b d e f l g c=>(Ks N r0 b d e f N l g c)) o p u q r s v t):=by rw[JI,(Ah _).2]
def Aah:Hints:={ H:=(hS hL (hS hL (hS hL (hS hL (hS hL (hS (hS hL (hS (hP [0,1,6,7,8] (hS hL (hS (hS (hS hL (hJ [0,1,6,8,9] hL hL)) hL) hL))) hL)) hL)))))),nils:=[(4,1)],modes:=[(2,1),(0,0)] }
def Ajj:Gm:=[(272,Aaf N),(150,Ju N)]
def Aai (F:KF R):=Ko Tryz.f209 Aah (Ajj N) [] N F
def Tk (F:KF R):Nat→Bool→LA→O R:=(fun ab ac ad=>F (.tup [(.own 300000 0 ab),(.bool ac)]) (hq [(bQ 1 ad)]))
def Awz (b d:Nat) (e f c:LA) (i m:Int):St:=⟨[(0,(.own 300000 0 b)),(1,(.own 300001 0 d)),(6,(.own 300002 0 b)),(8,(iv i)),(9,(.int .u64 m))],(hq [(bQ 1 e),(bQ 1 f),(bQ 1 c)])⟩
def Aw0 (F:KF R) (Q0:St→O R):=Aai N F [1,1,1,1,1,0,1,0,0,1,0,0,1,1] [Q0]
def Aaj (b d:Nat) (e f:LA) (l g:Int) (c:LA):St:=⟨[(0,(.own 300000 0 b)),(1,(.own 300001 0 d)),(6,(.own 300002 0 b)),(7,(.int .u64 l)),(8,(iv g))],(hq [(bQ 1 e),(bQ 1 f),(bQ 1 c)])⟩
def Aak (F:KF R):=Aai N F [1,1,1,1,1,0,1,0] []
theorem Afx (Q0:St→O R) (F:KF R) (b d:Nat) (e f c:LA):∀ (i m:Int),B9 (Aw0 N F Q0) (Awz b d e f c i m)=(GN N (fun l g c=>Q0 (Aaj b d e f l g c)) (Tk F) b d e f c i m):=by
 intro i m
 kernel_rfl
theorem ip (F:KF R) (b d:Nat) (e f:LA):∀ (n:Nat) (l g:Int) (c:LA),Aj (Aak N F) n (Aaj b d e f l g c)=(Ks N (Tk F) b d e f n l g c)
 | 0,_,_,_=>by kernel_rfl
 | n+1,l,g,c=>have e0:=(funext fun l=>funext fun g=>funext fun c=>(ip F b d e f n l g c))
  Eq.trans (by kernel_rfl) (NY (JH N (Tk F) b d e f · · l g c) e0 (funext fun i=>funext fun m=>(A4 ..).trans ((Afx N (Aj (Aak N F) n) F b d e f c i m).trans (Bu (GN N · (Tk F) b d e f c i m) e0))):_)
theorem Aal (o:LA) (p:Nat) (u q:Bool) (r:LA) (s:Nat) (v t:Bool) (F:KF R):C2 (Ajj N) Aah N 209 [(.imm o p 1 u q),(.imm r s 1 v t)] [] F=(JI N o p u q r s v t (Tk F)):=by
 rw[uR]
 exact Eq.trans (by kernel_rfl) (Bu (nV N (Tk F) · o p u q r s v t) (funext fun b=>funext fun d=>funext fun e=>funext fun f=>funext fun l=>funext fun g=>funext fun c=>(Ad ..).trans (ip N F b d e f N l g c)):_)
def uS (a:LA) (h:Ai) (k:KF R):O R :=
 match a,h with
 | [(.imm o p 1 u q),(.imm r s 1 v t)],[]=>(JI N o p u q r s v t (Tk k))
 | _,_=>none
theorem Aam:Am N 209 @uS:=by
 intro R Q a h k j;unfold uS;split;exact Az (Aal ..) (Aal ..) ⟨Aag N,Jv N,trivial⟩;exact A2
def Aan:=A1 (Aam N)
def Aao:=C5 (Aam N)
def N4 (k1:Nat→Int→LA→LA→O R) (r0:Nat→Nat→Bool→LA→LA→O R) (c:LA) (b:Nat) (e d:Bool) (f:Nat) (i:Int) (g l:LA) (p:Nat) (q:LA):O R :=
 (JI N (q.take (p*1)) p false true (g.take (f*1)) f false true (fun z aa ab=>(cond aa (cond (Ae (wrap .i64 (Int.tdiv i 32)) b) (As .u32 (l.drop (0+(((wrap .i64 (Int.tdiv i 32)).toNat)*1))) fun ac=>(cond (decide ((wrap .u64 (Int.tmod i 32))<0)) none (cond (Ae (wrap .i64 (Int.tdiv i 32)) b) (cond ((Nat.beq 1 1)&&((Nat.ble ((0+(((wrap .i64 (Int.tdiv i 32)).toNat)*1))+1) (l.length))&&(!false))) (k1 z (wrap .i64 (i - 1)) (l.set (0+(((wrap .i64 (Int.tdiv i 32)).toNat)*1)) (.int .u32 (tb .u32 ac (wrap .u32 ((1:Int)*2 ^ (min ((wrap .u64 (Int.tmod i 32)).toNat) 32)))))) ab) none) none))) none) (k1 p (wrap .i64 (i - 1)) l q))))
def U1 (r0:Nat→Nat→Bool→LA→LA→O R) (c:LA) (b:Nat) (e d:Bool) (f:Nat) (g:LA) (k1:Nat→Int→LA→LA→O R) (q2:Nat→LA→O R) (m:Nat) (i:Int) (l o:LA):O R :=
 (cond (decide (i≥0)) (JF N (o.take (m*1)) m false true (o.take (m*1)) m false true (fun w x=>(nU N c b false d i (fun ad=>(cond (ad==1) (JF N (x.take (w*1)) w false true [(.int .u32 1)] 1 false true (fun ae af=>(q2 ae af))) (q2 w x)))))) (Eu N (l.take (b*1)) b false true (fun ag ah=>(Eu N (o.take (m*1)) m false true (fun ai aj=>(r0 ag ai true ah aj))))))
def Gi (r0:Nat→Nat→Bool→LA→LA→O R) (c:LA) (b:Nat) (e d:Bool) (f:Nat) (g:LA):Nat→Nat→Int→LA→LA→O R
 | 0,_,_,_,_=>none
 | n+1,m,i,l,o=>(U1 N r0 c b e d f g (Gi r0 c b e d f g n) (fun p q=>(N4 N (Gi r0 c b e d f g n) r0 c b e d f i g l p q)) m i l o)
def GO (r0:Nat→Nat→Bool→LA→LA→O R) (c:LA) (b:Nat) (e d:Bool) (f:Nat) (g:LA) (q1:Nat→Int→LA→LA→O R):O R :=
 (cond ((decide (0≤((b:Nat):Int)))&&((decide (((b:Nat):Int)≤((b:Nat):Int)))&&((decide (((b:Nat):Int)≤140737488355328))&&(decide ((((b:Nat):Int)*((4:Nat):Int))≤140737488355328))))) (OJ N c b false d (fun ak=>(q1 0 (wrap .i64 (ak - 1)) (List.replicate b (.int .u32 0)) []))) none)
def Ry (r0:Nat→Nat→Bool→LA→LA→O R) (c:LA) (b:Nat) (e d:Bool) (f:Nat) (g:LA):O R:=(GO N r0 c b e d f g (fun m i l o=>(Gi N r0 c b e d f g N m i l o)))
def JJ (r0:Nat→Nat→Bool→LA→LA→O R) (q0:Nat→LA→O R) (c:LA) (b:Nat) (e d:Bool) (r:LA) (s:Nat) (u t:Bool):O R :=
 (Eu N r s false t (fun f g=>(cond (((f:Nat):Int)==0) (r0 0 0 false [] []) (Ti N c b false d (fun y al=>(Ti N (g.take (f*1)) f false true (fun v am=>(cond (al==true) (cond (cond true am false) (cond (v==0) none (Gn N (wrap .u64 (Int.tdiv y v)) (fun an ao=>(cond (v==0) none (Gn N (Int.tmod y v) (fun ap aq=>(r0 an ap true ao aq))))))) (q0 f g)) (q0 f g)))))))))
def Tl:=(Ah (fun (N:Nat) (c:LA) (b:Nat) (e d:Bool) (r:LA) (s:Nat) (u t:Bool) (r0:Nat→Nat→Bool→LA→LA→O R)=>(JJ N r0 (fun f g=>(Ry N r0 c b e d f g)) c b e d r s u t))).1
theorem bJ (c b e d r s u t r0):(@Tl R N c b e d r s u t r0)=(JJ N r0 (fun f g=>(Ry N r0 c b e d f g)) c b e d r s u t):=by rw[Tl,(Ah _).2]
def iq:Hints:={ H:=(hS hL (hS hL (hS hL (hS hL (hJ [0,1,5] hL (hS hL (hS (hS hL (hS (hP [0,1,4,5,11] (hS hL (hS (hS (hS hL (hJ [0,1,4,5,11] hL hL)) hL) hL))) hL)) hL))))))),nils:=[(4,1),(5,1)],modes:=[(2,1),(2,1),(0,0)] }
def nW:Gm:=[(150,Ju N),(89,Afu N),(88,JB N),(206,Arm N),(207,zu N),(208,Awx N),(209,Aan N)]
def MI (F:KF R):=Ko Tryz.f126 iq (nW N) [] N F
def Gj (F:KF R):Nat→Nat→Bool→LA→LA→O R:=(fun ar au av aw ax=>F (.tup [(.own 300000 0 ar),(.own 300001 0 au),(.bool av)]) (hq [(bQ 1 aw),(bQ 1 ax)]))
def Afy (c:LA) (b:Nat) (e d:Bool) (f:Nat) (i:Int) (g l:LA) (p:Nat) (q:LA):St:=⟨[(0,(.imm c b 1 e d)),(1,(.own 300000 0 f)),(4,(.own 300001 0 b)),(5,(.own 300002 0 p)),(11,(iv i))],(hq [(bQ 1 g),(bQ 1 l),(bQ 1 q)])⟩
def Afz (F:KF R) (Q1:St→O R):=MI N F [1,1,1,1,1,1,0,1,0,0,1,0,0,1,1] [Q1]
def iw (c:LA) (b:Nat) (e d:Bool) (f:Nat) (g:LA) (m:Nat) (i:Int) (l o:LA):St:=⟨[(0,(.imm c b 1 e d)),(1,(.own 300000 0 f)),(4,(.own 300001 0 b)),(5,(.own 300002 0 m)),(11,(iv i))],(hq [(bQ 1 g),(bQ 1 l),(bQ 1 o)])⟩
def ix (F:KF R):=MI N F [1,1,1,1,1,1,0,1,0] []
def Af0 (c:LA) (b:Nat) (e d:Bool) (f:Nat) (g:LA):St:=⟨[(0,(.imm c b 1 e d)),(1,(.own 300000 0 f)),(5,(.own 300001 0 0))],(hq [(bQ 1 g),(bQ 1 [])])⟩
def Af1 (F:KF R):=MI N F [1,1,1,1,1] []
theorem ry (Q1:St→O R) (F:KF R) (c:LA) (b:Nat) (e d:Bool) (f:Nat) (i:Int) (g l:LA):∀ (p:Nat) (q:LA),B9 (Afz N F Q1) (Afy c b e d f i g l p q)=(N4 N (fun m i l o=>Q1 (iw c b e d f g m i l o)) (Gj F) c b e d f i g l p q):=by
 intro p q
 kernel_rfl
theorem OK (F:KF R) (c:LA) (b:Nat) (e d:Bool) (f:Nat) (g:LA):∀ (n m:Nat) (i:Int) (l o:LA),Aj (ix N F) n (iw c b e d f g m i l o)=(Gi N (Gj F) c b e d f g n m i l o)
 | 0,_,_,_,_=>by kernel_rfl
 | n+1,m,i,l,o=>have e0:=(funext fun m=>funext fun i=>funext fun l=>funext fun o=>(OK F c b e d f g n m i l o))
  Eq.trans (by kernel_rfl) (NY (U1 N (Gj F) c b e d f g · · m i l o) e0 (funext fun p=>funext fun q=>(A4 ..).trans ((ry N (Aj (ix N F) n) F c b e d f i g l p q).trans (Bu (N4 N · (Gj F) c b e d f i g l p q) e0))):_)
theorem rz (F:KF R) (c:LA) (b:Nat) (e d:Bool) (f:Nat) (g:LA):B9 (Af1 N F) (Af0 c b e d f g)=(Ry N (Gj F) c b e d f g):=by
 exact Eq.trans (by kernel_rfl) (Bu (GO N (Gj F) c b e d f g ·) (funext fun m=>funext fun i=>funext fun l=>funext fun o=>(Ad ..).trans (OK N F c b e d f g N m i l o)):_)
theorem iy (c:LA) (b:Nat) (e d:Bool) (r:LA) (s:Nat) (u t:Bool) (F:KF R):C2 (nW N) iq N 126 [(.imm c b 1 e d),(.imm r s 1 u t)] [] F=(Tl N c b e d r s u t (Gj F)):=by
 rw[bJ]
 exact Eq.trans (by kernel_rfl) (Bu (JJ N (Gj F) · c b e d r s u t) (funext fun f=>funext fun g=>(A4 ..).trans (rz N F c b e d f g)):_)
def bK (a:LA) (h:Ai) (k:KF R):O R :=
 match a,h with
 | [(.imm c b 1 e d),(.imm r s 1 u t)],[]=>(Tl N c b e d r s u t (Gj k))
 | _,_=>none
theorem iz:Am N 126 @bK:=by
 intro R Q a h k j;unfold bK;split;exact Az (iy ..) (iy ..) ⟨Jv N,Afv N,JC N,Arn N,zw N,Awy N,Aao N,trivial⟩;exact A2
def jA:=A1 (iz N)
def jB:=C5 (iz N)
def T5 (r0:Nat→LA→O R) (k0:Nat→Nat→LA→LA→O R) (c b:Nat) (d e:LA):O R :=
 (cond (decide (((b:Nat):Int)>0)) (Tl N (d.take (c*1)) c false true (e.take (b*1)) b false true (fun z r aa ab s=>(k0 b r e s))) (r0 c d))
def E6 (r0:Nat→LA→O R):Nat→Nat→Nat→LA→LA→O R
 | 0,_,_,_,_=>none
 | n+1,c,b,d,e=>(T5 N r0 (E6 r0 n) c b d e)
def nX (r0:Nat→LA→O R) (q0:Nat→Nat→LA→LA→O R) (f:LA) (g:Nat) (p i:Bool) (l:LA) (m:Nat) (q o:Bool):O R :=
 (Eu N f g false i (fun t u=>(Eu N l m false o (fun v w=>(q0 t v u w)))))
def fm:=(Ah (fun (N:Nat) (f:LA) (g:Nat) (p i:Bool) (l:LA) (m:Nat) (q o:Bool) (r0:Nat→LA→O R)=>(nX N r0 (fun c b d e=>(E6 N r0 N c b d e)) f g p i l m q o))).1
theorem uT (f g p i l m q o r0):(@fm R N f g p i l m q o r0)=(nX N r0 (fun c b d e=>(E6 N r0 N c b d e)) f g p i l m q o):=by rw[fm,(Ah _).2]
def Aap:Hints:={ H:=(hS hL (hS hL (hS (hS (hP [0,1] hL) hL) hL))),nils:=[(4,1)],modes:=[(2,1)] }
def Ajk:Gm:=[(150,Ju N),(126,jA N)]
def Aw1 (F:KF R):=Ko Tryz.f221 Aap (Ajk N) [] N F
def GP (F:KF R):Nat→LA→O R:=(fun x y=>F (.own 300000 0 x) (hq [(bQ 1 y)]))
def Aw2 (c b:Nat) (d e:LA):St:=⟨[(0,(.own 300000 0 c)),(1,(.own 300001 0 b))],(hq [(bQ 1 d),(bQ 1 e)])⟩
def Aw3 (F:KF R):=Aw1 N F [1,1,0,0] []
theorem jC (F:KF R):∀ (n:Nat) (c b:Nat) (d e:LA),Aj (Aw3 N F) n (Aw2 c b d e)=(E6 N (GP F) n c b d e)
 | 0,_,_,_,_=>by kernel_rfl
 | n+1,c,b,d,e=>Eq.trans (by kernel_rfl) (Bu (T5 N (GP F) · c b d e) (funext fun c=>funext fun b=>funext fun d=>funext fun e=>(jC F n c b d e)):_)
theorem Aaq (f:LA) (g:Nat) (p i:Bool) (l:LA) (m:Nat) (q o:Bool) (F:KF R):C2 (Ajk N) Aap N 221 [(.imm f g 1 p i),(.imm l m 1 q o)] [] F=(fm N f g p i l m q o (GP F)):=by
 rw[uT]
 exact Eq.trans (by kernel_rfl) (Bu (nX N (GP F) · f g p i l m q o) (funext fun c=>funext fun b=>funext fun d=>funext fun e=>(Ad ..).trans (jC N F N c b d e)):_)
def uU (a:LA) (h:Ai) (k:KF R):O R :=
 match a,h with
 | [(.imm f g 1 p i),(.imm l m 1 q o)],[]=>(fm N f g p i l m q o (GP k))
 | _,_=>none
theorem Aar:Am N 221 @uU:=by
 intro R Q a h k j;unfold uU;split;exact Az (Aaq ..) (Aaq ..) ⟨Jv N,jB N,trivial⟩;exact A2
def Aw4:=A1 (Aar N)
def Aw5:=C5 (Aar N)
def Aas (b:LA) (c:Bool) (d:LA) (e:Bool) (r0:LA→O R):O R :=
 (B4 1 (b.drop 1) fun i l=>(B4 1 (d.drop 1) fun m n=>(fm N i l false c m n false e (fun g o=>(Iq N false (o.take (g*1)) g false true (fun f=>(cond ((Nat.beq 0 0)&&((Nat.beq (f.length) 2)&&(Nat.beq 2 2))) (cond (Nat.ble 2 (f.length)) (r0 (f.take 2)) none) none)))))))
def nY:=(Ah (@Aas R)).1
theorem uV:@nY R=@Aas R:=(Ah _).2
def A11:Gm:=[(221,Aw4 N),(83,Pe N)]
def Aat (F:KF R):LA→O R:=(fun p=>F (.pagg p false) [])
theorem Aau (b:LA) (c:Bool) (d:LA) (e:Bool) (F:KF R):C2 (A11 N) iP N 152 [(.pagg b c),(.pagg d e)] [] F=(nY N b c d e (Aat F)):=by
 rw[uV]
 kernel_rfl
def uW (a:LA) (h:Ai) (k:KF R):O R :=
 match a,h with
 | [(.pagg b c),(.pagg d e)],[]=>(nY N b c d e (Aat k))
 | _,_=>none
theorem Aav:Am N 152 @uW:=by
 intro R Q a h k j;unfold uW;split;exact Az (Aau ..) (Aau ..) ⟨Aw5 N,Pf N,trivial⟩;exact A2
def Aw6:=A1 (Aav N)
def Aw7:=C5 (Aav N)
def Aro (b:LA) (c:Bool) (r0:LA→O R):O R :=
 (B4 1 (b.drop 1) fun e f=>(Iq N false e f false c (fun d=>(cond ((Nat.beq 0 0)&&((Nat.beq (d.length) 2)&&(Nat.beq 2 2))) (cond (Nat.ble 2 (d.length)) (r0 (d.take 2)) none) none))))
def yR:=(Ah (@Aro R)).1
theorem Arp:@yR R=@Aro R:=(Ah _).2
def A12:Gm:=[(83,Pe N)]
def Aaw (F:KF R):LA→O R:=(fun g=>F (.pagg g false) [])
theorem Aax (b:LA) (c:Bool) (F:KF R):C2 (A12 N) iP N 140 [(.pagg b c)] [] F=(yR N b c (Aaw F)):=by
 rw[Arp]
 kernel_rfl
def uX (a:LA) (h:Ai) (k:KF R):O R :=
 match a,h with
 | [(.pagg b c)],[]=>(yR N b c (Aaw k))
 | _,_=>none
theorem Aay:Am N 140 @uX:=by
 intro R Q a h k j;unfold uX;split;exact Az (Aax ..) (Aax ..) ⟨Pf N,trivial⟩;exact A2
def Aw8:=A1 (Aay N)
def Aw9:=C5 (Aay N)
def Arq (b:LA) (d:Bool) (c:LA) (e:Bool) (r0:LA→O R):O R :=
 (aT b fun o=>(aT c fun p=>(cond (o==p) (aT b fun q=>(B4 1 (b.drop 1) fun r s=>(B4 1 (c.drop 1) fun t u=>(JF N r s false d t u false e (fun l v=>(Iq N q (v.take (l*1)) l false true (fun f=>(cond ((Nat.beq 0 0)&&((Nat.beq (f.length) 2)&&(Nat.beq 2 2))) (cond (Nat.ble 2 (f.length)) (r0 (f.take 2)) none) none)))))))) (B4 1 (b.drop 1) fun w x=>(B4 1 (c.drop 1) fun y z=>(JI N w x false d y z false e (fun m aa ab=>(cond aa (aT b fun ac=>(Iq N ac (ab.take (m*1)) m false true (fun g=>(cond ((Nat.beq 0 0)&&((Nat.beq (g.length) 2)&&(Nat.beq 2 2))) (cond (Nat.ble 2 (g.length)) (r0 (g.take 2)) none) none)))) (B4 1 (c.drop 1) fun ad ae=>(B4 1 (b.drop 1) fun af ag=>(JI N ad ae false e af ag false d (fun n ak ah=>(aT c fun ai=>(Iq N ai (ah.take (n*1)) n false true (fun i=>(cond ((Nat.beq 0 0)&&((Nat.beq (i.length) 2)&&(Nat.beq 2 2))) (cond (Nat.ble 2 (i.length)) (r0 (i.take 2)) none) none))))))))))))))))
def fq:=(Ah (@Arq R)).1
theorem Arr:@fq R=@Arq R:=(Ah _).2
def A13:Gm:=[(207,zu N),(83,Pe N),(209,Aan N)]
def Aaz (F:KF R):LA→O R:=(fun aj=>F (.pagg aj false) [])
theorem Aa0 (b:LA) (d:Bool) (c:LA) (e:Bool) (F:KF R):C2 (A13 N) iP N 139 [(.pagg b d),(.pagg c e)] [] F=(fq N b d c e (Aaz F)):=by
 rw[Arr]
 kernel_rfl
def uY (a:LA) (h:Ai) (k:KF R):O R :=
 match a,h with
 | [(.pagg b d),(.pagg c e)],[]=>(fq N b d c e (Aaz k))
 | _,_=>none
theorem Aa1:Am N 139 @uY:=by
 intro R Q a h k j;unfold uY;split;exact Az (Aa0 ..) (Aa0 ..) ⟨zw N,Pf N,Aao N,trivial⟩;exact A2
def Aa2:=A1 (Aa1 N)
def Aa3:=C5 (Aa1 N)
def Ars (b:LA) (c:Bool) (r0:LA→O R):O R :=
 (aT b fun e=>(B4 1 (b.drop 1) fun f g=>(Iq N (!e) f g false c (fun d=>(cond ((Nat.beq 0 0)&&((Nat.beq (d.length) 2)&&(Nat.beq 2 2))) (cond (Nat.ble 2 (d.length)) (r0 (d.take 2)) none) none)))))
def ft:=(Ah (@Ars R)).1
theorem Art:@ft R=@Ars R:=(Ah _).2
def A14:Gm:=[(83,Pe N)]
def Aa4 (F:KF R):LA→O R:=(fun i=>F (.pagg i false) [])
theorem Aa5 (b:LA) (c:Bool) (F:KF R):C2 (A14 N) iP N 153 [(.pagg b c)] [] F=(ft N b c (Aa4 F)):=by
 rw[Art]
 kernel_rfl
def uZ (a:LA) (h:Ai) (k:KF R):O R :=
 match a,h with
 | [(.pagg b c)],[]=>(ft N b c (Aa4 k))
 | _,_=>none
theorem Aa6:Am N 153 @uZ:=by
 intro R Q a h k j;unfold uZ;split;exact Az (Aa5 ..) (Aa5 ..) ⟨Pf N,trivial⟩;exact A2
def Aa7:=A1 (Aa6 N)
def Aa8:=C5 (Aa6 N)
def Aru (b:LA) (d:Bool) (c:LA) (e:Bool) (r0:LA→O R):O R :=
 (cond (Nat.ble 2 (b.length)) (cond (Nat.ble 2 (c.length)) (ft N (c.take 2) e (fun g=>(fq N (b.take 2) d g false (fun f=>(cond ((Nat.beq 0 0)&&((Nat.beq (f.length) 2)&&(Nat.beq 2 2))) (cond (Nat.ble 2 (f.length)) (r0 (f.take 2)) none) none))))) none) none)
def yS:=(Ah (@Aru R)).1
theorem Arv:@yS R=@Aru R:=(Ah _).2
def A15:Gm:=[(153,Aa7 N),(139,Aa2 N)]
def Aa9 (F:KF R):LA→O R:=(fun i=>F (.pagg i false) [])
theorem Aba (b:LA) (d:Bool) (c:LA) (e:Bool) (F:KF R):C2 (A15 N) iP N 141 [(.pagg b d),(.pagg c e)] [] F=(yS N b d c e (Aa9 F)):=by
 rw[Arv]
 kernel_rfl
def u4 (a:LA) (h:Ai) (k:KF R):O R :=
 match a,h with
 | [(.pagg b d),(.pagg c e)],[]=>(yS N b d c e (Aa9 k))
 | _,_=>none
theorem Abb:Am N 141 @u4:=by
 intro R Q a h k j;unfold u4;split;exact Az (Aba ..) (Aba ..) ⟨Aa8 N,Aa3 N,trivial⟩;exact A2
def Axa:=A1 (Abb N)
def Axb:=C5 (Abb N)
end
end Gx

namespace Gx
open Go Go.Proofs
open IntKind (wrap)
set_option maxRecDepth 100000
noncomputable section
variable {R:Type} (N:Nat)
def bL (f:LA) (m:Bool) (e:LA) (l:Bool) (r0:LA→LA→Bool→O R):O R :=
 (B4 1 (f.drop 1) fun p q=>(B4 1 (e.drop 1) fun r s=>(Tl N p q false m r s false l (fun n o t u v=>(cond (!t) (r0 [(.bool false),.nsl] [(.bool false),.nsl] false) (aT f fun w=>(aT e fun x=>(Iq N (!(w==x)) (u.take (n*1)) n false true (fun b=>(aT f fun y=>(Iq N y (v.take (o*1)) o false true (fun c=>(cond ((Nat.beq 0 0)&&((Nat.beq (b.length) 2)&&(Nat.beq 2 2))) (cond ((Nat.beq 0 0)&&((Nat.beq (c.length) 2)&&(Nat.beq 2 2))) (aT c fun z=>(cond z (cond (Nat.ble 2 (c.length)) (cond (Nat.ble 2 (e.length)) (yR N (e.take 2) l (fun aa=>(fq N (c.take 2) false aa false (fun d=>(cond ((Nat.beq (d.length) 2)&&((Nat.ble 2 (c.length))&&(!false))) (aT e fun ab=>(cond ab (cond (Nat.ble 2 (b.length)) (L7 N 1 (fun ac=>(fq N (b.take 2) false ac false (fun g=>(cond ((Nat.beq (g.length) 2)&&((Nat.ble 2 (b.length))&&(!false))) (cond (Nat.ble 2 ((setCells b 0 g).length)) (cond (Nat.ble 2 ((setCells c 0 d).length)) (cond ((Nat.beq (((setCells b 0 g).take 2).length) 2)&&((Nat.ble 2 ((setCells b 0 g).length))&&(!false))) (cond ((Nat.beq (((setCells c 0 d).take 2).length) 2)&&((Nat.ble 2 ((setCells c 0 d).length))&&(!false))) (cond (Nat.ble 2 ((setCells (setCells b 0 g) 0 ((setCells b 0 g).take 2)).length)) (cond (Nat.ble 2 ((setCells (setCells c 0 d) 0 ((setCells c 0 d).take 2)).length)) (r0 ((setCells (setCells b 0 g) 0 ((setCells b 0 g).take 2)).take 2) ((setCells (setCells c 0 d) 0 ((setCells c 0 d).take 2)).take 2) true) none) none) none) none) none) none) none))))) none) (cond (Nat.ble 2 (b.length)) (L7 N 1 (fun ad=>(yS N (b.take 2) false ad false (fun i=>(cond ((Nat.beq (i.length) 2)&&((Nat.ble 2 (b.length))&&(!false))) (cond (Nat.ble 2 ((setCells b 0 i).length)) (cond (Nat.ble 2 ((setCells c 0 d).length)) (cond ((Nat.beq (((setCells b 0 i).take 2).length) 2)&&((Nat.ble 2 ((setCells b 0 i).length))&&(!false))) (cond ((Nat.beq (((setCells c 0 d).take 2).length) 2)&&((Nat.ble 2 ((setCells c 0 d).length))&&(!false))) (cond (Nat.ble 2 ((setCells (setCells b 0 i) 0 ((setCells b 0 i).take 2)).length)) (cond (Nat.ble 2 ((setCells (setCells c 0 d) 0 ((setCells c 0 d).take 2)).length)) (r0 ((setCells (setCells b 0 i) 0 ((setCells b 0 i).take 2)).take 2) ((setCells (setCells c 0 d) 0 ((setCells c 0 d).take 2)).take 2) true) none) none) none) none) none) none) none))))) none))) none))))) none) none) (cond (Nat.ble 2 (b.length)) (cond (Nat.ble 2 (c.length)) (cond ((Nat.beq ((b.take 2).length) 2)&&((Nat.ble 2 (b.length))&&(!false))) (cond ((Nat.beq ((c.take 2).length) 2)&&((Nat.ble 2 (c.length))&&(!false))) (cond (Nat.ble 2 ((setCells b 0 (b.take 2)).length)) (cond (Nat.ble 2 ((setCells c 0 (c.take 2)).length)) (r0 ((setCells b 0 (b.take 2)).take 2) ((setCells c 0 (c.take 2)).take 2) true) none) none) none) none) none) none))) none) none)))))))))))))
def Xb:=(Ah (@bL R)).1
theorem bM:@Xb R=@bL R:=(Ah _).2
def Amf:Gm:=[(126,jA N),(83,Pe N),(140,Aw8 N),(139,Aa2 N),(32,a_ N),(141,Axa N)]
def jD (F:KF R):LA→LA→Bool→O R:=(fun ae af ag=>F (.tup [(.pagg ae false),(.pagg af false),(.bool ag)]) [])
theorem jE (f:LA) (m:Bool) (e:LA) (l:Bool) (F:KF R):C2 (Amf N) A76 N 71 [(.pagg f m),(.pagg e l)] [] F=(Xb N f m e l (jD F)):=by
 rw[bM]
 kernel_rfl
def bO (a:LA) (h:Ai) (k:KF R):O R :=
 match a,h with
 | [(.pagg f m),(.pagg e l)],[]=>(Xb N f m e l (jD k))
 | _,_=>none
theorem jF:Am N 71 @bO:=by
 intro R Q a h k j;unfold bO;split;exact Az (jE ..) (jE ..) ⟨jB N,Pf N,Aw9 N,Aa3 N,bA N,Axb N,trivial⟩;exact A2
def Af2:=A1 (jF N)
def Af3:=C5 (jF N)
def JK (r0:LA→O R) (e:Bool) (c:LA) (d:Bool) (b:LA):O R :=
 (cond (Nat.ble 2 (c.length)) (cond (Nat.ble 2 (b.length)) (nY N (c.take 2) e (b.take 2) d (fun l=>(cond ((Nat.beq 0 0)&&((Nat.beq (l.length) 2)&&(Nat.beq 2 2))) (cond (Nat.ble 2 (c.length)) (cond (Nat.ble 2 (l.length)) (Xb N (c.take 2) e (l.take 2) false (fun f w af=>(cond ((Nat.beq 0 0)&&((Nat.beq (f.length) 2)&&(Nat.beq 2 2))) (cond ((Nat.beq 0 0)&&((Nat.beq (w.length) 2)&&(Nat.beq 2 2))) (cond (Nat.ble 2 (b.length)) (cond (Nat.ble 2 (l.length)) (Xb N (b.take 2) d (l.take 2) false (fun g x ag=>(cond ((Nat.beq 0 0)&&((Nat.beq (g.length) 2)&&(Nat.beq 2 2))) (cond ((Nat.beq 0 0)&&((Nat.beq (x.length) 2)&&(Nat.beq 2 2))) (aT g fun y=>(cond y (cond (Nat.ble 2 (f.length)) (ft N (f.take 2) false (fun i=>(cond (Nat.ble 2 (g.length)) (ft N (g.take 2) false (fun v=>(cond ((Nat.beq (i.length) 2)&&((Nat.ble 2 (f.length))&&(!false))) (cond ((Nat.beq (v.length) 2)&&((Nat.ble 2 (g.length))&&(!false))) (cond (Nat.ble 2 ((setCells f 0 i).length)) (B4 1 ((setCells g 0 v).drop 1) fun o p=>(cond ((Nat.beq (((setCells f 0 i).take 2).length) 2)&&(Nat.ble 2 3)) (cond ((Nat.beq 1 1)&&(Nat.ble 3 ((setCells [(.bool false),.nsl,.nsl] 0 ((setCells f 0 i).take 2)).length))) (cond ((Nat.beq 0 0)&&((Nat.beq (((setCells [(.bool false),.nsl,.nsl] 0 ((setCells f 0 i).take 2)).set 2 (.imm o p 1 false false)).length) 3)&&(Nat.beq 3 3))) (cond (Nat.ble 3 (((setCells [(.bool false),.nsl,.nsl] 0 ((setCells f 0 i).take 2)).set 2 (.imm o p 1 false false)).length)) (r0 (((setCells [(.bool false),.nsl,.nsl] 0 ((setCells f 0 i).take 2)).set 2 (.imm o p 1 false false)).take 3)) none) none) none) none)) none) none) none))) none))) none) (cond (Nat.ble 2 (f.length)) (B4 1 (g.drop 1) fun q r=>(cond ((Nat.beq ((f.take 2).length) 2)&&(Nat.ble 2 3)) (cond ((Nat.beq 1 1)&&(Nat.ble 3 ((setCells [(.bool false),.nsl,.nsl] 0 (f.take 2)).length))) (cond ((Nat.beq 0 0)&&((Nat.beq (((setCells [(.bool false),.nsl,.nsl] 0 (f.take 2)).set 2 (.imm q r 1 false false)).length) 3)&&(Nat.beq 3 3))) (cond (Nat.ble 3 (((setCells [(.bool false),.nsl,.nsl] 0 (f.take 2)).set 2 (.imm q r 1 false false)).length)) (r0 (((setCells [(.bool false),.nsl,.nsl] 0 (f.take 2)).set 2 (.imm q r 1 false false)).take 3)) none) none) none) none)) none))) none) none))) none) none) none) none))) none) none) none))) none) none)
def fu (r0:LA→O R) (q0:O R) (c:LA) (e:Bool) (b:LA) (d:Bool):O R :=
 (cond (Nat.ble 2 (b.length)) (bB N (b.take 2) d (fun z=>(cond (z==0) (Zh N (fun s=>(cond ((Nat.beq 0 0)&&((Nat.beq (s.length) 3)&&(Nat.beq 3 3))) (cond (Nat.ble 3 (s.length)) (r0 (s.take 3)) none) none))) (cond (Nat.ble 2 (b.length)) (GL N (b.take 2) d (fun n=>(cond ((Nat.beq 0 0)&&((Nat.beq (n.length) 2)&&(Nat.beq 2 2))) (aT n fun aa=>(cond ((!aa)==true) (B4 1 (n.drop 1) fun ab ac=>(FF N ab ac false false [(.int .u32 1)] 1 false true (fun ad=>(cond (cond true ad false) (cond (Nat.ble 2 (c.length)) (GL N (c.take 2) e (fun m=>(B4 1 (n.drop 1) fun t u=>(cond ((Nat.beq (m.length) 2)&&(Nat.ble 2 3)) (cond ((Nat.beq 1 1)&&(Nat.ble 3 ((setCells [(.bool false),.nsl,.nsl] 0 m).length))) (cond ((Nat.beq 0 0)&&((Nat.beq (((setCells [(.bool false),.nsl,.nsl] 0 m).set 2 (.imm t u 1 false false)).length) 3)&&(Nat.beq 3 3))) (cond (Nat.ble 3 (((setCells [(.bool false),.nsl,.nsl] 0 m).set 2 (.imm t u 1 false false)).length)) (r0 (((setCells [(.bool false),.nsl,.nsl] 0 m).set 2 (.imm t u 1 false false)).take 3)) none) none) none) none)))) none) q0)))) q0)) none))) none)))) none)
def GQ:=(Ah (fun (N:Nat) (c:LA) (e:Bool) (b:LA) (d:Bool) (r0:LA→O R)=>(fu N r0 (JK N r0 e c d b) c e b d))).1
theorem nZ (c e b d r0):(@GQ R N c e b d r0)=(fu N r0 (JK N r0 e c d b) c e b d):=by rw[GQ,(Ah _).2]
def u5:Hints:={ H:=(hS hL (hS hL (hJ [2,3,4] hL hL))),modes:=[(3,0)] }
def Abc:Gm:=[(138,Arh N),(151,bC N),(26,uC N),(65,Amd N),(152,Aw6 N),(71,Af2 N),(153,Aa7 N)]
def Arw (F:KF R):=Ko Tryz.f84 u5 (Abc N) [] N F
def JL (F:KF R):LA→O R:=(fun ae=>F (.pagg ae false) [])
def Arx (e:Bool) (c:LA) (d:Bool) (b:LA):St:=⟨[(2,(op 0)),(3,(op 1)),(4,(op 2))],(hq [(bP e 0 c),(bP d 0 b),(bN 0 [(.bool false),.nsl,.nsl])])⟩
def Ary (F:KF R):=Arw N F [1,1,1] []
theorem Abd (F:KF R) (e:Bool) (c:LA) (d:Bool) (b:LA):B9 (Ary N F) (Arx e c d b)=(JK N (JL F) e c d b):=by
 kernel_rfl
theorem u6 (c:LA) (e:Bool) (b:LA) (d:Bool) (F:KF R):C2 (Abc N) u5 N 84 [(.pagg c e),(.pagg b d)] [] F=(GQ N c e b d (JL F)):=by
 rw[nZ]
 exact Eq.trans (by kernel_rfl) (Bu (fu N (JL F) · c e b d) ((A4 ..).trans (Abd N F e c d b)):_)
def n6 (a:LA) (h:Ai) (k:KF R):O R :=
 match a,h with
 | [(.pagg c e),(.pagg b d)],[]=>(GQ N c e b d (JL k))
 | _,_=>none
theorem u7:Am N 84 @n6:=by
 intro R Q a h k j;unfold n6;split;exact Az (u6 ..) (u6 ..) ⟨Ari N,bD N,uD N,Ame N,Aw7 N,Af3 N,Aa8 N,trivial⟩;exact A2
def Arz:=A1 (u7 N)
def Ar0:=C5 (u7 N)
def Ph (N:Nat) (r0:Int→Bool→O R) (d:Int) (c:Bool) (b:LA) (e:Bool):O R :=
 (cond e (r0 (wrap .i64 (wrap .u64 ((0:Int) - d))) true) (aT b fun f=>(cond ((!f)==true) (cond (cond true (decide (d<9223372036854775808)) false) (r0 (wrap .i64 d) true) (r0 0 false)) (r0 0 false))))
def OL (r0:Int→Bool→O R) (q0:Int→Bool→O R) (b:LA) (c:Bool):O R :=
 (B4 1 (b.drop 1) fun g i=>(FE N g i false c (fun d l=>(cond (!l) (r0 0 false) (aT b fun m=>(cond (m==true) (q0 d (cond true (decide (d≤9223372036854775808)) false)) (q0 d false)))))))
def Zj:=(Ah (fun (N:Nat) (b:LA) (c:Bool) (r0:Int→Bool→O R)=>(OL N r0 (fun d e=>(Ph N r0 d c b e)) b c))).1
theorem ST (b c r0):(@Zj R N b c r0)=(OL N r0 (fun d e=>(Ph N r0 d c b e)) b c):=by rw[Zj,(Ah _).2]
def u9:Hints:={ H:=(hS hL (hS hL (hS (hS (hS hL (hS hL (hJ [1,4,15] hL hL))) hL) hL))) }
def Abe:Gm:=[(210,Al8 N)]
def Ar1 (F:KF R):=Ko Tryz.f201 u9 (Abe N) [] N F
def JM (F:KF R):Int→Bool→O R:=(fun n o=>F (.tup [(iv n),(.bool o)]) [])
def Ar2 (d:Int) (c:Bool) (b:LA) (e:Bool):St:=⟨[(1,(op 0)),(4,(.int .u64 d)),(15,(.bool e))],(hq [(bP c 0 b)])⟩
def Ar3 (F:KF R):=Ar1 N F [1,1,0,0,1,1,1] []
theorem Abf (F:KF R) (d:Int) (c:Bool) (b:LA):∀ (e:Bool),B9 (Ar3 N F) (Ar2 d c b e)=(Ph N (JM F) d c b e):=by
 intro e
 kernel_rfl
theorem u_ (b:LA) (c:Bool) (F:KF R):C2 (Abe N) u9 N 201 [(.pagg b c)] [] F=(Zj N b c (JM F)):=by
 rw[ST]
 exact Eq.trans (by kernel_rfl) (Bu (OL N (JM F) · b c) (funext fun d=>funext fun e=>(A4 ..).trans (Abf N F d c b e)):_)
def n7 (a:LA) (h:Ai) (k:KF R):O R :=
 match a,h with
 | [(.pagg b c)],[]=>(Zj N b c (JM k))
 | _,_=>none
theorem ua:Am N 201 @n7:=by
 intro R Q a h k j;unfold n7;split;exact Az (u_ ..) (u_ ..) ⟨Al9 N,trivial⟩;exact A2
def Ar4:=A1 (ua N)
def Ar5:=C5 (ua N)
def SU (b:Int) (r0:LA→O R):O R :=
 (L7 N b (fun d=>(L7 N 1 (fun e=>(GQ N d false e false (fun c=>(cond ((Nat.beq 0 0)&&((Nat.beq (c.length) 3)&&(Nat.beq 3 3))) (cond (Nat.ble 3 (c.length)) (r0 (c.take 3)) none) none)))))))
def Zk:=(Ah (@SU R)).1
theorem VJ:@Zk R=@SU R:=(Ah _).2
def Af4:Gm:=[(32,a_ N),(84,Arz N)]
def bR (F:KF R):LA→O R:=(fun f=>F (.pagg f false) [])
theorem bS (b:Int) (F:KF R):C2 (Af4 N) iP N 94 [(iv b)] [] F=(Zk N b (bR F)):=by
 rw[VJ]
 kernel_rfl
def VK (a:LA) (h:Ai) (k:KF R):O R :=
 match a,h with
 | [(.int .i64 b)],[]=>(Zk N b (bR k))
 | _,_=>none
theorem bT:Am N 94 @VK:=by
 intro R Q a h k j;unfold VK;split;exact Az (bS ..) (bS ..) ⟨bA N,Ar0 N,trivial⟩;exact A2
def Abg:=A1 (bT N)
def Abh:=C5 (bT N)
end
end Gx

namespace Go.Proofs
open Go.Shelf Go.RowKit
open Go.RowKit
def Tryz.laysM171_ren : Go.Shelf.Ren := ⟨fun | 171 => 114 | 243 => 192 | 246 => 257 | 283 => 293 | 284 => 294 | 285 => 295 | 286 => 296 | 129 => 310 | 317 => 309 | 318 => 311 | 319 => 312 | 320 => 313 | 337 => 318 | 338 => 319 | n => n, fun | 3 => 3 | 9 => 9 | 2 => 2 | 4 => 4 | 171 => 315 | 0 => 0 | 53 => 114 | 37 => 56 | 5 => 5 | 173 => 318 | 212 => 333 | 51 => 97 | 20 => 20 | 213 => 334 | 46 => 204 | 232 => 345 | 233 => 346 | n => n, fun | 17 => 3 | 18 => 6 | 19 => 7 | n => n⟩
theorem Tryz.laysM171 : Go.Proofs.LaysM.n171 Tryz.prog Tryz.laysM171_ren := {
  mixed := by kernel_rfl
  f129 := Tryz.func310.trans (congrArg some (by kernel_rfl))
  f171 := Tryz.func114.trans (congrArg some (by kernel_rfl))
  f243 := Tryz.func192.trans (congrArg some (by kernel_rfl))
  f246 := Tryz.func257.trans (congrArg some (by kernel_rfl))
  f283 := Tryz.func293.trans (congrArg some (by kernel_rfl))
  f284 := Tryz.func294.trans (congrArg some (by kernel_rfl))
  f285 := Tryz.func295.trans (congrArg some (by kernel_rfl))
  f286 := Tryz.func296.trans (congrArg some (by kernel_rfl))
  f317 := Tryz.func309.trans (congrArg some (by kernel_rfl))
  f318 := Tryz.func311.trans (congrArg some (by kernel_rfl))
  f319 := Tryz.func312.trans (congrArg some (by kernel_rfl))
  f320 := Tryz.func313.trans (congrArg some (by kernel_rfl))
  f337 := Tryz.func318.trans (congrArg some (by kernel_rfl))
  f338 := Tryz.func319.trans (congrArg some (by kernel_rfl))
  t0 := Tryz.underlying0
  a0 := Tryz.isAgg0
  z0 := Tryz.sizeOf0
  v0 := Tryz.zeroValue0
  t2 := Tryz.underlying2
  a2 := Tryz.isAgg2
  z2 := Tryz.sizeOf2
  v2 := Tryz.zeroValue2
  t3 := Tryz.underlying3
  a3 := Tryz.isAgg3
  z3 := Tryz.sizeOf3
  v3 := Tryz.zeroValue3
  t4 := Tryz.underlying4
  a4 := Tryz.isAgg4
  z4 := Tryz.sizeOf4
  v4 := Tryz.zeroValue4
  t5 := Tryz.underlying5
  a5 := Tryz.isAgg5
  z5 := Tryz.sizeOf5
  v5 := Tryz.zeroValue5
  t9 := Tryz.underlying9
  a9 := Tryz.isAgg9
  z9 := Tryz.sizeOf9
  v9 := Tryz.zeroValue9
  t20 := Tryz.underlying20
  a20 := Tryz.isAgg20
  z20 := Tryz.sizeOf20
  v20 := Tryz.zeroValue20
  t37 := Tryz.underlying56
  a37 := Tryz.isAgg56
  z37 := Tryz.sizeOf56
  v37 := Tryz.zeroValue56
  t46 := Tryz.underlying204
  a46 := Tryz.isAgg204
  z46 := Tryz.sizeOf204
  v46 := Tryz.zeroValue204
  t51 := Tryz.underlying97
  a51 := Tryz.isAgg97
  z51 := Tryz.sizeOf97
  v51 := Tryz.zeroValue97
  t53 := Tryz.underlying114
  a53 := Tryz.isAgg114
  z53 := Tryz.sizeOf114
  v53 := Tryz.zeroValue114
  t171 := Tryz.underlying315
  a171 := Tryz.isAgg315
  z171 := Tryz.sizeOf315
  v171 := Tryz.zeroValue315
  t173 := Tryz.underlying318
  a173 := Tryz.isAgg318
  z173 := Tryz.sizeOf318
  v173 := Tryz.zeroValue318
  t212 := Tryz.underlying333
  a212 := Tryz.isAgg333
  z212 := Tryz.sizeOf333
  v212 := Tryz.zeroValue333
  t213 := Tryz.underlying334
  a213 := Tryz.isAgg334
  z213 := Tryz.sizeOf334
  t232 := Tryz.underlying345
  a232 := Tryz.isAgg345
  z232 := Tryz.sizeOf345
  v232 := Tryz.zeroValue345
  t233 := Tryz.underlying346
  a233 := Tryz.isAgg346
  z233 := Tryz.sizeOf346
  v233 := Tryz.zeroValue346
  g17 := by kernel_rfl
  g18 := by kernel_rfl
  g19 := by kernel_rfl
  i0 := by kernel_rfl
  i2 := by kernel_rfl
  i3 := by kernel_rfl
  i4 := by kernel_rfl
  i5 := by kernel_rfl
  i9 := by kernel_rfl
  i20 := by kernel_rfl
  i37 := by kernel_rfl
  i46 := by kernel_rfl
  i51 := by kernel_rfl
  i53 := by kernel_rfl
  i171 := by kernel_rfl
  i173 := by kernel_rfl
  i212 := by kernel_rfl
  i232 := by kernel_rfl
  i233 := by kernel_rfl
  m17 := by kernel_rfl
  m18 := by kernel_rfl
  m19 := by kernel_rfl }
def Tryz.laysC172_ren : Go.Shelf.Ren := ⟨fun | 172 => 147 | 244 => 219 | 245 => 220 | 247 => 279 | 279 => 280 | 280 => 281 | 281 => 282 | 282 => 283 | 287 => 300 | 316 => 301 | 171 => 114 | 205 => 302 | 321 => 315 | 322 => 316 | 243 => 192 | 246 => 257 | 283 => 293 | 284 => 294 | 285 => 295 | 286 => 296 | 129 => 310 | 317 => 309 | 318 => 311 | 319 => 312 | 320 => 313 | 337 => 318 | 338 => 319 | n => n, fun | 9 => 9 | 3 => 3 | 75 => 175 | 76 => 176 | 4 => 4 | 5 => 5 | 167 => 308 | 37 => 56 | 0 => 0 | 85 => 309 | 2 => 2 | 168 => 311 | 53 => 114 | 175 => 322 | 46 => 204 | 210 => 326 | 127 => 246 | 145 => 340 | 143 => 338 | 21 => 21 | 171 => 315 | 173 => 318 | 212 => 333 | 51 => 97 | 20 => 20 | 213 => 334 | 232 => 345 | 233 => 346 | 80 => 181 | n => n, fun | 15 => 1 | 16 => 2 | 17 => 3 | 18 => 6 | 19 => 7 | n => n⟩
theorem Tryz.laysC172 : Go.Proofs.LaysC.n172 Tryz.prog Tryz.laysC172_ren := {
  mixed := by kernel_rfl
  f129 := Tryz.func310.trans (congrArg some (by kernel_rfl))
  f171 := Tryz.func114.trans (congrArg some (by kernel_rfl))
  f172 := Tryz.func147.trans (congrArg some (by kernel_rfl))
  f205 := Tryz.func302.trans (congrArg some (by kernel_rfl))
  f243 := Tryz.func192.trans (congrArg some (by kernel_rfl))
  f244 := Tryz.func219.trans (congrArg some (by kernel_rfl))
  f245 := Tryz.func220.trans (congrArg some (by kernel_rfl))
  f246 := Tryz.func257.trans (congrArg some (by kernel_rfl))
  f247 := Tryz.func279.trans (congrArg some (by kernel_rfl))
  f279 := Tryz.func280.trans (congrArg some (by kernel_rfl))
  f280 := Tryz.func281.trans (congrArg some (by kernel_rfl))
  f281 := Tryz.func282.trans (congrArg some (by kernel_rfl))
  f282 := Tryz.func283.trans (congrArg some (by kernel_rfl))
  f283 := Tryz.func293.trans (congrArg some (by kernel_rfl))
  f284 := Tryz.func294.trans (congrArg some (by kernel_rfl))
  f285 := Tryz.func295.trans (congrArg some (by kernel_rfl))
  f286 := Tryz.func296.trans (congrArg some (by kernel_rfl))
  f287 := Tryz.func300.trans (congrArg some (by kernel_rfl))
  f316 := Tryz.func301.trans (congrArg some (by kernel_rfl))
  f317 := Tryz.func309.trans (congrArg some (by kernel_rfl))
  f318 := Tryz.func311.trans (congrArg some (by kernel_rfl))
  f319 := Tryz.func312.trans (congrArg some (by kernel_rfl))
  f320 := Tryz.func313.trans (congrArg some (by kernel_rfl))
  f321 := Tryz.func315.trans (congrArg some (by kernel_rfl))
  f322 := Tryz.func316.trans (congrArg some (by kernel_rfl))
  f337 := Tryz.func318.trans (congrArg some (by kernel_rfl))
  f338 := Tryz.func319.trans (congrArg some (by kernel_rfl))
  t0 := Tryz.underlying0
  a0 := Tryz.isAgg0
  z0 := Tryz.sizeOf0
  v0 := Tryz.zeroValue0
  t2 := Tryz.underlying2
  a2 := Tryz.isAgg2
  z2 := Tryz.sizeOf2
  v2 := Tryz.zeroValue2
  t3 := Tryz.underlying3
  a3 := Tryz.isAgg3
  z3 := Tryz.sizeOf3
  v3 := Tryz.zeroValue3
  t4 := Tryz.underlying4
  a4 := Tryz.isAgg4
  z4 := Tryz.sizeOf4
  v4 := Tryz.zeroValue4
  t5 := Tryz.underlying5
  a5 := Tryz.isAgg5
  z5 := Tryz.sizeOf5
  v5 := Tryz.zeroValue5
  t9 := Tryz.underlying9
  a9 := Tryz.isAgg9
  z9 := Tryz.sizeOf9
  v9 := Tryz.zeroValue9
  t20 := Tryz.underlying20
  a20 := Tryz.isAgg20
  z20 := Tryz.sizeOf20
  v20 := Tryz.zeroValue20
  t21 := Tryz.underlying21
  a21 := Tryz.isAgg21
  z21 := Tryz.sizeOf21
  v21 := Tryz.zeroValue21
  t37 := Tryz.underlying56
  a37 := Tryz.isAgg56
  z37 := Tryz.sizeOf56
  v37 := Tryz.zeroValue56
  t46 := Tryz.underlying204
  a46 := Tryz.isAgg204
  z46 := Tryz.sizeOf204
  v46 := Tryz.zeroValue204
  t51 := Tryz.underlying97
  a51 := Tryz.isAgg97
  z51 := Tryz.sizeOf97
  v51 := Tryz.zeroValue97
  t53 := Tryz.underlying114
  a53 := Tryz.isAgg114
  z53 := Tryz.sizeOf114
  v53 := Tryz.zeroValue114
  t75 := Tryz.underlying175
  a75 := Tryz.isAgg175
  z75 := Tryz.sizeOf175
  v75 := Tryz.zeroValue175
  t76 := Tryz.underlying176
  a76 := Tryz.isAgg176
  z76 := Tryz.sizeOf176
  v76 := Tryz.zeroValue176
  t85 := Tryz.underlying309
  a85 := Tryz.isAgg309
  z85 := Tryz.sizeOf309
  v85 := Tryz.zeroValue309
  t127 := Tryz.underlying246
  a127 := Tryz.isAgg246
  z127 := Tryz.sizeOf246
  v127 := Tryz.zeroValue246
  t143 := Tryz.underlying338
  a143 := Tryz.isAgg338
  z143 := Tryz.sizeOf338
  v143 := Tryz.zeroValue338
  t145 := Tryz.underlying340
  a145 := Tryz.isAgg340
  z145 := Tryz.sizeOf340
  v145 := Tryz.zeroValue340
  t167 := Tryz.underlying308
  a167 := Tryz.isAgg308
  z167 := Tryz.sizeOf308
  v167 := Tryz.zeroValue308
  t168 := Tryz.underlying311
  a168 := Tryz.isAgg311
  z168 := Tryz.sizeOf311
  v168 := Tryz.zeroValue311
  t171 := Tryz.underlying315
  a171 := Tryz.isAgg315
  z171 := Tryz.sizeOf315
  v171 := Tryz.zeroValue315
  t173 := Tryz.underlying318
  a173 := Tryz.isAgg318
  z173 := Tryz.sizeOf318
  v173 := Tryz.zeroValue318
  t175 := Tryz.underlying322
  a175 := Tryz.isAgg322
  z175 := Tryz.sizeOf322
  v175 := Tryz.zeroValue322
  t210 := Tryz.underlying326
  a210 := Tryz.isAgg326
  z210 := Tryz.sizeOf326
  v210 := Tryz.zeroValue326
  t212 := Tryz.underlying333
  a212 := Tryz.isAgg333
  z212 := Tryz.sizeOf333
  v212 := Tryz.zeroValue333
  t213 := Tryz.underlying334
  a213 := Tryz.isAgg334
  z213 := Tryz.sizeOf334
  t232 := Tryz.underlying345
  a232 := Tryz.isAgg345
  z232 := Tryz.sizeOf345
  v232 := Tryz.zeroValue345
  t233 := Tryz.underlying346
  a233 := Tryz.isAgg346
  z233 := Tryz.sizeOf346
  v233 := Tryz.zeroValue346
  g15 := by kernel_rfl
  g16 := by kernel_rfl
  g17 := by kernel_rfl
  g18 := by kernel_rfl
  g19 := by kernel_rfl
  t80 := Tryz.underlying181
  a80 := Tryz.isAgg181
  z80 := Tryz.sizeOf181
  v80 := Tryz.zeroValue181
  i0 := by kernel_rfl
  i2 := by kernel_rfl
  i3 := by kernel_rfl
  i4 := by kernel_rfl
  i5 := by kernel_rfl
  i9 := by kernel_rfl
  i20 := by kernel_rfl
  i21 := by kernel_rfl
  i37 := by kernel_rfl
  i46 := by kernel_rfl
  i51 := by kernel_rfl
  i53 := by kernel_rfl
  i75 := by kernel_rfl
  i76 := by kernel_rfl
  i80 := by kernel_rfl
  i85 := by kernel_rfl
  i127 := by kernel_rfl
  i143 := by kernel_rfl
  i145 := by kernel_rfl
  i167 := by kernel_rfl
  i168 := by kernel_rfl
  i171 := by kernel_rfl
  i173 := by kernel_rfl
  i175 := by kernel_rfl
  i210 := by kernel_rfl
  i212 := by kernel_rfl
  i232 := by kernel_rfl
  i233 := by kernel_rfl
  m15 := by kernel_rfl
  m16 := by kernel_rfl
  m17 := by kernel_rfl
  m18 := by kernel_rfl
  m19 := by kernel_rfl
  c0 := by kernel_rfl
  c2 := by kernel_rfl
  c3 := by kernel_rfl
  c4 := by kernel_rfl
  c5 := by kernel_rfl
  c9 := by kernel_rfl
  c20 := by kernel_rfl
  c21 := by kernel_rfl
  c37 := by kernel_rfl
  c46 := by kernel_rfl
  c51 := by kernel_rfl
  c53 := by kernel_rfl
  c75 := by kernel_rfl
  c76 := by kernel_rfl
  c80 := by kernel_rfl
  c85 := by kernel_rfl
  c127 := by kernel_rfl
  c143 := by kernel_rfl
  c145 := by kernel_rfl
  c167 := by kernel_rfl
  c168 := by kernel_rfl
  c171 := by kernel_rfl
  c173 := by kernel_rfl
  c175 := by kernel_rfl
  c210 := by kernel_rfl
  c212 := by kernel_rfl
  c213 := by kernel_rfl
  c232 := by kernel_rfl
  c233 := by kernel_rfl }
def Tryz.lays145_ren : Go.Shelf.Ren := ⟨fun | 145 => 105 | 220 => 179 | 219 => 252 | 217 => 286 | 225 => 287 | 224 => 288 | 267 => 289 | 266 => 304 | 314 => 305 | n => n, fun | 9 => 9 | 4 => 4 | 59 => 106 | 3 => 3 | 5 => 5 | 46 => 204 | 146 => 296 | 51 => 97 | n => n, fun | 1 => 0 | n => n⟩
theorem Tryz.lays145 : Go.Proofs.Lays.n145 Tryz.prog Tryz.lays145_ren := {
  mixed := by kernel_rfl
  f145 := Tryz.func105.trans (congrArg some (by kernel_rfl))
  f217 := Tryz.func286.trans (congrArg some (by kernel_rfl))
  f219 := Tryz.func252.trans (congrArg some (by kernel_rfl))
  f220 := Tryz.func179.trans (congrArg some (by kernel_rfl))
  f224 := Tryz.func288.trans (congrArg some (by kernel_rfl))
  f225 := Tryz.func287.trans (congrArg some (by kernel_rfl))
  f266 := Tryz.func304.trans (congrArg some (by kernel_rfl))
  f267 := Tryz.func289.trans (congrArg some (by kernel_rfl))
  f314 := Tryz.func305.trans (congrArg some (by kernel_rfl))
  t3 := Tryz.underlying3
  a3 := Tryz.isAgg3
  z3 := Tryz.sizeOf3
  v3 := Tryz.zeroValue3
  t4 := Tryz.underlying4
  a4 := Tryz.isAgg4
  z4 := Tryz.sizeOf4
  v4 := Tryz.zeroValue4
  t5 := Tryz.underlying5
  a5 := Tryz.isAgg5
  z5 := Tryz.sizeOf5
  v5 := Tryz.zeroValue5
  t9 := Tryz.underlying9
  a9 := Tryz.isAgg9
  z9 := Tryz.sizeOf9
  v9 := Tryz.zeroValue9
  t46 := Tryz.underlying204
  a46 := Tryz.isAgg204
  z46 := Tryz.sizeOf204
  v46 := Tryz.zeroValue204
  t51 := Tryz.underlying97
  a51 := Tryz.isAgg97
  z51 := Tryz.sizeOf97
  v51 := Tryz.zeroValue97
  t59 := Tryz.underlying106
  a59 := Tryz.isAgg106
  z59 := Tryz.sizeOf106
  v59 := Tryz.zeroValue106
  t146 := Tryz.underlying296
  a146 := Tryz.isAgg296
  z146 := Tryz.sizeOf296
  v146 := Tryz.zeroValue296
  g1 := by kernel_rfl }
def Tryz.lays146_ren : Go.Shelf.Ren := ⟨fun | 146 => 180 | 221 => 253 | 268 => 290 | 138 => 291 | 143 => 292 | 195 => 306 | 197 => 307 | 218 => 308 | 219 => 252 | 260 => 317 | 217 => 286 | 225 => 287 | 224 => 288 | 267 => 289 | 266 => 304 | 314 => 305 | n => n, fun | 9 => 9 | 31 => 117 | 3 => 3 | 4 => 4 | 0 => 0 | 105 => 330 | 21 => 21 | 5 => 5 | 46 => 204 | 119 => 341 | 139 => 344 | 138 => 343 | 146 => 296 | 51 => 97 | n => n, fun | 1 => 0 | 3 => 4 | 4 => 5 | n => n⟩
theorem Tryz.lays146 : Go.Proofs.Lays.n146 Tryz.prog Tryz.lays146_ren := {
  mixed := by kernel_rfl
  f138 := Tryz.func291.trans (congrArg some (by kernel_rfl))
  f143 := Tryz.func292.trans (congrArg some (by kernel_rfl))
  f146 := Tryz.func180.trans (congrArg some (by kernel_rfl))
  f195 := Tryz.func306.trans (congrArg some (by kernel_rfl))
  f197 := Tryz.func307.trans (congrArg some (by kernel_rfl))
  f217 := Tryz.func286.trans (congrArg some (by kernel_rfl))
  f218 := Tryz.func308.trans (congrArg some (by kernel_rfl))
  f219 := Tryz.func252.trans (congrArg some (by kernel_rfl))
  f221 := Tryz.func253.trans (congrArg some (by kernel_rfl))
  f224 := Tryz.func288.trans (congrArg some (by kernel_rfl))
  f225 := Tryz.func287.trans (congrArg some (by kernel_rfl))
  f260 := Tryz.func317.trans (congrArg some (by kernel_rfl))
  f266 := Tryz.func304.trans (congrArg some (by kernel_rfl))
  f267 := Tryz.func289.trans (congrArg some (by kernel_rfl))
  f268 := Tryz.func290.trans (congrArg some (by kernel_rfl))
  f314 := Tryz.func305.trans (congrArg some (by kernel_rfl))
  t0 := Tryz.underlying0
  a0 := Tryz.isAgg0
  z0 := Tryz.sizeOf0
  v0 := Tryz.zeroValue0
  t3 := Tryz.underlying3
  a3 := Tryz.isAgg3
  z3 := Tryz.sizeOf3
  v3 := Tryz.zeroValue3
  t4 := Tryz.underlying4
  a4 := Tryz.isAgg4
  z4 := Tryz.sizeOf4
  v4 := Tryz.zeroValue4
  t5 := Tryz.underlying5
  a5 := Tryz.isAgg5
  z5 := Tryz.sizeOf5
  v5 := Tryz.zeroValue5
  t9 := Tryz.underlying9
  a9 := Tryz.isAgg9
  z9 := Tryz.sizeOf9
  v9 := Tryz.zeroValue9
  t21 := Tryz.underlying21
  a21 := Tryz.isAgg21
  z21 := Tryz.sizeOf21
  v21 := Tryz.zeroValue21
  t31 := Tryz.underlying117
  a31 := Tryz.isAgg117
  z31 := Tryz.sizeOf117
  v31 := Tryz.zeroValue117
  t46 := Tryz.underlying204
  a46 := Tryz.isAgg204
  z46 := Tryz.sizeOf204
  v46 := Tryz.zeroValue204
  t51 := Tryz.underlying97
  a51 := Tryz.isAgg97
  z51 := Tryz.sizeOf97
  v51 := Tryz.zeroValue97
  t105 := Tryz.underlying330
  a105 := Tryz.isAgg330
  z105 := Tryz.sizeOf330
  v105 := Tryz.zeroValue330
  t119 := Tryz.underlying341
  a119 := Tryz.isAgg341
  z119 := Tryz.sizeOf341
  t138 := Tryz.underlying343
  a138 := Tryz.isAgg343
  z138 := Tryz.sizeOf343
  v138 := Tryz.zeroValue343
  t139 := Tryz.underlying344
  a139 := Tryz.isAgg344
  z139 := Tryz.sizeOf344
  v139 := Tryz.zeroValue344
  t146 := Tryz.underlying296
  a146 := Tryz.isAgg296
  z146 := Tryz.sizeOf296
  v146 := Tryz.zeroValue296
  g1 := by kernel_rfl
  g3 := by kernel_rfl
  g4 := by kernel_rfl }
end Go.Proofs

namespace Gx
open Go Go.Proofs Go.RowKit
noncomputable section
variable {R:Type} (N:Nat)
def U2 (_N:Nat) (s t:List UInt8) (r0:List UInt8→List UInt8→Bool→O R):O R:=cond (Nat.ble s.length 4294967280) (r0 (Lib.cut s t).1 (Lib.cut s t).2.1 (Lib.cut s t).2.2) none
def strings_Cut:=(Ah (@U2 R)).1
theorem Sz:@strings_Cut R=@U2 R:=(Ah _).2
def S4 (a:LA) (h:Ai) (k:KF R):O R :=
 match a,h with
 | [.str s,.str t],[]=>strings_Cut N s t fun x y b=>k (.tup [.str x,.str y,.bool b]) []
 | _,_=>none
def GR:Tw:=⟨fun {R} a h k=>@S4 R N a h k,fun {R} a h k=>by
 unfold S4
 split
 ·rw[Sz,Sz];unfold U2;cases Nat.ble _ 4294967280<;>rfl
 ·rfl⟩
def Rz (_N:Nat) (n:Int) (r0:List UInt8→O R):O R:=cond (decide (-9223372036854775808≤n)&&decide (n≤9223372036854775807)) (r0 (Lib.itoa n)) none
def strconv_Itoa:=(Ah (@Rz R)).1
theorem Qw:@strconv_Itoa R=@Rz R:=(Ah _).2
def Qx (a:LA) (h:Ai) (k:KF R):O R :=
 match a,h with
 | [.int .i64 n],[]=>strconv_Itoa N n fun x=>k (.str x) []
 | _,_=>none
def VL:Tw:=⟨fun {R} a h k=>@Qx R N a h k,fun {R} a h k=>by
 unfold Qx
 split
 ·rename_i n
  rw[Qw,Qw];unfold Rz;cases (decide (-9223372036854775808≤n)&&decide (n≤9223372036854775807))<;>rfl
 ·rfl⟩
def R2 (_N:Nat) (s:List UInt8) (r0:Int→O R):O R:=cond (Nat.ble s.length 9223372036854775806) (match Lib.atoiAll s with | .ok v=>r0 v | _=>none) none
def DR:=(Ah (@R2 R)).1
theorem Qy:@DR R=@R2 R:=(Ah _).2
def Qz (a:LA) (h:Ai) (k:KF R):O R :=
 match a,h with
 | [.str s],[]=>DR N s fun x=>k (.tup [.int .i64 x,.undef]) []
 | _,_=>none
def VM:Tw:=⟨fun {R} a h k=>@Qz R N a h k,fun {R} a h k=>by
 unfold Qz
 split
 ·rw[Qy,Qy];unfold R2;cases Nat.ble _ 9223372036854775806
  ·rfl
  ·cases Lib.atoiAll _<;>rfl
 ·rfl⟩
end
theorem Ar6 (w:World) (n:Nat):Below w.heap.size w (w.drewN n):=⟨rfl,rfl,rfl,Nat.le_refl _,fun _ _=>rfl⟩
theorem bU (N:Nat):Aqu Tryz.prog 105 (GR N):=by
 intro b h d h' f
 have c:S4 N b h (fun v h'=>some (v,h'))=some (d,h'):=f
 unfold S4 at c
 split at c
 ·rename_i s t
  rw[Sz,U2] at c
  obtain⟨k,i⟩:=uc c
  simp at k i
  obtain⟨rfl,rfl⟩:=i
  refine r9 fun J β w vs G hr=>?_
  obtain⟨u,v,rfl,e1,j⟩:=Aq4 hr
  simp only[Rep] at e1 j;subst e1 j
  obtain⟨m,l⟩:=G.int (g:=0) (by decide)
  refine(Any.strings_Cut Tryz.lays145 ⟨⟨s⟩⟩ ⟨⟨t⟩⟩ m w (show s.length<4294967281 by omega) l).mono ?_
  rintro e w' ⟨rfl,n,rfl⟩
  refine⟨_,rfl,Ar6 w n,fun J β w=>?_⟩
  rw[Rep]
  exact⟨_,rfl,by simp[Reps,Rep]⟩
 ·cases c
theorem x_ (N:Nat):Aqu Tryz.prog 114 (VL N):=by
 intro b h d h' f
 have c:Qx N b h (fun v h'=>some (v,h'))=some (d,h'):=f
 unfold Qx at c
 split at c
 ·rename_i n
  rw[Qw,Rz] at c
  obtain⟨j,l⟩:=uc c
  simp only[Bool.and_eq_true,decide_eq_true_eq] at j
  simp at l
  obtain⟨rfl,rfl⟩:=l
  refine r9 fun J β w vs G hr=>?_
  obtain⟨u,rfl,e1⟩:=zX hr
  rw[Rep] at e1;subst e1
  refine(Any.strconv_Itoa Tryz.laysM171 n j.1 j.2 w (G.tab (g:=3) (by simp[Azr,Lib.pow10Tab]) (by kernel_rfl))).mono ?_
  rintro e w' ⟨rfl,k,os,rfl⟩
  refine⟨_,rfl,⟨rfl,rfl,rfl,by simp[Go.Sort.grow],fun i hi=>?_⟩,fun J β w=>by rw[Rep]⟩
  show(w.heap++os)[i]?=_
  rw[Array.getElem?_append_left hi]
 ·cases c
theorem strconv_Atoi_ok (N:Nat):Aqu Tryz.prog 147 (VM N):=by
 intro b h f h' i
 have c:Qz N b h (fun v h'=>some (v,h'))=some (f,h'):=i
 unfold Qz at c
 split at c
 ·rename_i s
  rw[Qy,R2] at c
  obtain⟨j,d⟩:=uc c
  simp at j
  split at d
  ·rename_i v k
   simp at d
   obtain⟨rfl,rfl⟩:=d
   refine r9 fun J β w vs G hr=>?_
   obtain⟨u,rfl,e1⟩:=zX hr
   rw[Rep] at e1;subst e1
   refine(Any.strconv_Atoi_ok Tryz.laysC172 ⟨⟨s⟩⟩ j v k w).mono ?_
   rintro e w' ⟨rfl,l⟩
   refine⟨_,rfl,?_,fun J β w=>by rw[Rep];exact⟨_,rfl,by rw[Reps];exact⟨_,_,rfl,by rw[Rep],by rw[Reps];exact⟨_,_,rfl,by rw[Rep];trivial,by rw[Reps]⟩⟩⟩⟩
   rcases l with rfl | ⟨t,rfl⟩
   ·exact Below.refl _ _
   ·exact Lib.bytesWorld_below _ _ _
  ·cases d
 ·cases c
end Gx

namespace Gx
open Go Go.Proofs
open IntKind (wrap)
set_option maxRecDepth 100000
noncomputable section
variable {R:Type} (N:Nat)
def Dq (N:Nat) (b c:List UInt8) (r0:Bool→O R):O R :=
 (cond ((decide ((((b.length):Nat):Int)≥(((c.length):Nat):Int)))==true) (cond ((decide ((0:Int)≤(0:Int)))&&((decide (0≤(((c.length):Nat):Int)))&&((decide ((((c.length):Nat):Int)≤(((b.length):Nat):Int)))&&(decide ((((b.length):Nat):Int)≤(((b.length):Nat):Int)))))) (r0 (cond true ((List.take (c.length) b)==c) false)) none) (r0 false))
def D0:=(Ah (@Dq R)).1
theorem En:@D0 R=@Dq R:=(Ah _).2
def Jd (F:KF R):Bool→O R:=(fun d=>F (.bool d) [])
theorem Je (b c:List UInt8) (F:KF R):C2 [] Dc N 270 [(.str b),(.str c)] [] F=(D0 N b c (Jd F)):=by
 rw[En]
 kernel_rfl
def Is (a:LA) (h:Ai) (k:KF R):O R :=
 match a,h with
 | [(.str b),(.str c)],[]=>(D0 N b c (Jd k))
 | _,_=>none
theorem Jf:Am N 270 @Is:=by
 intro R Q a h k j;unfold Is;split;exact Az (Je ..) (Je ..) trivial;exact A2
def Un:=A1 (Jf N)
def Uo:=C5 (Jf N)
def Dr (b c:List UInt8) (r0:List UInt8→Bool→O R):O R :=
 (D0 N b c (fun d=>(cond (!d) (r0 b false) (cond ((decide (0≤(((c.length):Nat):Int)))&&((decide ((((c.length):Nat):Int)≤(((b.length):Nat):Int)))&&((decide ((((b.length):Nat):Int)≤(((b.length):Nat):Int)))&&(decide ((((b.length):Nat):Int)≤(((b.length):Nat):Int)))))) (r0 (List.take ((b.length) - (c.length)) (List.drop (c.length) b)) true) none))))
def D1:=(Ah (@Dr R)).1
theorem Eo:@D1 R=@Dr R:=(Ah _).2
def U3:Gm:=[(270,Un N)]
def Jg (F:KF R):List UInt8→Bool→O R:=(fun e f=>F (.tup [(.str e),(.bool f)]) [])
theorem Jh (b c:List UInt8) (F:KF R):C2 (U3 N) Dc N 218 [(.str b),(.str c)] [] F=(D1 N b c (Jg F)):=by
 rw[Eo]
 kernel_rfl
def It (a:LA) (h:Ai) (k:KF R):O R :=
 match a,h with
 | [(.str b),(.str c)],[]=>(D1 N b c (Jg k))
 | _,_=>none
theorem Ji:Am N 218 @It:=by
 intro R Q a h k j;unfold It;split;exact Az (Jh ..) (Jh ..) ⟨Uo N,trivial⟩;exact A2
def Up:=A1 (Ji N)
def Uq:=C5 (Ji N)
def Mn (b c:List UInt8) (r0:List UInt8→Bool→O R):O R :=
 (D1 N b c (fun d e=>(r0 d e)))
def E7:=(Ah (@Mn R)).1
theorem Od:@E7 R=@Mn R:=(Ah _).2
def g9:Gm:=[(218,Up N)]
def Zl (F:KF R):List UInt8→Bool→O R:=(fun f g=>F (.tup [(.str f),(.bool g)]) [])
theorem Zm (b c:List UInt8) (F:KF R):C2 (g9 N) Dc N 145 [(.str b),(.str c)] [] F=(E7 N b c (Zl F)):=by
 rw[Od]
 kernel_rfl
def We (a:LA) (h:Ai) (k:KF R):O R :=
 match a,h with
 | [(.str b),(.str c)],[]=>(E7 N b c (Zl k))
 | _,_=>none
theorem Zn:Am N 145 @We:=by
 intro R Q a h k j;unfold We;split;exact Az (Zm ..) (Zm ..) ⟨Uq N,trivial⟩;exact A2
def Zo:=A1 (Zn N)
def Zp:=C5 (Zn N)
def S5 (N:Nat) (r0:Bool→O R) (b:List UInt8) (k0:Int→O R) (c:Int):O R :=
 (cond (decide (c<(((b.length):Nat):Int))) (cond ((decide ((((NL b c).1:Nat):Int)<48))==false) (cond (cond false true (decide ((((NL b c).1:Nat):Int)>57))) (r0 false) (k0 (c+(((NL b c).2:Nat):Int)))) (r0 false)) (r0 (!(b==([]:List UInt8)))))
def Iu (r0:Bool→O R) (b:List UInt8):Nat→Int→O R
 | 0,_=>none
 | n+1,c=>(S5 N r0 b (Iu r0 b n) c)
def DS (N:Nat) (r0:Bool→O R) (q0:Int→O R) (b:List UInt8):O R :=
 (q0 0)
def T6:=(Ah (fun (N:Nat) (b:List UInt8) (r0:Bool→O R)=>(DS N r0 (fun c=>(Iu N r0 b N c)) b))).1
theorem VN (b r0):(@T6 R N b r0)=(DS N r0 (fun c=>(Iu N r0 b N c)) b):=by rw[T6,(Ah _).2]
def bV:Hints:={ H:=(hS hL (hS (hS hL (hS (hP [0,6] hL) hL)) hL)) }
def Abi (F:KF R):=Ko Tryz.f149 bV [] [] N F
def Pi (F:KF R):Bool→O R:=(fun d=>F (.bool d) [])
def Abj (b:List UInt8) (c:Int):St:=⟨[(0,(.str b)),(6,(.omap 300000))],(hq [⟨false,false,true,false,1,[(.str b),(iv c)],true,none⟩])⟩
def Abk (F:KF R):=Abi N F [1,0,1,0] []
theorem JN (F:KF R) (b:List UInt8):∀ (n:Nat) (c:Int),Aj (Abk N F) n (Abj b c)=(Iu N (Pi F) b n c)
 | 0,_=>by kernel_rfl
 | n+1,c=>Eq.trans (by kernel_rfl) (Bu (S5 N (Pi F) b · c) (funext fun c=>(JN F b n c)):_)
theorem bW (b:List UInt8) (F:KF R):C2 [] bV N 149 [(.str b)] [] F=(T6 N b (Pi F)):=by
 rw[VN]
 exact Eq.trans (by kernel_rfl) (Bu (DS N (Pi F) · b) (funext fun c=>(Ad ..).trans (JN N F b N c)):_)
def VO (a:LA) (h:Ai) (k:KF R):O R :=
 match a,h with
 | [(.str b)],[]=>(T6 N b (Pi k))
 | _,_=>none
theorem bX:Am N 149 @VO:=by
 intro R Q a h k j;unfold VO;split;exact Az (bW ..) (bW ..) trivial;exact A2
def Abl:=A1 (bX N)
def Abm:=C5 (bX N)
def bY (b:List UInt8) (r0:Bool→O R):O R :=
 (T6 N b (fun c=>(cond (c==true) (cond ((b==([48]:List UInt8))==false) (cond (Ae 0 (b.length)) (r0 (cond true (cond false true (((UInt8.toNat (List.getD b 0 0):Nat):Int) != 48)) false)) none) (r0 true)) (r0 false))))
def GS:=(Ah (@bY R)).1
theorem bZ:@GS R=@bY R:=(Ah _).2
def Amg:Gm:=[(149,Abl N)]
def jG (F:KF R):Bool→O R:=(fun d=>F (.bool d) [])
theorem jH (b:List UInt8) (F:KF R):C2 (Amg N) Dc N 146 [(.str b)] [] F=(GS N b (jG F)):=by
 rw[bZ]
 kernel_rfl
def b_ (a:LA) (h:Ai) (k:KF R):O R :=
 match a,h with
 | [(.str b)],[]=>(GS N b (jG k))
 | _,_=>none
theorem jI:Am N 146 @b_:=by
 intro R Q a h k j;unfold b_;split;exact Az (jH ..) (jH ..) ⟨Abm N,trivial⟩;exact A2
def Af5:=A1 (jI N)
def Af6:=C5 (jI N)
def SV (b:List UInt8) (r0:Bool→O R):O R :=
 (E7 N b ([45]:List UInt8) (fun c d=>(GS N c (fun e=>(cond (e==true) (cond (d==true) (r0 (cond true (!(cond true (c==([48]:List UInt8)) false)) false)) (r0 true)) (r0 false))))))
def Zq:=(Ah (@SV R)).1
theorem VP:@Zq R=@SV R:=(Ah _).2
def Af7:Gm:=[(145,Zo N),(146,Af5 N)]
def cA (F:KF R):Bool→O R:=(fun f=>F (.bool f) [])
theorem cB (b:List UInt8) (F:KF R):C2 (Af7 N) Dc N 78 [(.str b)] [] F=(Zq N b (cA F)):=by
 rw[VP]
 kernel_rfl
def VQ (a:LA) (h:Ai) (k:KF R):O R :=
 match a,h with
 | [(.str b)],[]=>(Zq N b (cA k))
 | _,_=>none
theorem cC:Am N 78 @VQ:=by
 intro R Q a h k j;unfold VQ;split;exact Az (cB ..) (cB ..) ⟨Zp N,Af6 N,trivial⟩;exact A2
def Abn:=A1 (cC N)
def Abo:=C5 (cC N)
def U4 (N:Nat) (r0:Bool→O R) (b:List UInt8) (k0:Int→Int→O R) (d c:Int):O R :=
 (cond (decide (c<(((b.length):Nat):Int))) (cond ((decide ((((NL b c).1:Nat):Int)≥48))==true) (cond (cond true (decide ((((NL b c).1:Nat):Int)≤57)) false) (k0 (wrap .i64 (d+1)) (c+(((NL b c).2:Nat):Int))) (k0 d (c+(((NL b c).2:Nat):Int)))) (k0 d (c+(((NL b c).2:Nat):Int)))) (r0 (decide (d>4096))))
def Kt (r0:Bool→O R) (b:List UInt8):Nat→Int→Int→O R
 | 0,_,_=>none
 | n+1,d,c=>(U4 N r0 b (Kt r0 b n) d c)
def JO (N:Nat) (r0:Bool→O R) (q0:Int→Int→O R) (b:List UInt8):O R :=
 (q0 0 0)
def Xc:=(Ah (fun (N:Nat) (b:List UInt8) (r0:Bool→O R)=>(JO N r0 (fun d c=>(Kt N r0 b N d c)) b))).1
theorem cD (b r0):(@Xc R N b r0)=(JO N r0 (fun d c=>(Kt N r0 b N d c)) b):=by rw[Xc,(Ah _).2]
def jJ:Hints:={ H:=(hS hL (hS hL (hS (hS hL (hS (hP [3,7] hL) hL)) hL))) }
def Af8 (F:KF R):=Ko Tryz.f79 jJ [] [] N F
def R3 (F:KF R):Bool→O R:=(fun e=>F (.bool e) [])
def Af9 (b:List UInt8) (d c:Int):St:=⟨[(3,(iv d)),(7,(.omap 300000))],(hq [⟨false,false,true,false,1,[(.str b),(iv c)],true,none⟩])⟩
def Aga (F:KF R):=Af8 N F [1,1,0,1,0] []
theorem OM (F:KF R) (b:List UInt8):∀ (n:Nat) (d c:Int),Aj (Aga N F) n (Af9 b d c)=(Kt N (R3 F) b n d c)
 | 0,_,_=>by kernel_rfl
 | n+1,d,c=>Eq.trans (by kernel_rfl) (Bu (U4 N (R3 F) b · d c) (funext fun d=>funext fun c=>(OM F b n d c)):_)
theorem jK (b:List UInt8) (F:KF R):C2 [] jJ N 79 [(.str b)] [] F=(Xc N b (R3 F)):=by
 rw[cD]
 exact Eq.trans (by kernel_rfl) (Bu (JO N (R3 F) · b) (funext fun d=>funext fun c=>(Ad ..).trans (OM N F b N d c)):_)
def cE (a:LA) (h:Ai) (k:KF R):O R :=
 match a,h with
 | [(.str b)],[]=>(Xc N b (R3 k))
 | _,_=>none
theorem jL:Am N 79 @cE:=by
 intro R Q a h k j;unfold cE;split;exact Az (jK ..) (jK ..) trivial;exact A2
def Agb:=A1 (jL N)
def Agc:=C5 (jL N)
def Q3 (r0:Bool→Nat→LA→O R) (k0:Int→Bool→LA→Bool→Nat→LA→O R) (d:Int) (c:Bool) (b:LA) (f:Bool) (e:Nat) (g:LA):O R :=
 (cond (decide (d>0)) (cond ((Int.tmod d 2)==1) (cond (Nat.ble 2 (b.length)) (SM N [(.bool f),(.imm (g.take (e*1)) e 1 false true)] true (b.take 2) c (fun o p q=>(cond (decide (d>1)) (cond (Nat.ble 2 (b.length)) (cond (Nat.ble 2 (b.length)) (SM N (b.take 2) c (b.take 2) c (fun t r u=>(cond ((Nat.beq 2 2)&&((Nat.ble 2 (b.length))&&(!false))) (k0 (wrap .i64 (Int.tdiv d 2)) (c||false) (Cx b 0 [(.bool t),(.imm (u.take (r*1)) r 1 false false)]) o p q) none))) none) none) (k0 (wrap .i64 (Int.tdiv d 2)) c b o p q)))) none) (cond (decide (d>1)) (cond (Nat.ble 2 (b.length)) (cond (Nat.ble 2 (b.length)) (SM N (b.take 2) c (b.take 2) c (fun v s w=>(cond ((Nat.beq 2 2)&&((Nat.ble 2 (b.length))&&(!false))) (k0 (wrap .i64 (Int.tdiv d 2)) (c||false) (Cx b 0 [(.bool v),(.imm (w.take (s*1)) s 1 false false)]) f e g) none))) none) none) (k0 (wrap .i64 (Int.tdiv d 2)) c b f e g))) (r0 f e g))
def Jw (r0:Bool→Nat→LA→O R):Nat→Int→Bool→LA→Bool→Nat→LA→O R
 | 0,_,_,_,_,_,_=>none
 | n+1,d,c,b,f,e,g=>(Q3 N r0 (Jw r0 n) d c b f e g)
def fv (r0:Bool→Nat→LA→O R) (q0:Int→Bool→LA→Bool→Nat→LA→O R) (i:LA) (l:Bool) (m:Int):O R :=
 (Mk N 1 (fun x y z=>(q0 m l i x y z)))
def ON:=(Ah (fun (N:Nat) (i:LA) (l:Bool) (m:Int) (r0:Bool→Nat→LA→O R)=>(fv N r0 (fun d c b f e g=>(Jw N r0 N d c b f e g)) i l m))).1
theorem n8 (i l m r0):(@ON R N i l m r0)=(fv N r0 (fun d c b f e g=>(Jw N r0 N d c b f e g)) i l m):=by rw[ON,(Ah _).2]
def ud:Hints:={ H:=(hS hL (hS hL (hS (hS (hP [1,2,4,5] hL) hL) hL))) }
def Abp:Gm:=[(64,iW N),(68,Ai3 N)]
def Ar7 (F:KF R):=Ko Tryz.f69 ud (Abp N) [] N F
def Zr (F:KF R):Bool→Nat→LA→O R:=(fun aa ab ac=>F (.agg [(.bool aa),(.own 300000 0 ab)]) (hq [(bQ 1 ac)]))
def Ar8 (d:Int) (c:Bool) (b:LA) (f:Bool) (e:Nat) (g:LA):St:=⟨[(1,(iv d)),(2,(op 0)),(4,(op 1)),(5,(op 2))],(hq [(bP c 0 b),(bN 0 [(.bool false),.nsl]),(bN 0 [(.bool f),(.own 300003 0 e)]),(bQ 1 g)])⟩
def Ar9 (F:KF R):=Ar7 N F [1,1,0,0] []
theorem cF (F:KF R):∀ (n:Nat) (d:Int) (c:Bool) (b:LA) (f:Bool) (e:Nat) (g:LA),Aj (Ar9 N F) n (Ar8 d c b f e g)=(Jw N (Zr F) n d c b f e g)
 | 0,_,_,_,_,_,_=>by kernel_rfl
 | n+1,d,c,b,f,e,g=>Eq.trans (by kernel_rfl) (Bu (Q3 N (Zr F) · d c b f e g) (funext fun d=>funext fun c=>funext fun b=>funext fun f=>funext fun e=>funext fun g=>(cF F n d c b f e g)):_)
theorem ue (i:LA) (l:Bool) (m:Int) (F:KF R):C2 (Abp N) ud N 69 [(.pagg i l),(iv m)] [] F=(ON N i l m (Zr F)):=by
 rw[n8]
 exact Eq.trans (by kernel_rfl) (Bu (fv N (Zr F) · i l m) (funext fun d=>funext fun c=>funext fun b=>funext fun f=>funext fun e=>funext fun g=>(Ad ..).trans (cF N F N d c b f e g)):_)
def n9 (a:LA) (h:Ai) (k:KF R):O R :=
 match a,h with
 | [(.pagg i l),(.int .i64 m)],[]=>(ON N i l m (Zr k))
 | _,_=>none
theorem uf:Am N 69 @n9:=by
 intro R Q a h k j;unfold n9;split;exact Az (ue ..) (ue ..) ⟨iX N,Ai4 N,trivial⟩;exact A2
def Asa:=A1 (uf N)
def Asb:=C5 (uf N)
def U5 (k0:List UInt8→Bool→Nat→LA→O R) (r0:LA→O R) (c d:Bool) (b:Nat) (e:LA) (m:List UInt8) (o:Int) (q:Bool) (p:Nat) (r:LA):O R :=
 (cond ((decide ((0:Int)≤(0:Int)))&&((decide (0≤o))&&((decide (o≤(((m.length):Nat):Int)))&&(decide ((((m.length):Nat):Int)≤(((m.length):Nat):Int)))))) (DR N (List.take (o.toNat) m) (fun x=>(SM N [(.bool q),(.imm (r.take (p*1)) p 1 false true)] true [(.bool d),(.imm (e.take (b*1)) b 1 false true)] true (fun y t z=>(Mk N x (fun aa u ab=>(zh N [(.bool y),(.imm (z.take (t*1)) t 1 false true)] true [(.bool aa),(.imm (ab.take (u*1)) u 1 false true)] true (fun ac ad ae=>(cond ((decide (0≤o))&&((decide (o≤(((m.length):Nat):Int)))&&((decide ((((m.length):Nat):Int)≤(((m.length):Nat):Int)))&&(decide ((((m.length):Nat):Int)≤(((m.length):Nat):Int)))))) (k0 (List.take ((m.length) - (o.toNat)) (List.drop (o.toNat) m)) ac ad ae) none))))))))) none)
def MJ (r0:LA→O R) (c d:Bool) (b:Nat) (e:LA) (k0:List UInt8→Bool→Nat→LA→O R) (q1:List UInt8→Int→Bool→Nat→LA→O R) (g:List UInt8) (i:Bool) (f:Nat) (l:LA):O R :=
 (cond (!(g==([]:List UInt8))) (cond ((Int.tmod (((g.length):Nat):Int) 9)==0) (q1 g 9 i f l) (q1 g (Int.tmod (((g.length):Nat):Int) 9) i f l)) (cond c (zc N [(.bool i),(.imm (l.take (f*1)) f 1 false true)] true (fun af v ag=>(r0 [(.bool af),(.imm (ag.take (v*1)) v 1 false false)]))) (r0 [(.bool i),(.imm (l.take (f*1)) f 1 false false)])))
def Jx (r0:LA→O R) (c d:Bool) (b:Nat) (e:LA):Nat→List UInt8→Bool→Nat→LA→O R
 | 0,_,_,_,_=>none
 | n+1,g,i,f,l=>(MJ N r0 c d b e (Jx r0 c d b e n) (fun m o q p r=>(U5 N (Jx r0 c d b e n) r0 c d b e m o q p r)) g i f l)
def SW (r0:LA→O R) (q0:Bool→Bool→Nat→LA→List UInt8→Bool→Nat→LA→O R) (s:List UInt8):O R :=
 (E7 N s ([45]:List UInt8) (fun ah c=>(Mk N 0 (fun ai aj ak=>(Mk N 10 (fun al w am=>(ON N [(.bool al),(.imm (am.take (w*1)) w 1 false true)] true 9 (fun d b e=>(q0 c d b e ah ai aj ak)))))))))
def FG:=(Ah (fun (N:Nat) (s:List UInt8) (r0:LA→O R)=>(SW N r0 (fun c d b e g i f l=>(Jx N r0 c d b e N g i f l)) s))).1
theorem jM (s r0):(@FG R N s r0)=(SW N r0 (fun c d b e g i f l=>(Jx N r0 c d b e N g i f l)) s):=by rw[FG,(Ah _).2]
def n_:Hints:={ H:=(hS hL (hS hL (hS hL (hS hL (hS (hS (hP [0,2,3,4,5] (hS hL (hS (hS hL (hJ [0,2,3,4,5,6] hL hL)) hL))) hL) hL))))),modes:=[(3,0)] }
def uh:Gm:=[(145,Zo N),(64,iW N),(69,Asa N),(148,A1m N),(147,VM N),(68,Ai3 N),(144,A1z N)]
def na (F:KF R):=Ko Tryz.f80 n_ (uh N) [] N F
def Mo (F:KF R):LA→O R:=(fun an=>F (.pagg an false) [])
def Amh (c d:Bool) (b:Nat) (e:LA) (m:List UInt8) (o:Int) (q:Bool) (p:Nat) (r:LA):St:=⟨[(0,(.str m)),(2,(op 0)),(3,(.bool c)),(4,(op 1)),(5,(op 2)),(6,(iv o))],(hq [(bN 0 [(.bool false),.nsl]),(bN 0 [(.bool q),(.own 300003 0 p)]),(bN 0 [(.bool d),(.own 300004 0 b)]),(bQ 1 r),(bQ 1 e)])⟩
def Ami (F:KF R) (Q0:St→O R):=na N F [1,1,1,1,0,0,0,1,0,1,1] [Q0]
def nc (c d:Bool) (b:Nat) (e:LA) (g:List UInt8) (i:Bool) (f:Nat) (l:LA):St:=⟨[(0,(.str g)),(2,(op 0)),(3,(.bool c)),(4,(op 1)),(5,(op 2))],(hq [(bN 0 [(.bool false),.nsl]),(bN 0 [(.bool i),(.own 300003 0 f)]),(bN 0 [(.bool d),(.own 300004 0 b)]),(bQ 1 l),(bQ 1 e)])⟩
def nf (F:KF R):=na N F [1,1,1,1,0,0] []
theorem xa (Q0:St→O R) (F:KF R) (c d:Bool) (b:Nat) (e:LA):∀ (m:List UInt8) (o:Int) (q:Bool) (p:Nat) (r:LA),B9 (Ami N F Q0) (Amh c d b e m o q p r)=(U5 N (fun g i f l=>Q0 (nc c d b e g i f l)) (Mo F) c d b e m o q p r):=by
 intro m o q p r
 kernel_rfl
theorem VR (F:KF R) (c d:Bool) (b:Nat) (e:LA):∀ (n:Nat) (g:List UInt8) (i:Bool) (f:Nat) (l:LA),Aj (nf N F) n (nc c d b e g i f l)=(Jx N (Mo F) c d b e n g i f l)
 | 0,_,_,_,_=>by kernel_rfl
 | n+1,g,i,f,l=>have e0:=(funext fun g=>funext fun i=>funext fun f=>funext fun l=>(VR F c d b e n g i f l))
  Eq.trans (by kernel_rfl) (NY (MJ N (Mo F) c d b e · · g i f l) e0 (funext fun m=>funext fun o=>funext fun q=>funext fun p=>funext fun r=>(A4 ..).trans ((xa N (Aj (nf N F) n) F c d b e m o q p r).trans (Bu (U5 N · (Mo F) c d b e m o q p r) e0))):_)
theorem ng (s:List UInt8) (F:KF R):C2 (uh N) n_ N 80 [(.str s)] [] F=(FG N s (Mo F)):=by
 rw[jM]
 exact Eq.trans (by kernel_rfl) (Bu (SW N (Mo F) · s) (funext fun c=>funext fun d=>funext fun b=>funext fun e=>funext fun g=>funext fun i=>funext fun f=>funext fun l=>(Ad ..).trans (VR N F c d b e N g i f l)):_)
def jN (a:LA) (h:Ai) (k:KF R):O R :=
 match a,h with
 | [(.str s)],[]=>(FG N s (Mo k))
 | _,_=>none
theorem nh:Am N 80 @jN:=by
 intro R Q a h k j;unfold jN;split;exact Az (ng ..) (ng ..) ⟨Zp N,iX N,Asb N,A1n N,strconv_Atoi_ok N,Ai4 N,A10 N,trivial⟩;exact A2
def Amj:=A1 (nh N)
def Amk:=C5 (nh N)
def MK (N:Nat) (r0:O R):O R :=
 r0
def DT:=(Ah (@MK R)).1
theorem OO:@DT R=@MK R:=(Ah _).2
def VS (F:KF R):O R:=F (.tup []) [(100000,⟨false,false,false,false,0,[(.optr 100000 0),.nsl],false,(some (168,2))⟩)]
theorem VT (F:KF R):C2 [] Dc N 191 [(.optr 100000 0)] [(100000,⟨false,false,false,false,0,[.nilptr,.nsl],false,(some (168,2))⟩)] F=(DT N (VS F)):=by
 rw[OO]
 kernel_rfl
def OP (a:LA) (h:Ai) (k:KF R):O R :=
 match a,h with
 | [(.optr 100000 0)],[(100000,⟨false,false,false,false,0,[.nilptr,.nsl],false,(some (168,2))⟩)]=>(DT N (VS k))
 | _,_=>none
theorem VU:Am N 191 @OP:=by
 intro R Q a h k j;unfold OP;split;exact Az (VT ..) (VT ..) trivial;exact A2
def xb:=A1 (VU N)
def xc:=C5 (VU N)
def BI (b:List UInt8) (r0:Int→Nat→LA→O R):O R :=
 (DT N (cond ((Nat.ble (0+(b.length)) 140737488355328)&&(Nat.ble ((0+(b.length))*1) 140737488355328)) (r0 (((b.length):Nat):Int) (0+(b.length)) (Ba b)) none))
def Pj:=(Ah (@BI R)).1
theorem GT:@Pj R=@BI R:=(Ah _).2
def sA:Gm:=[(191,xb N)]
def JP (F:KF R):Int→Nat→LA→O R:=(fun c d e=>F (.tup [(iv c),.undef]) [(100000,⟨false,false,false,false,0,[(.optr 100000 0),(.own 300000 0 d)],false,(some (168,2))⟩),(300000,⟨false,false,true,false,1,e,false,(some (5,0))⟩)])
theorem JQ (b:List UInt8) (F:KF R):C2 (sA N) Dc N 113 [(.optr 100000 0),(.str b)] [(100000,⟨false,false,false,false,0,[.nilptr,.nsl],false,(some (168,2))⟩)] F=(Pj N b (JP F)):=by
 rw[GT]
 kernel_rfl
def Abq (N:Nat) (r0:O R):O R :=
 r0
def fw:=(Ah (@Abq R)).1
theorem jO:@fw R=@Abq R:=(Ah _).2
def ni (F:KF R):O R:=F (.str ([]:List UInt8)) [(100000,⟨false,false,false,false,0,[.nilptr,.nsl],false,(some (168,2))⟩)]
theorem nk (F:KF R):C2 [] Dc N 116 [(.optr 100000 0)] [(100000,⟨false,false,false,false,0,[.nilptr,.nsl],false,(some (168,2))⟩)] F=(fw N (ni F)):=by
 rw[jO]
 kernel_rfl
def Xd (N b:Nat) (c:LA) (r0:O R):O R :=
 r0
def S6:=(Ah (@Xd R)).1
theorem BW:@S6 R=@Xd R:=(Ah _).2
def GU (b:Nat) (c:LA) (F:KF R):O R:=F (.tup []) [(100000,⟨false,false,false,false,0,[(.optr 100000 0),(.own 100001 0 b)],false,(some (168,2))⟩),(100001,⟨false,false,true,false,1,c,false,(some (5,0))⟩)]
theorem GV (b:Nat) (c:LA) (F:KF R):C2 [] Dc N 191 [(.optr 100000 0)] [(100000,⟨false,false,false,false,0,[(.optr 100000 0),(.own 100001 0 b)],false,(some (168,2))⟩),(100001,⟨false,false,true,false,1,c,false,(some (5,0))⟩)] F=(S6 N b c (GU b c F)):=by
 rw[BW]
 kernel_rfl
def BX (a:LA) (h:Ai) (k:KF R):O R :=
 match a,h with
 | [(.optr 100000 0)],[(100000,⟨false,false,false,false,0,[(.optr 100000 0),(.own 100001 0 b)],false,(some (168,2))⟩),(100001,⟨false,false,true,false,1,c,false,(some (5,0))⟩)]=>(S6 N b c (GU b c k))
 | _,_=>none
theorem GW:Am N 191 @BX:=by
 intro R Q a h k j;unfold BX;split;exact Az (GV ..) (GV ..) trivial;exact A2
def lY:=A1 (GW N)
def lZ:=C5 (GW N)
def Tm (b:List UInt8) (c:Nat) (d:LA) (r0:Int→Nat→LA→O R):O R :=
 (S6 N c d (cond ((Nat.ble (c+(b.length)) 140737488355328)&&(Nat.ble ((c+(b.length))*1) 140737488355328)) (r0 (((b.length):Nat):Int) (c+(b.length)) ((d.take (c*1))++(Ba b))) none))
def Bl:=(Ah (@Tm R)).1
theorem Wf:@Bl R=@Tm R:=(Ah _).2
def g_:Gm:=[(191,lY N)]
def Zs (F:KF R):Int→Nat→LA→O R:=(fun e f g=>F (.tup [(iv e),.undef]) [(100000,⟨false,false,false,false,0,[(.optr 100000 0),(.own 300000 0 f)],false,(some (168,2))⟩),(300000,⟨false,false,true,false,1,g,false,(some (5,0))⟩)])
theorem Zt (b:List UInt8) (c:Nat) (d:LA) (F:KF R):C2 (g_ N) Dc N 113 [(.optr 100000 0),(.str b)] [(100000,⟨false,false,false,false,0,[(.optr 100000 0),(.own 100001 0 c)],false,(some (168,2))⟩),(100001,⟨false,false,true,false,1,d,false,(some (5,0))⟩)] F=(Bl N b c d (Zs F)):=by
 rw[Wf]
 kernel_rfl
end
end Gx
