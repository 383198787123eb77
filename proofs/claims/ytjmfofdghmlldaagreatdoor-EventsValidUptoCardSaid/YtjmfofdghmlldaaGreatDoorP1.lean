/- A part of the proof: what it holds is said by each theorem. -/
import Derived.ProofKit
import Derived.OpenShut
import Derived.ChangeOld
import Derived.Below
import Derived.Lib.LaidTab
import Derived.JoinedOf
import Derived.Test.YtjmfofdghmlldaaGreatDoorCards
import Derived.Test.YtjmfofdghmlldaaGreatDoorTie
import Derived.Deep.DeepHandedRow
import Derived.Deep.DeepWitnessRowRef
import Derived.LaidMore
import Derived.Shelf.Vars
import Derived.SevenTiedAt
import Derived.IntWalk
import Derived.Test.YtjmfofdghmlldaaGreatDoorProg
import Derived.Test.YtjmfofdghmlldaaGreatDoorRows
import Derived.ChangeSame
import Derived.Lay
import Derived.Shelf.Strings.Repeat
import Derived.Shelf.Strings.Split
import Derived.Shelf.Strings.Cut
import Derived.Shelf.Strconv.AtoiAll
import Derived.Shelf.Strconv.Itoa3
import Derived.Shelf.LaysM
import Derived.Shelf.LaysC
import Derived.Lib.RepeatB
import Derived.Test.YtjmfofdghmlldaaGreatDoorP0
set_option linter.unusedVariables false
set_option linter.defProp false
set_option linter.unusedSimpArgs false
namespace Gx
open Go
theorem M5:∀ {l:List Nat} {b:Nat},J8 l b=true↔b ∈ l
  | [],b=>by simp[J8]
  | i::r,b=>by
    rw[J8]
    cases hi:Nat.beq i b with
    | true=>have:=Nat.eq_of_beq_eq_true hi;subst this;simp
    | false => have := AE hi; simp only [cond_false, List.mem_cons]; rw [M5]; constructor
               · exact fun h=>.inr h
               · rintro(h | h)
                 · exact absurd h.symm this
                 · exact h
theorem V4:∀ {l:List Nat},XH l=true→l.Nodup
 | [],_=>List.nodup_nil
 | i::r,h=>by
  rw[XH] at h;simp at h
  refine List.nodup_cons.2 ⟨fun b=>?_,V4 h.2⟩
  rw[M5.2 b] at h;simp at h
theorem pW {g:Bk} {ids:List Nat}:∀ {l:List Nat},wJ g ids l=true→∀ b ∈ l,∀ x,Gy g b=some x→b ∈ ids
 | [],_,b,c,_,_=>by simp at c
 | i::r,h,b,c,x,f=>by
  rw[wJ] at h;simp at h
  rcases List.mem_cons.1 c with e | c
  ·subst e
   rcases h.1 with d | d
   ·exact M5.1 d
   ·rw[f] at d;simp at d
  ·exact pW h.2 b c x f
theorem Amw:∀ {l:List Nat},Awa l=true→∀ b ∈ l,Ir≤b→M4 b<100000
 | [],_,b,c,_=>by simp at c
 | i::r,h,b,c,hn=>by
  rw[Awa] at h;simp at h
  rcases List.mem_cons.1 c with e | c
  ·subst e
   have:Nat.ble Ir b=true:=by simpa using hn
   rw[this] at h;simpa using h.1
  ·exact Amw h.2 b c hn
theorem DZ (g:Bk):∀ c:LA,(Ly g c).length=c.length
 | []=>rfl
 | x::r=>by rw[Ly,List.length_cons,List.length_cons,DZ g r]
section
variable {R:Type} {r:R} {Z:Start} {nt:Nat} {J J':Bool→Nat→Prop} {β β':Cj} {st:St} {h h':Aj} {a:Act} {w w':World} {ids:List Nat}
def Ol (g:Bk) (x:Blk):Blk:={ x with cells:=cond x.pure x.cells (Ly g x.cells) }
theorem jW {g:Bk}:∀ {ids:List Nat},(ids.map M4).Nodup→∀ c y,Am (DW g ids) c=some y→∃ b x,b ∈ ids∧M4 b=c∧Gy g b=some x∧y=Ol g x
 | [],_,c,y,d=>by simp[DW,Am] at d
 | b::r,hn,c,y,d=>by
  rw[List.map_cons,List.nodup_cons] at hn
  rw[DW] at d
  split at d
  ·rename_i x m
   rw[Af] at d
   by_cases e:c=M4 b
   ·rw[if_pos e] at d;simp at d
    exact⟨b,x,by simp,e.symm,m,d.symm⟩
   ·rw[if_neg e] at d
    obtain⟨f,x',i,j,k,l⟩:=jW hn.2 c y d
    exact⟨f,x',by simp[i],j,k,l⟩
  ·obtain⟨f,x',i,j,k,l⟩:=jW hn.2 c y d
   exact⟨f,x',by simp[i],j,k,l⟩
theorem D_ {g:Bk}:∀ {ids:List Nat},(ids.map M4).Nodup→∀ b x,b ∈ ids→Gy g b=some x→Am (DW g ids) (M4 b)=some (Ol g x)
 | [],_,b,x,c,_=>by simp at c
 | i::r,hn,b,x,c,d=>by
  rw[List.map_cons,List.nodup_cons] at hn
  rw[DW]
  by_cases e:b=i
  ·subst e
   rw[d]
   simp only
   rw[Af,if_pos rfl];rfl
  ·have f:b ∈ r:=by simpa[e] using c
   have ne:M4 b≠M4 i:=fun h=>hn.1 (by rw[←h];exact List.mem_map.2 ⟨b,f,rfl⟩)
   split
   ·rw[Af,if_neg ne];exact D_ hn.2 b x f d
   ·exact D_ hn.2 b x f d
def wa (ids:List Nat) (c:Nat):Option Nat:=ids.find? fun b=>Nat.beq (M4 b) c
theorem Ni (hn:(ids.map M4).Nodup) {b:Nat} (c:b ∈ ids):wa ids (M4 b)=some b:=by
 induction ids with
 | nil=>simp at c
 | cons i r d =>
  rw[List.map_cons,List.nodup_cons] at hn
  unfold wa at d ⊢
  rw[List.find?_cons]
  by_cases e:b=i
  ·subst e;simp
  ·have f:b ∈ r:=by simpa[e] using c
   have ne:M4 i≠M4 b:=fun h=>hn.1 (by rw[h];exact List.mem_map.2 ⟨b,f,rfl⟩)
   rw[WP ne];exact d hn.2 f
def A3j (g:Bk) (ids:List Nat) (l:List Nat):Prop:=∀ b ∈ l,∀ x,Gy g b=some x→b ∈ ids
theorem Axl {b:Nat}:Gy (Am h) b=(Am h b).bind fun x=>cond x.dead none (some x):=rfl
theorem jX {b:Nat} {x y:Blk} (e:Am h b=some x) (c:Gy (Am h) b=some y):y=x∧x.dead=false:=by
 rw[Axl,e] at c
 cases d:x.dead with
 | true=>simp[d] at c
 | false=>simp[d] at c;exact⟨c.symm,rfl⟩
mutual
theorem Rep.clean (hn:(ids.map M4).Nodup):∀ {x:AV} {v:Value},A3j (Am h) ids (H4 x)→Rep J β h w x v →
  Rep J (fun c=>(wa ids c).bind β) (DW (Am h) ids) w (DV (Am h) x) v
 | .own b off n,v,hm,hr=>by
  rw[Rep] at hr
  obtain⟨x,A,cap,⟨hx,hmp⟩,h1,h2,h3⟩:=hr
  rw[DV]
  cases hv:Gy (Am h) b with
  | none=>simp only;rw[Rep];trivial
  | some y =>
   obtain⟨rfl,hd⟩:=jX hx hv
   have hb:=hm b (by simp[H4]) _ hv
   simp only
   rw[Rep]
   refine⟨Ol (Am h) y,A,cap,⟨D_ hn b y hb hv,hmp⟩,h1,h2,?_⟩
   rcases h3 with h3 | ⟨k,o,h4,h5⟩
   ·exact .inl h3
   ·refine .inr ⟨k,o,h4,?_⟩
    rcases h5 with h5 | ⟨h5,h6,h7⟩
    ·simp[hd] at h5
    ·refine .inr ⟨by rw[Ni hn hb];exact h5,h6,?_⟩
     have:(Ol (Am h) y).cells.length=y.cells.length:=by
      unfold Ol;cases y.pure
      ·simp;exact DZ _ _
      ·rfl
     rw[this];exact h7
 | .optr b off,v,hm,hr=>by
  rw[Rep] at hr
  obtain⟨x,k,o,⟨hx,hmp⟩,h1,h2⟩:=hr
  rw[DV]
  cases hv:Gy (Am h) b with
  | none=>simp only;rw[Rep];trivial
  | some y =>
   obtain⟨rfl,hd⟩:=jX hx hv
   have hb:=hm b (by simp[H4]) _ hv
   simp only
   rw[Rep]
   refine⟨Ol (Am h) y,k,o,⟨D_ hn b y hb hv,hmp⟩,h1,?_⟩
   rcases h2 with h2 | h2
   ·simp[hd] at h2
   ·exact .inr (by rw[Ni hn hb];exact h2)
 | .omap b,v,hm,hr=>by
  rw[Rep] at hr
  obtain⟨x,k,⟨hx,hmp⟩,h2⟩:=hr
  rw[DV]
  cases hv:Gy (Am h) b with
  | none=>simp only;rw[Rep];trivial
  | some y =>
   obtain⟨rfl,hd⟩:=jX hx hv
   have hb:=hm b (by simp[H4]) _ hv
   simp only
   rw[Rep]
   refine⟨Ol (Am h) y,k,⟨D_ hn b y hb hv,hmp⟩,?_⟩
   rcases h2 with h2 | h2
   ·simp[hd] at h2
   ·exact .inr (by rw[Ni hn hb];exact h2)
 | .agg c,v,hm,hr=>by
  rw[Rep] at hr
  obtain⟨cs,h1,h2⟩:=hr
  rw[DV,Rep]
  exact⟨cs,h1,Reps.clean hn (by simpa[H4] using hm) h2⟩
 | .tup c,v,hm,hr=>by
  rw[Rep] at hr
  obtain⟨cs,h1,h2⟩:=hr
  rw[DV,Rep]
  exact⟨cs,h1,Reps.clean hn (by simpa[H4] using hm) h2⟩
 | .fn f c,v,hm,hr=>by
  rw[Rep] at hr
  obtain⟨cs,h1,h2⟩:=hr
  rw[DV,Rep]
  exact⟨cs,h1,Reps.clean hn (by simpa[H4] using hm) h2⟩
 | .pagg c o,v,hm,hr=>by show Rep J _ _ w (.pagg c o) v;rw[Rep] at hr ⊢;exact hr
 | .undef,v,hm,hr=>by show Rep J _ _ w (.undef) v;rw[Rep] at hr ⊢;exact hr
 | .imm c n sz t o,v,hm,hr=>by show Rep J _ _ w (.imm c n sz t o) v;rw[Rep] at hr ⊢;exact hr
 | .iptr c o,v,hm,hr=>by show Rep J _ _ w (.iptr c o) v;rw[Rep] at hr ⊢;exact hr
 | .int k n,v,hm,hr=>by show Rep J _ _ w (.int k n) v;rw[Rep] at hr ⊢;exact hr
 | .bool b,v,hm,hr=>by show Rep J _ _ w (.bool b) v;rw[Rep] at hr ⊢;exact hr
 | .str s,v,hm,hr=>by show Rep J _ _ w (.str s) v;rw[Rep] at hr ⊢;exact hr
 | .nsl,v,hm,hr=>by show Rep J _ _ w (.nsl) v;rw[Rep] at hr ⊢;exact hr
 | .nilptr,v,hm,hr=>by show Rep J _ _ w (.nilptr) v;rw[Rep] at hr ⊢;exact hr
 | .nilfn,v,hm,hr=>by show Rep J _ _ w (.nilfn) v;rw[Rep] at hr ⊢;exact hr
theorem Reps.clean (hn:(ids.map M4).Nodup):∀ {c:List AV} {cs:List Value},A3j (Am h) ids (J7 c)→Reps J β h w c cs →
  Reps J (fun c=>(wa ids c).bind β) (DW (Am h) ids) w (Ly (Am h) c) cs
 | [],cs,hm,hr=>by rw[Reps] at hr;rw[Ly,Reps];exact hr
 | x::r,cs,hm,hr=>by
  rw[Reps] at hr
  obtain⟨u,us,h1,h2,h3⟩:=hr
  rw[Ly,Reps]
  exact⟨u,us,h1,Rep.clean hn (fun b hb=>hm b (by simp[J7,hb])) h2,Reps.clean hn (fun b hb=>hm b (by simp[J7,hb])) h3⟩
end
theorem GJ {g:Bk} {K:List Nat}:∀ {s:H3} {i:Nat},Gw (pO g K s) i=if J8 K i=true then DV g (Gw s i) else .undef
 | [],i=>by
  simp only[pO,Gw]
  show AV.undef=if J8 K i=true then AV.undef else AV.undef
  split<;>rfl
 | (t,v)::r,i=>by
  rw[pO,Gw]
  cases b:J8 K t with
  | true =>
   simp only[cond_true,Gw]
   cases hi:Nat.beq t i with
   | true =>
    have:=Nat.eq_of_beq_eq_true hi;subst this
    simp[b]
   | false=>simp only[cond_false];exact GJ
  | false =>
   simp only[cond_false]
   rw[GJ]
   cases hi:Nat.beq t i with
   | true =>
    have:=Nat.eq_of_beq_eq_true hi;subst this
    simp[b]
   | false=>rfl
theorem wb {K:List Nat}:∀ {s:H3} {i:Nat},J8 K i=true→∀ b ∈ H4 (Gw s i),b ∈ wI K s
 | [],i,_,b,c=>by simp[Gw,H4] at c
 | (t,v)::r,i,d,b,c=>by
  rw[Gw] at c
  rw[wI]
  cases hi:Nat.beq t i with
  | true =>
   have:=Nat.eq_of_beq_eq_true hi;subst this
   rw[hi] at c
   rw[d];simp at c ⊢;exact .inl c
  | false =>
   rw[hi] at c
   have:=wb d b c
   cases J8 K t
   ·exact this
   ·simp;exact .inr this
theorem pX {g:Bk}:∀ {ids:List Nat} {b:Nat} {x:Blk},b ∈ ids→g b=some x→x.pure=false→∀ c ∈ J7 x.cells,c ∈ M3 g ids
 | [],b,x,d,_,_,_,_=>by simp at d
 | i::r,b,x,d,f,j,c,k=>by
  rw[M3]
  by_cases e:b=i
  ·subst e;rw[f];simp only[j,cond_false];exact List.mem_append.2 (.inl k)
  ·exact List.mem_append.2 (.inr (pX (by simpa[e] using d) f j c k))
theorem pY:∀ {c:LA} {j:Nat} {x:AV},c[j]?=some x→∀ b ∈ H4 x,b ∈ J7 c
 | [],j,x,d,_,_=>by simp at d
 | y::r,j,x,d,b,e=>by
  rw[J7]
  cases j with
  | zero=>simp at d;subst d;exact List.mem_append.2 (.inl e)
  | succ j=>exact List.mem_append.2 (.inr (pY (by simpa using d) b e))
theorem qy {g:Bk}:∀ {c:LA} {j:Nat} {y:AV},(Ly g c)[j]?=some y→∃ x,c[j]?=some x∧y=DV g x
 | [],j,y,b=>by simp[Ly] at b
 | x::r,j,y,b=>by
  rw[Ly] at b
  cases j with
  | zero=>simp at b;exact⟨x,by simp,b.symm⟩
  | succ j=>obtain⟨x',d,e⟩:=qy (c:=r) (j:=j) (by simpa using b);exact⟨x',by simpa using d,e⟩
theorem Axm {b:Nat} (c:b<Ir):M4 b=b:=by
 unfold M4
 have:Nat.ble Ir b=false:=by
  cases h:Nat.ble Ir b with
  | false=>rfl
  | true=>have:=Nat.le_of_ble_eq_true h;omega
 rw[this];rfl
theorem Amx {K roots:List Nat} {st':St} (I:Inv Z nt J β st a w) (hh:clean K roots st=some st'):∃ β',Inv Z nt J β' st' a w:=by
 unfold clean at hh
 obtain⟨hc,h1⟩:_∧_:=uc hh
 simp only[Bool.and_eq_true] at hc
 obtain⟨c1,c2,c3,c4⟩:=hc
 generalize hids:GG (Am st.h) (DU (Am st.h) (wI K st.s++roots))=ids at *
 simp at h1
 have hn:=V4 c1
 have blk:∀ c y,Am (DW (Am st.h) ids) c=some y→∃ b x,b ∈ ids∧M4 b=c∧Am st.h b=some x∧x.dead=false∧y=Ol (Am st.h) x:=by
  intro c y m
  obtain⟨b,x,t,z,D,F⟩:=jW hn c y m
  have e:Am st.h b=some x∧x.dead=false:=Ej (fun _ _ h=>h) D
  exact⟨b,x,t,z,e.1,e.2,F⟩
 have n:∀ x:Blk,(Ol (Am st.h) x).cells.length=x.cells.length:=fun x=>by
  unfold Ol;cases x.pure
  ·simp;exact DZ _ _
  ·rfl
 refine⟨fun c=>(wa ids c).bind β,?_⟩
 subst h1
 refine⟨⟨I.sim.jlt,I.sim.jft,I.sim.gl,fun c y m T V=>?_,fun c y m T V=>by
   obtain⟨b,x,f,rfl,e,d,rfl⟩:=blk c y m
   obtain⟨t,z,k,ob,D,F,U,X⟩:=I.sim.mblk b x e d V
   have:(Ol (Am st.h) x).cells=x.cells:=by unfold Ol;rw[t];rfl
   exact⟨t,z,k,ob,by simp only[Ni hn f,Option.bind_some];exact D,F,by rw[ObjIs,show(Ol (Am st.h) x).sz=x.sz from rfl,this];exact U,X⟩,?_⟩,⟨fun i v hv=>?_,fun i hi=>?_⟩,I.tmps,I.defers,I.os,I.tape,I.output,I.size,I.frame,?_,I.jsub,I.jup,I.sizes,I.zlt,I.zge,?_⟩
 ·obtain⟨b,x,f,rfl,e,d,rfl⟩:=blk c y m
  rcases I.sim.blk b x e d V with⟨t,z⟩ | ⟨k,o,cs,ty,fr,t,z,D,F,U,X,g7⟩
  ·refine .inl ⟨by simp only[Ni hn f,Option.bind_some];exact t,?_⟩
   have:=n x;rw[z] at this;simpa using this
  ·refine .inr ⟨k,o,cs,ty,fr,by simp only[Ni hn f,Option.bind_some];exact t,z,D,by rw[n];exact F,⟨fun Y=>?_,fun Y j q hj=>?_⟩,X,g7⟩
   ·have l:x.pure=true:=Y
    have:(Ol (Am st.h) x).cells=x.cells:=by unfold Ol;rw[l];rfl
    rw[this];exact U.1 l
   ·have l:x.pure=false:=Y
    have:(Ol (Am st.h) x).cells=Ly (Am st.h) x.cells:=by unfold Ol;rw[l];rfl
    rw[this] at hj
    obtain⟨q',hq,rfl⟩:=qy hj
    obtain⟨u,hu,hr,ho⟩:=U.2 l j q' hq
    exact⟨u,hu,Rep.clean hn (fun G A x' C=>pW c3 G (pX f e l G (pY hq G A)) x' C) hr,ho⟩
 ·intro c c' y y' k o o' m hy' T hd' hs L M
  obtain⟨b,x,f,rfl,e,d,rfl⟩:=blk c y m
  obtain⟨G,x',A,rfl,C,O,rfl⟩:=blk c' y' hy'
  simp only[Ni hn f,Option.bind_some] at L
  simp only[Ni hn A,Option.bind_some] at M
  rw[I.sim.sep b G x x' k o o' e C d O hs L M]
 ·rw[GJ]
  split
  ·rename_i hk
   exact Rep.clean hn (fun b f x e=>pW c2 b (wb hk b f) x e) (I.ss.slot i v hv)
  ·rw[Rep];trivial
 ·rw[GJ,I.ss.out i hi]
  split
  ·rfl
  ·rfl
 ·rintro k ⟨c,y,o,m,T,hs,L⟩ hk
  obtain⟨b,x,f,rfl,e,d,rfl⟩:=blk c y m
  simp only[Ni hn f,Option.bind_some] at L
  exact I.wr k ⟨b,x,o,e,d,hs,L⟩ hk
 ·intro c x0 y h0 m T
  obtain⟨b,x,f,rfl,e,d,rfl⟩:=blk c y m
  have hlt:=I.zlt _ _ h0
  have hge:=I.zge _ _ h0
  have S:M4 b=b:=by
   by_cases hnb:Ir≤b
   ·have:=Amw c4 b f hnb;omega
   ·exact Axm (by omega)
  rw[S] at h0
  obtain⟨⟨e1,em⟩,e2,e3,e4⟩:=I.outs b x0 x h0 e d
  refine⟨⟨?_,em⟩,e2,by rw[n];exact e3,e4⟩
  simp only[Ni hn f,Option.bind_some];rw[S];exact e1
end
end Gx

namespace Gx
open Go
section
variable {R:Type}
theorem Ao {α β:Type} (b:Bool) (x y:Option α) (f:α→Option β):(cond b x y).bind f=cond b (x.bind f) (y.bind f):=by cases b<;>rfl
theorem PL {R':Type} (P:Program) (t:TypeId) (c:LA) (o:Bool) (k:Bool→Option R') (f:R'→O R):(BM P t c o k).bind f=BM P t c o fun o=>(k o).bind f:=by
 unfold BM;simp only[Ao,Option.bind_none]
theorem V5 (P:Program) (t:TypeId) (c:LA) (org:Bool) (k:AV→O R):XC P t c org k=(XC P t c org some).bind k:=by
 unfold XC
 split<;>simp[Option.bind_assoc,Ao,PL]<;>rfl
theorem Ash (P:Program) (t:TypeId) (c:LA) (k:AV→O R):qn P t c k=(qn P t c some).bind k:=by
 unfold qn
 split<;>simp[Option.bind_assoc,Ao]
theorem qz (n:Nat) (k:AV→O R):∀ (c:LA) (i:Nat),OY n k c i=(OY n some c i).bind k
 | [],_=>rfl
 | v::r,i=>by rw[OY,OY,Ao,qz n k r (i+1)];rfl
theorem rA (P:Program) (t:TypeId) (c:LA) (off:Nat) (k:AV→O R):XD P t c off k=(XD P t c off some).bind k:=by
 unfold XD
 split
 ·simp[Option.bind_assoc,Ao]
 ·simp[Option.bind_assoc,Ao]
 ·exact qz ..
 ·rfl
theorem PM (P:Program) (g:Bk) (t:TypeId) (p:AV) (k:AV→O R):wC P g t p k=(wC P g t p some).bind k:=by
 unfold wC
 split
 ·exact V5 ..
 ·rw[Option.bind_assoc]
  congr 1;funext x
  rw[Ao,←V5,←rA]
 ·rfl
theorem SN (P:Program) (t:TypeId) (x i:AV) (k:AV→O R):Vx P t x i k=(Vx P t x i some).bind k:=by
 unfold Vx
 split<;>simp[Option.bind_assoc,Ao]
theorem SO (P:Program) (t:TypeId) (x:AV) (f:Nat) (k:AV→O R):Vy P t x f k=(Vy P t x f some).bind k:=by
 unfold Vy
 simp only[Option.bind_assoc,Ao]
 congr 1;funext p;congr 1;funext n;congr 1
 split<;>rfl
theorem rB (P:Program) (t:TypeId) (x:AV) (f:Nat) (k:AV→O R):pD P t x f k=(pD P t x f some).bind k:=by
 unfold pD
 rw[Option.bind_assoc]
 congr 1;funext p
 split
 ·exact V5 ..
 ·exact Ash ..
 ·rfl
theorem rC (P:Program) (t:TypeId) (x i:AV) (k:AV→O R):pE P t x i k=(pE P t x i some).bind k:=by
 unfold pE
 split
 ·simp[Ao]
 ·simp only[Option.bind_assoc,Ao,←V5];rfl
 ·simp only[Option.bind_assoc,Ao,←rA];rfl
 ·rfl
theorem BR {α:Type} (lo hi mx:Option AV) (n:Nat) (f:Nat→Nat→α) (k:α→O R):(BN lo hi mx n fun l h=>k (f l h))=(BN lo hi mx n fun l h=>some (f l h)).bind k:=by
 unfold BN
 simp[Option.bind_assoc,Ao]
theorem rD (P:Program) (g:Bk) (t:TypeId) (x:AV) (lo hi mx:Option AV) (k:AV→O R):pF P g t x lo hi mx k=(pF P g t x lo hi mx some).bind k:=by
 unfold pF
 split
 ·rw[Ao,←BR];rfl
 ·rw[Option.bind_assoc];congr 1;funext _;exact BR lo hi mx 0 (fun _ _=>AV.nsl) k
 ·rw[Option.bind_assoc];congr 1;funext _;rw[Ao,←BR];rfl
 ·rw[Option.bind_assoc];congr 1;funext _;rw[Option.bind_assoc];congr 1;funext _;rw[Ao,←BR];rfl
 ·rfl
theorem Axn (P:Program) (t:TypeId) (op:BinOp) (x y:AV) (k:AV→O R):Axb P t op x y k=(Axb P t op x y some).bind k:=by
 unfold Axb
 split
 ·split<;>simp[Ao]
 ·split<;>simp[Ao]
 ·split<;>simp[Ao]
 ·rfl
def pr (v:AV) (u:Fp):Option (AV×Fp):=some (v,u)
theorem Amy (P:Program) (g:Bk) (t:TypeId) (p v:AV) (k:AV→Fp→O R):pG P g t p v k=(pG P g t p v pr).bind fun q=>k q.1 q.2:=by
 unfold pG
 split
 ·simp only[Option.bind_assoc,Ao]
  congr 1;funext x;congr 1;funext n;congr 1;congr 1
  split<;>simp[Ao,pr]
 ·rfl
theorem jY (P:Program) (c:LA) (org:Bool):∀ (L:List (Nat×TypeId)) (b:LA) (k:LA→O R),kF P c org L b k=(kF P c org L b some).bind k
 | [],b,k=>rfl
 | (off,t)::L,b,k=>by
  rw[kF,kF,Ao]
  congr 1
  rw[V5,V5 (k:=fun v=>kF P c org L (b++[v]) some),Option.bind_assoc]
  congr 1;funext v
  exact jY P c org L _ k
theorem rE (P:Program) (co:Bool) (t:TypeId) (v:AV) (k:AV→O R):pI P co t v k=(pI P co t v some).bind k:=by
 unfold pI
 split
 ·rename_i c org
  rw[jY,jY (k:=fun l=>cond (Nat.beq c.length l.length) (some (AV.agg l)) none),Option.bind_assoc]
  congr 1;funext l
  rw[Ao];rfl
 ·rfl
theorem Ae4 (P:Program) (g:Bk) (d:Nat) (t:TypeId) (v:AV) (k:AV→Fp→O R):Al9 P g d t v k=(Al9 P g d t v pr).bind fun q=>k q.1 q.2:=by
 unfold Al9
 split<;>simp[Option.bind_assoc,Ao,pr]
theorem pZ (P:Program) (g:Bk) (d:Nat) (t:TypeId) (len:Nat) (ps:List (Nat×AV)) (k:AV→Fp→O R):Sy P g d t len ps k=(Sy P g d t len ps pr).bind fun q=>k q.1 q.2:=by
 unfold Sy
 split<;>simp[Option.bind_assoc,Ao,pr,LH]
theorem ui (P:Program) (g:Bk) (d:Nat) (t:TypeId) (len:Nat) (ps:List (Nat×AV)) (k:AV→Fp→O R):Vz P g d t len ps k=(Vz P g d t len ps pr).bind fun q=>k q.1 q.2:=by
 unfold Vz
 split<;>simp[Option.bind_assoc,Ao,pr]
theorem Axo (P:Program) (t:TypeId) (co:Bool) (d:Nat) (v:AV) (k:AV→Fp→O R):Axc P t co d v k=(Axc P t co d v pr).bind fun q=>k q.1 q.2:=by
 unfold Axc
 split<;>simp[Ao,pr]
theorem Asi (P:Program) (d:Nat) (t:TypeId) (l c:AV) (k:AV→Fp→O R):Aes P d t l c k=(Aes P d t l c pr).bind fun q=>k q.1 q.2:=by
 unfold Aes
 split<;>simp[Option.bind_assoc,Ao,pr]
theorem Aie (P:Program) (g:Bk) (d:Nat) (t tx:TypeId) (s x:AV) (k:AV→Fp→O R):dI P g d t tx s x k=(dI P g d t tx s x pr).bind fun q=>k q.1 q.2:=by
 unfold dI jN
 split<;>simp[Option.bind_assoc,Ao,pr,PL]
theorem Asj (P:Program) (g:Bk) (t:TypeId) (s x:AV) (k:AV→Fp→O R):Aet P g t s x k=(Aet P g t s x pr).bind fun q=>k q.1 q.2:=by
 unfold Aet jN
 split<;>simp[Option.bind_assoc,Ao,pr,PL]
theorem Aif (P:Program) (g:Bk) (d:Nat) (t:TypeId) (k:AV→Fp→O R):dH P g d t k=(dH P g d t pr).bind fun q=>k q.1 q.2:=by
 unfold dH
 split<;>simp[Ao,pr]
theorem Amz (P:Program) (g:Bk) (t:TypeId) (s:AV) (k:AV→Fp→O R):pJ P g t s k=(pJ P g t s pr).bind fun q=>k q.1 q.2:=by
 unfold pJ
 split<;>simp[Option.bind_assoc,Ao,pr]
theorem Ask (P:Program) (g:Bk) (d:Nat) (src dst:TypeId) (x:AV) (k:AV→Fp→O R):Aeu P g d src dst x k=(Aeu P g d src dst x pr).bind fun q=>k q.1 q.2:=by
 unfold Aeu
 split
 ·split<;>simp[Ao,pr]
 ·split
  ·split<;>simp[pr]
  ·split
   ·split<;>simp[Option.bind_assoc,pr]
   ·rfl
  ·rfl
 ·split
  ·rw[Ao,Option.bind_assoc];simp only[Ao];rfl
  ·rfl
  ·rfl
 ·rfl
theorem Am0 (P:Program) (g:Bk) (d:Nat) (src dst:TypeId) (x:AV) (k:AV→Fp→O R):pK P g d src dst x k=(pK P g d src dst x pr).bind fun q=>k q.1 q.2:=by
 unfold pK
 split
 ·split
  ·simp only[Option.bind_assoc,Ao];rfl
  ·rfl
 ·split
  ·simp only[Option.bind_assoc,Ao];rfl
  ·rfl
 ·exact Ask ..
theorem uj (g:Bk) (x:AV) (k:AV→Fp→O R):V0 g x k=(V0 g x pr).bind fun q=>k q.1 q.2:=by
 unfold V0
 split
 ·rfl
 ·simp only[Option.bind_assoc,Ao];rfl
 ·rfl
theorem uk (P:Program) (g:Bk) (t:TypeId) (x n:AV) (k:AV→Fp→O R):V1 P g t x n k=(V1 P g t x n pr).bind fun q=>k q.1 q.2:=by
 unfold V1
 split
 ·rw[Ao];rfl
 ·simp only[Option.bind_assoc]
  congr 1;funext y;congr 1;funext q
  split
  ·simp only[Option.bind_assoc,Ao];rfl
  ·rfl
 ·rfl
theorem jZ {R':Type} {f:R'→O R} {s1:TypeId→LA→LA→(Bool→Option R')→Option R'} {s2:TypeId→LA→LA→(Bool→O R)→O R} (hs:∀ t x y k,(s1 t x y k).bind f=s2 t x y fun b=>(k b).bind f) {x y:LA} :
  ∀ (l:List (Nat×TypeId)) (k:Bool→Option R'),(KY s1 x y l k).bind f=KY s2 x y l fun b=>(k b).bind f
 | [],k=>rfl
 | (o,t)::r,k=>by
  rw[KY,KY,hs]
  congr 1;funext b
  exact jZ hs r _
theorem dQ {R':Type} {f:R'→O R} (P:Program):∀ (d:Nat) (t:TypeId) (x y:LA) (k:Bool→Option R'),(uf P d t x y k).bind f=uf P d t x y fun b=>(k b).bind f
 | 0,t,x,y,k=>rfl
 | d+1,t,x,y,k=>by
  rw[uf,uf]
  split<;>simp only[Option.bind_assoc,Ao,Option.bind_none]
  ·congr 1;funext sz;rw[jZ (dQ P d)]
  ·congr 1;funext s;congr 1;funext sz;rw[jZ (dQ P d)]
theorem Asl (P:Program) (t:TypeId) (op:BinOp) (x y:AV) (k:AV→O R):Aeq P t op x y k=(Aeq P t op x y some).bind k:=by
 unfold Aeq
 split
 ·rw[Option.bind_assoc]
  congr 1;funext s
  rw[Ao]
  congr 1
  split
  ·rw[dQ];rfl
  ·rw[dQ];rfl
  ·rfl
 ·exact Axn ..
theorem wc (P:Program) (g:Bk) (t:TypeId) (op:BinOp) (x y:AV) (k:AV→O R):Aex P g t op x y k=(Aex P g t op x y some).bind k:=by
 unfold Aex
 split
 ·rw[Ao];congr 1;split<;>rfl
 ·exact Asl ..
theorem wd (c x y:AV) (k:AV→O R):Aez c x y k=(Aez c x y some).bind k:=by
 unfold Aez
 split<;>first | rfl | (rw[Ao];rfl)
theorem Am1 (P:Program) (g:Bk) (co:Bool) (d:Nat) (t:TypeId) (k:AV→Fp→O R):pH P g co d t k=(pH P g co d t pr).bind fun q=>k q.1 q.2:=by
 unfold pH
 split
 ·rw[Option.bind_assoc];rfl
 ·exact Ae4 ..
 ·rfl
theorem wg:∀ (T:List (Nat×Tw)) (f:Nat) (b:LA) (h:Aj) (k:AV→Aj→O R),kG T f b h k=(kG T f b h fun v h'=>some (v,h')).bind fun p=>k p.1 p.2
 | [],f,b,h,k=>rfl
 | (g,t)::r,f,b,h,k=>by
  rw[kG,kG]
  cases Nat.beq g f
  ·exact wg r f b h k
  ·exact t.eq b h k
theorem Asm (E:Env) (g:Bk) (d f:Nat) (b:LA) (k:AV→Fp→O R):Aey E g d f b k=(Aey E g d f b pr).bind fun q=>k q.1 q.2:=by
 unfold Aey
 rw[Option.bind_assoc]
 congr 1;funext q
 simp only[Ao,Option.bind_none]
 congr 1
 rw[wg,wg (R:=AV×Fp),Option.bind_assoc]
 congr 1;funext p
 simp only[Ao,Option.bind_none,pr,Option.bind_some]
theorem Abw (d:Nat) (o:Option AV) (k:AV→Fp→O R):DT d o k=(DT d o pr).bind fun q=>k q.1 q.2:=by
 unfold DT
 split<;>rfl
theorem Am2 (P:Program) (g:Bk) (t:TypeId) (m x y:AV) (k:AV→Fp→O R):pL P g t m x y k=(pL P g t m x y pr).bind fun q=>k q.1 q.2:=by
 unfold pL
 split<;>simp[Ao,Option.bind_assoc,pr]
theorem Am3 (P:Program) (d:Nat) (t:TypeId) (x:AV) (k:AV→Fp→O R):pM P d t x k=(pM P d t x pr).bind fun q=>k q.1 q.2:=by
 unfold pM
 split<;>rfl
theorem Asn (g:Bk) (it:AV) (b:Bool) (k:AV→Fp→O R):Aew g it b k=(Aew g it b pr).bind fun q=>k q.1 q.2:=by
 unfold Aew
 split
 ·rw[Option.bind_assoc];congr 1;funext x
  rw[Ao];congr 1
  split
  ·rename_i s p _
   cases decide (p<(s.length:Int))<;>rfl
  ·rfl
 ·rfl
theorem wh (P:Program) (g:Bk) (t:TypeId) (m x:AV) (c:Bool) (k:AV→O R):Aev P g t m x c k=(Aev P g t m x c some).bind k:=by
 unfold Aev
 split<;>simp[Ao,Option.bind_assoc]
theorem Axp (E:Env) (g:Bk) (d:Nat) (v:Operand→AV) (o:Op) (k:AV→Fp→O R):Abr E g d v o k=(Abr E g d v o pr).bind fun q=>k q.1 q.2:=by
 unfold Abr
 split
 ·rfl
 ·rfl
 ·rw[wd,wd (k:=fun r=>pr r []),Option.bind_assoc];rfl
 ·rw[Ao,←Aif,←Am1]
 ·rw[rE,rE (k:=fun u=>Al9 E.P g d _ u pr),Option.bind_assoc];congr 1;funext u;exact Ae4 ..
 ·rw[jS,jS,Option.bind_assoc];congr 1;funext x;exact Axo ..
 ·rw[Ao,←ui,←pZ]
 ·rw[PM,PM (k:=fun r=>pr r []),Option.bind_assoc];rfl
 ·exact Amy ..
 ·split<;>rfl
 ·rw[wc,wc (k:=fun r=>pr r []),Option.bind_assoc];rfl
 ·rw[Option.bind_assoc];rfl
 ·exact Am0 ..
 ·rw[Ao];rfl
 ·exact Asi ..
 ·rw[rD,rD (k:=fun r=>pr r []),Option.bind_assoc];rfl
 ·rw[SO,SO (k:=fun r=>pr r []),Option.bind_assoc];rfl
 ·rw[rB,rB (k:=fun r=>pr r []),Option.bind_assoc];rfl
 ·rw[SN,SN (k:=fun r=>pr r []),Option.bind_assoc];rfl
 ·rw[rC,rC (k:=fun r=>pr r []),Option.bind_assoc];rfl
 ·exact Abw ..
 ·exact Am2 ..
 ·rw[wh,wh (k:=fun r=>pr r []),Option.bind_assoc];rfl
 ·exact Am3 ..
 ·exact Asn ..
 ·split
  ·rw[Option.bind_assoc];rfl
  ·rfl
 ·split
  ·split
   ·rw[Option.bind_assoc];rfl
   ·rfl
  ·split
   ·exact Aie ..
   ·rfl
  ·split
   ·exact Asj ..
   ·rfl
  ·split
   ·exact Amz ..
   ·rfl
  ·split
   ·rw[Option.bind_assoc];rfl
   ·simp only[Option.bind_assoc];rfl
   ·rfl
  ·split
   ·rw[Option.bind_assoc];rfl
   ·simp only[Option.bind_assoc];rfl
   ·rfl
  ·split
   ·exact uj ..
   ·rfl
  ·split
   ·exact uk ..
   ·rfl
  ·split
   ·rw[Ao,←Asm,Ao];congr 1;congr 1
    split<;>rfl
   ·rfl
  ·rfl
 ·rfl
end
end Gx

namespace Gx
open Go
theorem LJ:∀ {l c:List Nat} {b:Nat},b ∈ qq l c↔b ∈ l∨b ∈ c
 | [],c,b=>by simp[qq]
 | i::r,c,b=>by
  rw[qq]
  cases d:J8 c i with
  | true =>
   simp only[cond_true]
   rw[LJ]
   have:=M5.1 d
   constructor
   ·rintro(h | h)
    ·exact .inl (by simp[h])
    ·exact .inr h
   ·rintro(h | h)
    ·rcases List.mem_cons.1 h with e | h
     ·subst e;exact .inr this
     ·exact .inl h
    ·exact .inr h
  | false =>
   simp only[cond_false]
   rw[LJ]
   simp only[List.mem_cons]
   constructor
   ·rintro(h | h | h)
    ·exact .inl (.inr h)
    ·exact .inl (.inl h)
    ·exact .inr h
   ·rintro((h | h) | h)
    ·exact .inr (.inl h)
    ·exact .inl h
    ·exact .inr (.inr h)
theorem GK {g g':Bk}:∀ {l:List Nat},(∀ b ∈ l,g' b=g b)→M3 g' l=M3 g l
 | [],_=>rfl
 | i::r,h=>by
  rw[M3,M3,h i (by simp),GK (fun b c=>h b (by simp[c]))]
theorem kR {g:Bk}:∀ {a b:List Nat},M3 g (a++b)=M3 g a++M3 g b
 | [],b=>rfl
 | i::r,b=>by rw[List.cons_append,M3,M3,kR,List.append_assoc]
theorem Am4 {g g':Bk} {ids:List Nat} (h:∀ b ∈ DU g ids,g' b=g b):DU g' ids=DU g ids:=by
 have d:∀ b ∈ ids,g' b=g b:=fun b c=>h b (LJ.2 (.inl (List.mem_append.2 (.inl c))))
 have e1:M3 g' ids=M3 g ids:=GK d
 have e:∀ b ∈ M3 g ids,g' b=g b:=fun b c=>h b (LJ.2 (.inl (List.mem_append.2 (.inr (by rw[kR];exact List.mem_append.2 (.inl c))))))
 unfold DU
 rw[e1,GK (l:=ids++M3 g ids) (fun b c=>by
  rcases List.mem_append.1 c with c | c
  ·exact d b c
  ·exact e b c)]
section
variable {R:Type} {E:Env} {ops:Array Oper} {o p:Oper} {st Awf st2:St}
theorem rF {v v':Operand→AV} {parts:Array (Nat×Operand)} (h:∀ q ∈ parts.toList,v' q.2=v q.2):(parts.toList.map fun q=>(q.1,v' q.2))=(parts.toList.map fun q=>(q.1,v q.2)) :=
 List.map_congr_left (fun q hq=>by rw[h q hq])
theorem Aso {g:Bk} {d:Nat} {v v':Operand→AV} {op:Op} {k:AV→Fp→O R} (h:∀ x ∈ op.operands.toList,v' x=v x):Abr E g d v' op k=Abr E g d v op k:=by
  unfold Abr
  cases op
  case build t parts =>
    simp only
    rw[rF (v:=v) (v':=v') (fun q hq=>h q.2 (by simp[Op.operands];exact⟨q.1,by simpa using hq⟩))]
  case buildSlice t n parts =>
    simp only
    rw[rF (v:=v) (v':=v') (fun q hq=>h q.2 (by simp[Op.operands];exact⟨q.1,by simpa using hq⟩))]
  case slice t x lo hi mx =>
    simp only
    have e:v' x=v x:=h x (by simp[Op.operands])
    have l:lo.map v'=lo.map v:=by
      cases lo with
      | none=>rfl
      | some y=>simp;exact h y (by simp[Op.operands])
    have m:hi.map v'=hi.map v:=by
      cases hi with
      | none=>rfl
      | some y=>simp;exact h y (by simp[Op.operands])
    have s:mx.map v'=mx.map v:=by
      cases mx with
      | none=>rfl
      | some y=>simp;exact h y (by simp[Op.operands])
    rw[e,l,m,s]
  case makeMap t rr =>
    simp only
    have e:rr.map v'=rr.map v:=by
      cases rr with
      | none=>rfl
      | some y=>simp;exact h y (by simp[Op.operands])
    rw[e]
  case makeFunc f first caps =>
    cases f<;>try rfl
    simp only
    have:(first.toList++caps.toList).map v'=(first.toList++caps.toList).map v:=List.map_congr_left (fun x j=>h x (by simp[Op.operands];simpa using j))
    rw[this]
  case call c =>
    have i:∀ x ∈ c.args.toList,v' x=v x:=fun x j=>h x (by
      simp only[Op.operands,Call.operands,Array.toList_append]
      exact List.mem_append.2 (.inr j))
    have u:c.args.toList.map v'=c.args.toList.map v:=List.map_congr_left i
    simp only
    cases z:c.callee with
    | value f =>
      have A:v' f=v f:=h f (by simp[Op.operands,Call.operands,z])
      simp only[A,u]
    | invoke a b=>rfl
    | builtin b =>
      cases b<;>try rfl
      all_goals
        simp only
        split
        · first
            | (rename_i e l
               simp only[e,List.mem_cons,List.not_mem_nil,or_false,forall_eq_or_imp,forall_eq] at i
               simp only[i])
            | (rename_i e
               simp only[e,List.mem_cons,List.not_mem_nil,or_false,forall_eq_or_imp,forall_eq] at i
               simp only[i])
        all_goals first
          | rfl
          | (rename_i e
             simp only[e,List.mem_cons,List.not_mem_nil,or_false,forall_eq_or_imp,forall_eq] at i
             simp only[i])
  all_goals first
    | rfl
    | (simp[Op.operands] at h;simp[h])
end
end Gx

namespace Gx
open Go
section
variable {R:Type} {E:Env} {ops:Array Oper} {o p:Oper} {st Awf st2 st3:St}
def Awg (ops:Array Oper) (o:Oper):List Nat:=match dJ ops o with | some p=>[p.1] | none=>[]
def JP (o:Oper) (s:H3):LA:=o.op.operands.toList.map (ev s)
def Aig (h:Aj) (F:List Nat):Bk:=fun b=>cond (J8 F b) (Am h b) none
def A6g (o:Oper):Nat:=o.dst.getD 50000
def Vf (E:Env) (ops:Array Oper) (o:Oper) (st:St):Option (AV×Fp×Foot) :=
  (O' ops st.s o).bind fun wanted=>cond wanted
    ((Abr E (Aig st.h (Z2 st.h o.op (JP o st.s))) (A6g o) (ev st.s) o.op pr).bind fun q =>
      cond (fU (A6g o) (Z2 st.h o.op (JP o st.s)) st.h q.2) (some (q.1,q.2,{ r:=Awg ops o++jQ o.op.operands.toList,w:=o.dst,f:=Z2 st.h o.op (JP o st.s),u:=q.2.map (·.1) })) none)
    (some (.tup [],[],{ r:=Awg ops o,w:=o.dst,f:=[],u:=[] }))
def after (E:Env) (o:Oper) (st:St) (q:AV×Fp×Foot):St:={ s:=Ar4 E.nt st.s o.dst q.1,h:=Al q.2.1 st.h }
theorem dR (k:St→Foot→O R):Amc E ops o st k=(Vf E ops o st).bind fun q=>k (after E o st q) q.2.2:=by
 unfold Amc Vf
 rw[Option.bind_assoc]
 congr 1;funext t
 rw[Ao]
 congr 1
 rw[Axp,Option.bind_assoc]
 congr 1;funext q
 rw[Ao]
 rfl
theorem wi:∀ {l:List Operand} {t:Nat},Operand.tmp t ∈ l→t ∈ jQ l
 | [],t,h=>by simp at h
 | x::r,t,h=>by
  rcases List.mem_cons.1 h with e | h'
  ·subst e;simp[jQ]
  ·have b:=wi h'
   cases x<;>simp[jQ]<;>first | exact .inr b | exact b
theorem rG {d:Nat} {F:List Nat} {h e:Aj}:∀ {ups:Fp},(∀ b ∈ ups.map (·.1),Am e b=Am h b)→fU d F e ups=fU d F h ups
 | [],_=>rfl
 | (b,_)::r,f=>by rw[fU,fU,f b (by simp),rG (fun c i=>f c (by simp at i ⊢;exact .inr i))]
theorem f4 {s s2:H3} (h:∀ t ∈ Awg ops o,Gw s2 t=Gw s t):O' ops s2 o=O' ops s o:=by
 unfold O'
 cases b:o.guard with
 | none=>rfl
 | some q =>
  obtain⟨j,want⟩:=q
  simp only
  cases c:(ops[j]?).bind (·.dst) with
  | none=>rfl
  | some t =>
   have:Gw s2 t=Gw s t:=h t (by simp[Awg,dJ,b,c])
   simp only[this]
theorem XS {q:AV×Fp×Foot} (k:Vf E ops o st=some q) (hr:∀ t ∈ q.2.2.r,Gw st2.s t=Gw st.s t) (c:∀ b,b ∈ q.2.2.f∨b ∈ q.2.2.u→Am st2.h b=Am st.h b):Vf E ops o st2=some q:=by
 have z:=k
 unfold Vf at k
 obtain⟨t,i,j⟩:=ub k
 cases t with
 | false =>
  simp at j;subst j
  unfold Vf
  rw[f4 (s:=st.s) hr,i];rfl
 | true =>
  rw[cond_true] at j
  obtain⟨x,A,C⟩:=ub j
  obtain⟨D,n⟩:=uc C
  simp at n;subst n
  simp only at hr c
  have v:∀ y ∈ o.op.operands.toList,ev st2.s y=ev st.s y:=fun y F=>by
   cases y with
   | tmp t=>exact hr t (List.mem_append.2 (.inr (wi F)))
   | const _=>rfl
   | global _=>rfl
   | func _=>rfl
  have d:JP o st2.s=JP o st.s:=List.map_congr_left v
  have hF:Z2 st2.h o.op (JP o st.s)=Z2 st.h o.op (JP o st.s):=by
   unfold Z2 at c ⊢
   cases l:Av8 o.op with
   | true =>
    rw[l] at c
    cases m:Av9 o.op with
    | true=>rfl
    | false=>rw[m] at c;exact Am4 (fun b e=>c b (.inl e))
   | false=>rfl
  have G:Aig st2.h (Z2 st.h o.op (JP o st.s))=Aig st.h (Z2 st.h o.op (JP o st.s)):=by
   funext b
   unfold Aig
   cases e:J8 (Z2 st.h o.op (JP o st.s)) b with
   | false=>rfl
   | true=>simp only[cond_true];exact c b (.inl (M5.1 e))
  unfold Vf
  rw[f4 (s:=st.s) (fun t i=>hr t (List.mem_append.2 (.inl i))),i]
  simp only[Option.bind_some,cond_true]
  rw[d,hF,G,Aso v,A]
  simp only[Option.bind_some]
  rw[rG (h:=st.h) (fun b e=>c b (.inr e)),D]
  rfl
theorem dS:∀ {ups:Fp} {b:Nat},Be ups b=true↔b ∈ ups.map (·.1)
 | [],b=>by simp[Be]
 | (i,_)::r,b=>by
  rw[Be]
  cases hi:Nat.beq i b with
  | true=>have:=Nat.eq_of_beq_eq_true hi;subst this;simp
  | false =>
   have ne:=AE hi
   simp only[cond_false]
   rw[dS]
   simp only[List.map_cons,List.mem_cons]
   constructor
   ·exact fun h=>.inr h
   ·rintro(h | h)
    ·exact absurd h.symm ne
    ·exact h
theorem Awh {q:AV×Fp×Foot} (c:Vf E ops o st=some q):q.2.2.w=o.dst∧q.2.2.u=q.2.1.map (·.1):=by
 unfold Vf at c
 obtain⟨t,f,b⟩:=ub c
 cases t with
 | false=>simp at b;subst b;simp
 | true =>
  rw[cond_true] at b
  obtain⟨x,i,e⟩:=ub b
  obtain⟨j,d⟩:=uc e
  simp at d;subst d;simp
theorem H5:∀ (ups:Fp) {h e:Aj},(∀ b,Am e b=Am h b)→∀ b,Am (Al ups e) b=Am (Al ups h) b
 | [],_,_,d,b=>d b
 | (i,some x)::r,h,e,d,b=>H5 r (fun c=>by rw[Af,Af,d c]) b
 | (i,none)::r,h,e,d,b=>by
  rw[Al,Al]
  refine H5 r (fun c=>?_) b
  rw[d i]
  split
  ·rw[Af,Af,d c]
  ·exact d c
theorem Am5 {q:AV×Fp×Foot} (h:Eqv st st2):Eqv (after E o st q) (after E o st2 q):=by
 refine⟨fun t=>?_,fun b=>?_⟩
 ·unfold after;simp only;rw[P4,P4,h.1 t]
 ·exact(H5 q.2.1 (fun b=>(h.2 b).symm) b).symm
theorem T0 {i:Nat} {y:Blk}:∀ (ups:Fp) {h:Aj},Be ups i=false→∀ b,Am (Al ups (F5 h i y)) b=if b=i then some y else Am (Al ups h) b
 | [],h,_,b=>Af h i y b
 | (j,some x)::r,h,hi,b=>by
  rw[Be] at hi
  cases d:Nat.beq j i with
  | true=>rw[d] at hi;simp at hi
  | false =>
   rw[d] at hi
   have ne:=AE d
   rw[Al,Al,H5 r (h:=F5 (F5 h j x) i y) (fun c=>by
    rw[Af,Af,Af,Af]
    by_cases e1:c=j
    ·subst e1;simp[ne]
    ·simp[e1]) b]
   exact T0 r hi b
 | (j,none)::r,h,hi,b=>by
  rw[Be] at hi
  cases d:Nat.beq j i with
  | true=>rw[d] at hi;simp at hi
  | false =>
   rw[d] at hi
   have ne:=AE d
   rw[Al,Al,Af,if_neg ne]
   split
   ·rename_i x e
    rw[H5 r (h:=F5 (F5 h j { x with dead:=true,pure:=true,cells:=[] }) i y) (fun c=>by
     rw[Af,Af,Af,Af]
     by_cases e1:c=j
     ·subst e1;simp[ne]
     ·simp[e1]) b]
    exact T0 r hi b
   ·exact T0 r hi b
theorem Xj:∀ (u1 u2:Fp) (h:Aj),(∀ b,Be u1 b=true→Be u2 b=false)→∀ b,Am (Al u2 (Al u1 h)) b=Am (Al u1 (Al u2 h)) b
 | [],u2,h,_,b=>rfl
 | (i,some x)::r,u2,h,d,b=>by
  rw[Al,Al]
  have hi:Be u2 i=false:=d i (by simp[Be])
  rw[Xj r u2 (F5 h i x) (fun c e=>d c (by rw[Be,e];cases Nat.beq i c<;>rfl)) b]
  refine H5 r (fun c=>?_) b
  rw[T0 u2 hi,Af]
 | (i,none)::r,u2,h,d,b=>by
  rw[Al,Al]
  have hi:Be u2 i=false:=d i (by simp[Be])
  rw[C0 u2 h i hi]
  split
  ·rename_i x f
   rw[Xj r u2 _ (fun c e=>d c (by rw[Be,e];cases Nat.beq i c<;>rfl)) b]
   refine H5 r (fun c=>?_) b
   rw[T0 u2 hi,Af]
  ·exact Xj r u2 h (fun c e=>d c (by rw[Be,e];cases Nat.beq i c<;>rfl)) b
theorem wj:∀ {a l:List Nat},Amb a l=true→∀ b ∈ a,b ∉ l
 | [],l,_,b,c=>by simp at c
 | i::r,l,h,b,c=>by
  rw[Amb] at h;simp at h
  rcases List.mem_cons.1 c with e | c
  ·subst e;intro d;rw[M5.2 d] at h;simp at h
  ·exact wj h.2 b c
theorem wk {q:AV×Fp×Foot} {t:Nat} (h:o.dst≠some t):Gw (after E o st q).s t=Gw st.s t:=by
 unfold after;simp only;rw[P4,if_neg (fun b=>h b.1)]
theorem wl {q:AV×Fp×Foot} {b:Nat} (h:b ∉ q.2.1.map (·.1)):Am (after E o st q).h b=Am st.h b:=by
 unfold after;simp only
 rw[C0]
 cases hi:Be q.2.1 b with
 | false=>rfl
 | true=>exact absurd (dS.1 hi) h
theorem Ae5 {w:Option Nat} {l:List Nat} (h:A5s w l=false):∀ t ∈ l,w≠some t:=by
 intro t b e
 subst e
 rw[A5s,M5.2 b] at h;cases h
theorem A5w {f d:AV×Fp×Foot} (m:Vf E ops p st=some f) (n:Vf E ops o (after E p st f)=some d) (hi:qr f.2.2 d.2.2=true) :
  Vf E ops o st=some d∧Vf E ops p (after E o st d)=some f∧Eqv (after E p (after E o st d) f) (after E o (after E p st f) d):=by
 unfold qr at hi
 simp only[Bool.and_eq_true,Bool.not_eq_true'] at hi
 obtain⟨⟨⟨⟨i1,i2⟩,i3⟩,i4⟩,i5⟩:=hi
 obtain⟨q,u1⟩:=Awh m
 obtain⟨s,u2⟩:=Awh n
 have k:=wj i4
 have v:=wj i5
 have a1:Vf E ops o st=some d:=XS n (fun t l=>(wk (by rw[←q];exact Ae5 i1 t l)).symm) (fun b e=>(wl (fun j=>by
  rw[←u1] at j
  exact k b j (by rcases e with e | e<;>simp[e]))).symm)
 have a2:Vf E ops p (after E o st d)=some f:=XS m (fun t l=>wk (by rw[←s];exact Ae5 i2 t l)) (fun b e=>wl (fun j=>by
  rw[←u2] at j
  rcases e with e | e
  ·exact v b j e
  ·exact k b e (by simp[j])))
 refine⟨a1,a2,fun t=>?_,fun b=>?_⟩
 ·unfold after;simp only
  rw[P4,P4,P4,P4]
  by_cases e1:p.dst=some t∧t<E.nt
  ·by_cases i:o.dst=some t∧t<E.nt
   ·exfalso
    rw[q,s,e1.1,i.1] at i3
    simp at i3
   ·rw[if_pos e1,if_neg i,if_pos e1]
  ·by_cases i:o.dst=some t∧t<E.nt
   ·rw[if_neg e1,if_pos i,if_pos i]
   ·rw[if_neg e1,if_neg i,if_neg i,if_neg e1]
 ·unfold after;simp only
  refine(Xj f.2.1 d.2.1 st.h (fun c x=>?_) b).symm
  cases y:Be d.2.1 c with
  | false=>rfl
  | true =>
   have m1:c ∈ f.2.2.u:=by rw[u1];exact dS.1 x
   have m2:c ∈ d.2.2.u:=by rw[u2];exact dS.1 y
   exact absurd (by simp[m2]) (k c m1)
def RunF (E:Env) (ops:Array Oper) (fp:Nat→Foot):List (Nat×Oper)→St→St→Prop
 | [],st,e=>Eqv st e
 | (i,o)::r,st,e=>∃ q,Vf E ops o st=some q∧q.2.2=fp i∧RunF E ops fp r (after E o st q) e
theorem RunF.congr {fp:Nat→Foot}:∀ {l:List (Nat×Oper)} {st st2 e:St},RunF E ops fp l st e→Eqv st st2→RunF E ops fp l st2 e
 | [],st,st2,e,h,c=>c.symm.trans h
 | (i,o)::r,st,st2,e,h,c=>by
  rw[RunF] at h ⊢
  obtain⟨q,d,f,j⟩:=h
  exact⟨q,XS d (fun t _=>(c.1 t).symm) (fun b _=>(c.2 b).symm),f,RunF.congr j (Am5 c)⟩
theorem RunF.pull {fp:Nat→Foot} {i:Nat} {o:Oper} {B:List (Nat×Oper)}:∀ {A:List (Nat×Oper)} {st e:St},RunF E ops fp (A++(i,o)::B) st e→(∀ jp ∈ A,qr (fp jp.1) (fp i)=true) →
  ∃ q,Vf E ops o st=some q∧q.2.2=fp i∧RunF E ops fp (A++B) (after E o st q) e
 | [],st,e,h,_=>h
 | (j,p)::A,st,e,h,hA=>by
  rw[List.cons_append,RunF] at h
  obtain⟨b,k,c,l⟩:=h
  obtain⟨d,m,f,n⟩:=RunF.pull l (fun jp s=>hA jp (by simp[s]))
  have hi:qr b.2.2 d.2.2=true:=by rw[c,f];exact hA (j,p) (by simp)
  obtain⟨a1,a2,a3⟩:=A5w k m hi
  refine⟨d,a1,f,?_⟩
  rw[List.cons_append,RunF]
  exact⟨b,a2,c,RunF.congr n a3.symm⟩
end
end Gx

namespace Gx
open Go
def Awi:Nat→List Oper→List (Nat×Oper)
 | _,[]=>[]
 | n,o::r=>(n,o)::Awi (n+1) r
theorem v7:∀ {l:List Oper} {n:Nat} {p:Nat×Oper},p ∈ Awi n l↔n≤p.1∧l[p.1 - n]?=some p.2
 | [],n,p=>by simp[Awi]
 | o::r,n,p=>by
  rw[Awi,List.mem_cons,v7]
  constructor
  ·rintro(rfl | ⟨d,c⟩)
   ·simp
   ·refine⟨by omega,?_⟩
    rw[show p.1 - n=(p.1 - (n+1))+1 by omega];simpa using c
  ·rintro⟨d,c⟩
   by_cases e:p.1=n
   ·left
    rw[e] at c;simp at c
    obtain⟨a,b⟩:=p
    simp at e c;subst e c;rfl
   ·right
    refine⟨by omega,?_⟩
    rw[show p.1 - n=(p.1 - (n+1))+1 by omega] at c;simpa using c
theorem wm:∀ (l:List Oper) (n:Nat),(Awi n l).Pairwise (fun a b=>a.1<b.1)
 | [],n=>List.Pairwise.nil
 | o::r,n=>by
  rw[Awi]
  refine List.pairwise_cons.2 ⟨fun p c=>?_,wm r (n+1)⟩
  have:=(v7.1 c).1
  show n<p.1;omega
section
variable {R:Type} {r:R} {Z:Start} {E:Env} {ops:Array Oper}
def RunL (E:Env) (ops:Array Oper):List Oper→List Foot→St→St→Prop
 | [],[],st,e=>st=e
 | o::l,f::fs,st,e=>∃ st' q,Eqv st st'∧Vf E ops o st'=some q∧q.2.2=f∧RunL E ops l fs (after E o st' q) e
 | _,_,_,_=>False
theorem Am6:∀ {l:List Oper} {st:St} {tr:List Foot} {k:St→List Foot→O R},wH E ops l st tr k=some r→∃ fs e,k e (fs.reverse++tr)=some r∧RunL E ops l fs st e
 | [],st,tr,k,h=>⟨[],st,by simpa[wH] using h,rfl⟩
 | o::l,st,tr,k,h=>by
  rw[wH] at h
  obtain⟨st',b,h⟩:=w9 h
  rw[dR] at h
  obtain⟨q,c,d⟩:=ub h
  obtain⟨fs,e,f,i⟩:=Am6 d
  exact⟨q.2.2::fs,e,by simpa using f,st',q,b,c,rfl,i⟩
theorem RunL.length:∀ {l:List Oper} {fs:List Foot} {st e:St},RunL E ops l fs st e→fs.length=l.length
 | [],[],_,_,_=>rfl
 | [],_::_,_,_,h=>h.elim
 | _::_,[],_,_,h=>h.elim
 | o::l,f::fs,st,e,⟨_,q,_,_,_,h⟩=>by simp[RunL.length h]
theorem RunL.runF {fp:Nat→Foot}:∀ {l:List Oper} {fs:List Foot} {n:Nat} {st e:St},RunL E ops l fs st e→(∀ (j:Nat) (f:Foot),fs[j]?=some f→fp (n+j)=f)→RunF E ops fp (Awi n l) st e
 | [],[],n,st,e,h,_=>by subst h;exact Eqv.refl _
 | [],_::_,_,_,_,h,_=>h.elim
 | _::_,[],_,_,_,h,_=>h.elim
 | o::l,f::fs,n,st,e,⟨st',q,c,d,i,k⟩,b=>by
  rw[Awi]
  refine RunF.congr ?_ c.symm
  rw[RunF]
  refine⟨q,d,by rw[i];exact(b 0 f (by simp)).symm,RunL.runF k (fun j g m=>?_)⟩
  have:=b (j+1) g (by simpa using m)
  rwa [show n+(j+1)=n+1+j by omega] at this
theorem rH {f:Foot} {anc:List Nat}:∀ {seen:List Foot} {i:Nat},kI f anc i seen=true→∀ (j:Nat) (g:Foot),seen[j]?=some g→(i+j) ∈ anc∨qr g f=true
 | [],i,_,j,g,b=>by simp at b
 | x::r,i,h,j,g,b=>by
  rw[kI] at h;simp only[Bool.and_eq_true,Bool.or_eq_true] at h
  cases j with
  | zero =>
   simp at b;subst b
   rcases h.1 with c | c
   ·exact .inl (M5.1 c)
   ·exact .inr c
  | succ j =>
   have:=rH h.2 j g (by simpa using b)
   rwa [show i+1+j=i+(j+1) by omega] at this
theorem wo:∀ {fs:List Foot} {az9:List (List Nat)} {seen:List Foot},dK fs az9 seen=true→∀ (i:Nat) (f:Foot),fs[i]?=some f →
  ∃ a,az9[i]?=some a∧∀ (j:Nat) (g:Foot),(seen++fs)[j]?=some g→j<seen.length+i→j ∈ a∨qr g f=true
 | [],az9,seen,_,i,f,b=>by simp at b
 | x::r,[],seen,h,i,f,b=>by simp[dK] at h
 | x::r,a::az9,seen,h,i,f,b=>by
  rw[dK] at h;simp only[Bool.and_eq_true] at h
  cases i with
  | zero =>
   simp at b;subst b
   refine⟨a,by simp,fun j g c d=>?_⟩
   rw[List.getElem?_append,if_pos (by omega)] at c
   simpa using rH h.1 j g c
  | succ i =>
   obtain⟨e,k,l⟩:=wo h.2 i f (by simpa using b)
   refine⟨e,by simpa using k,fun j g c d=>l j g ?_ (by simp;omega)⟩
   simpa using c
theorem JQ:∀ {l:List Oper} {b:List (List Nat)} {i:Nat},i<b.length→(Hw l b)[i]?=b[i]?
 | [],b,i,_=>rfl
 | o::r,b,i,hi=>by
  rw[Hw,LE,JQ (by simp;omega),List.getElem?_append,if_pos hi]
theorem PN:∀ {l:List Oper} {b:List (List Nat)} {i:Nat} {a:List Nat},(Hw l b)[i]?=some a→b.length≤i→∃ o,l[i - b.length]?=some o ∧
  ∀ k ∈ a,k ∈ PA o∨∃ j f,j ∈ PA o∧j<i∧(Hw l b)[j]?=some f∧k ∈ f
 | [],b,i,a,h,hi=>by
  rw[Hw,List.getElem?_eq_none hi] at h;cases h
 | o::r,b,i,a,h,hi=>by
  by_cases e:i=b.length
  ·subst e
   rw[Hw,LE,JQ (by simp)] at h
   simp only[List.getElem?_concat_length,Option.some.injEq] at h
   refine⟨o,by simp,fun k c=>?_⟩
   rw[←h,LJ] at c
   replace c:=c.resolve_right (by simp)
   rcases List.mem_append.1 c with c | c
   ·exact .inl c
   ·right
    obtain⟨j,q,c⟩:=List.mem_flatMap.1 c
    cases m:b[j]? with
    | none=>rw[m] at c;simp at c
    | some f =>
     rw[m] at c;simp at c
     have d:j<b.length:=(List.getElem?_eq_some_iff.1 m).1
     exact⟨j,f,q,d,by rw[JQ d];exact m,c⟩
  ·rw[Hw,LE] at h
   obtain⟨o',n,s⟩:=PN h (by simp;omega)
   refine⟨o',?_,fun k c=>?_⟩
   ·simp at n
    rw[show i - b.length=(i - (b.length+1))+1 by omega];simpa using n
   ·rw[Hw,LE];exact s k c
theorem kS:∀ {l:List Oper} {n i:Nat} {o:Oper},DE n l=true→l[i]?=some o→∀ e ∈ o.after,XJ e=true→e.on<n+i
 | [],n,i,o,_,hi,_,_,_=>by simp at hi
 | x::r,n,i,o,h,hi,e,b,c=>by
  rw[DE] at h;simp only[Bool.and_eq_true] at h
  cases i with
  | zero =>
   simp at hi;subst hi
   have:=List.all_eq_true.1 h.1 e (by simpa using b)
   rw[c] at this;simpa using this
  | succ i =>
   have:=kS h.2 (by simpa using hi) e b c
   omega
theorem Ae6 (e:Edge):Region.binds .any e=XJ e:=by
 unfold Region.binds XJ
 cases e.ground<;>rfl
theorem Asp {listed:Array Bool} (hclosed:∀ (j:Nat) (o:Oper),ops[j]?=some o→listed.getD j true=true→∀ k ∈ PA o,listed.getD k false=true) :
  ∀ (i:Nat) (a:List Nat) (o:Oper),(Hw ops.toList [])[i]?=some a→ops[i]?=some o→(∀ k ∈ PA o,listed.getD k false=true)→∀ k ∈ a,listed.getD k false=true:=by
 intro i
 induction i using Nat.strongRecOn with
 | _ i s =>
  intro a o t u m k v
  obtain⟨o',e,x⟩:=PN t (by simp)
  simp at e
  rw[u] at e;simp at e;subst e
  rcases x k v with f | ⟨j,y,f,z,n,A⟩
  ·exact m k f
  ·have c:=m j f
   obtain⟨oj,d,_⟩:=PN n (by simp)
   simp at d
   have l:listed.getD j true=true:=by
    rw[Array.getD_eq_getD_getElem?] at c ⊢
    cases q:listed[j]? with
    | none=>rw[q] at c;simp at c
    | some b=>rw[q] at c;simpa using c
   exact s j z y oj n d (hclosed j oj d l) k A
def I6 (ops:Array Oper) (listed:Array Bool):List (Nat×Oper):=(Awi 0 ops.toList).filter fun p=>!listed.getD p.1 true
theorem XT (listed:Array Bool):(I6 ops listed).Pairwise (fun a b=>a.1<b.1):=(wm _ _).filter _
theorem LK {listed:Array Bool} {p:Nat×Oper}:p ∈ I6 ops listed↔ops[p.1]?=some p.2∧listed.getD p.1 true=false:=by
 unfold I6
 rw[List.mem_filter,v7]
 simp
theorem Am7 {listed:Array Bool} {i:Nat} {o:Oper} {A B:List (Nat×Oper)} (h:I6 ops listed=A++(i,o)::B):I6 ops (listed.setIfInBounds i true)=A++B:=by
 have hi:(i,o) ∈ I6 ops listed:=by rw[h];simp
 have b:=(LK.1 hi).2
 have d:i<listed.size:=by
  rw[Array.getD_eq_getD_getElem?] at b
  rcases Nat.lt_or_ge i listed.size with f | f
  ·exact f
  ·rw[Array.getElem?_eq_none f] at b;simp at b
 have k:I6 ops (listed.setIfInBounds i true)=(I6 ops listed).filter fun p=>!Nat.beq p.1 i:=by
  unfold I6
  rw[List.filter_filter]
  congr 1;funext p
  by_cases e:p.1=i
  ·rw[e];simp[d]
  ·rw[getD_set_ne true (fun l=>e l.symm),WP e];simp
 rw[k,h,List.filter_append,List.filter_cons]
 have hs:=XT (ops:=ops) listed
 rw[h] at hs
 have c:=List.pairwise_append.1 hs
 have hB:=List.pairwise_cons.1 c.2.1
 have e1:A.filter (fun p=>!Nat.beq p.1 i)=A:=List.filter_eq_self.2 (fun p j=>by
  have:p.1<i:=c.2.2 p j (i,o) (by simp)
  rw[WP (by omega)];rfl)
 have m:B.filter (fun p=>!Nat.beq p.1 i)=B:=List.filter_eq_self.2 (fun p j=>by
  have:i<p.1:=hB.1 p j
  rw[WP (by omega)];rfl)
 rw[e1,m];simp
theorem Axq (hC:jU E) {Q:Exit→Act→World→Prop} {fp:Nat→Foot} {e:St} (Y:DE 0 ops.toList=true)
  (C:∀ (i j:Nat) (o:Oper),ops[i]?=some o→j<i→∃ a,(Hw ops.toList [])[i]?=some a∧(j ∈ a∨qr (fp j) (fp i)=true))
  (hQ:∀ a' w' J' β',Inv Z E.nt J' β' e a' w'→Q .normal a' w') :
  ∀ (fuel:Nat) (listed:Array Bool) {st:St} {a:Act} {w:World} {J:Bool→Nat→Prop} {β:Cj},listed.size=ops.size→(I6 ops listed).length=fuel →
   (∀ (j:Nat) (o:Oper),ops[j]?=some o→listed.getD j true=true→∀ k ∈ PA o,listed.getD k false=true) →
   RunF E ops fp (I6 ops listed) st e→Inv Z E.nt J β st a w→wpAny E.P .any ops Q fuel listed a w:=by
 intro fuel
 have fin:∀ (listed:Array Bool) {st:St} {a:Act} {w:World} {J:Bool→Nat→Prop} {β:Cj},I6 ops listed=[]→RunF E ops fp (I6 ops listed) st e→Inv Z E.nt J β st a w→Region.ready .any ops listed=[]∧Q .normal a w:=by
  intro listed st a w J β hr c I
  refine⟨List.eq_nil_iff_forall_not_mem.2 (fun i hi=>?_),?_⟩
  ·obtain⟨D,o,n,_⟩:=mem_ready.1 hi
   have:(i,o) ∈ I6 ops listed:=LK.2 ⟨n,D⟩
   rw[hr] at this;simp at this
  ·rw[hr,RunF] at c
   exact hQ _ _ J β (I.eqv c)
 induction fuel with
 | zero =>
  intro listed st a w J β _ d _ c I
  exact fin listed (List.length_eq_zero_iff.1 d) c I
 | succ fuel ih =>
  intro listed st a w J β F d hclosed c I
  refine⟨fun G=>?_,fun i hi=>?_⟩
  ·
   cases l:I6 ops listed with
   | nil=>rw[l] at d;simp at d
   | cons p r =>
    exfalso
    have hp:p ∈ I6 ops listed:=by rw[l];simp
    obtain⟨m,hl⟩:=LK.1 hp
    have hs:=XT (ops:=ops) listed
    rw[l] at hs
    have L:=(List.pairwise_cons.1 hs).1
    have:p.1 ∈ Region.ready .any ops listed:=mem_ready.2 ⟨hl,p.2,m,fun v y hb=>by
     rw[Ae6] at hb
     have t:=kS Y (i:=p.1) (o:=p.2) (by simpa using m) v y hb
     simp at t
     have M:v.on<ops.size:=by have:=(Array.getElem?_eq_some_iff.1 m).1;omega
     cases z:listed.getD v.on true with
     | true =>
      rw[Array.getD_eq_getD_getElem?] at z ⊢
      rw[Array.getElem?_eq_getElem (by omega)] at z ⊢
      simpa using z
     | false =>
      have hm:(v.on,ops[v.on]) ∈ I6 ops listed:=LK.2 ⟨by simp[M],z⟩
      rw[l] at hm
      rcases List.mem_cons.1 hm with e1 | e1
      ·have:v.on=p.1:=by rw[←e1]
       omega
      ·have:=L _ e1
       simp at this;omega⟩
    rw[G] at this;simp at this
  ·obtain⟨hl,o,m,O⟩:=mem_ready.1 hi
   have S:(i,o) ∈ I6 ops listed:=LK.2 ⟨m,hl⟩
   obtain⟨A,B,hAB⟩:=List.append_of_mem S
   have x:∀ k ∈ PA o,listed.getD k false=true:=by
    intro k T
    unfold PA at T
    obtain⟨v,y,rfl⟩:=List.mem_map.1 T
    obtain⟨D,n⟩:=List.mem_filter.1 y
    exact O v (by simpa using D) (by rw[Ae6];exact n)
   have hs:=XT (ops:=ops) listed
   rw[hAB] at hs
   have hs':=List.pairwise_append.1 hs
   rw[hAB] at c
   obtain⟨q,g1,g2,g3⟩:=c.pull (fun jp U=>by
    have t:jp.1<i:=hs'.2.2 jp U (i,o) (by simp)
    obtain⟨an,D,n⟩:=C i jp.1 o m t
    rcases n with n | n
    ·exfalso
     have:=Asp hclosed i an o D m x jp.1 n
     have hjm:jp ∈ I6 ops listed:=by rw[hAB];simp[U]
     have V:=(LK.1 hjm).2
     rw[Array.getD_eq_getD_getElem?] at this V
     cases z:listed[jp.1]? with
     | none=>rw[z] at this;simp at this
     | some b=>rw[z] at this V;simp at this V;rw[this] at V;cases V
    ·exact n)
   have X:Amc E ops o st (fun s f=>some (s,f))=some (after E o st q,q.2.2):=by rw[dR,g1];rfl
   obtain⟨st',f,h4,h5⟩:=w8 (K:=wpAny E.P .any ops Q fuel (listed.setIfInBounds i true)) (Q:=Q) hC I X
   simp only[Option.some.injEq,Prod.mk.injEq] at h4
   obtain⟨rfl,rfl⟩:=h4
   have t:i<listed.size:=by rw[F];exact(Array.getElem?_eq_some_iff.1 m).1
   have:=h5 (fun a' w' J' β' I'=>ih (listed.setIfInBounds i true) (by simp[F]) (by
     rw[Am7 hAB];rw[hAB] at d;simp at d ⊢;omega) (fun j oj u hj k T=>?_) (by rw[Am7 hAB];exact g3) I')
   ·unfold wpOp
    rw[m]
    simp only
    split
    ·rename_i hw;rw[if_pos hw] at this;exact .inl this
    ·rename_i hw;rw[if_neg hw] at this;exact this
   ·by_cases e1:j=i
    ·subst e1
     rw[m] at u;simp at u;subst u
     exact getD_set_true (x k T)
    ·rw[getD_set_ne true (fun e'=>e1 e'.symm)] at hj
     exact getD_set_true (hclosed j oj u hj k T)
end
end Gx

namespace Gx
open Go
section
variable {R:Type} {r:R} {Z:Start} {E:Env}
theorem Abx (hC:jU E) (S:E.P.follows .mixedOrders=true) {roots:List Nat} {id:Nat} {ops:Array Oper} {draw:Bool} {st:St} {k:St→O R} {a:Act} {w:World} {J:Bool→Nat→Prop} {β:Cj} {Q:Exit→Act→World→Prop}
  (I:Inv Z E.nt J β st a w) (D:dL E roots ops draw st k=some r) (hQ:∀ st' d w' J' β',Inv Z E.nt J' β' st' d w'→k st'=some r→Q .normal d w'):(Code.region id ops draw).wp E.P Q a w:=by
 unfold dL at D
 have done:∀ {st':St} {tr:List Foot} {d:Act} {w':World} {J':Bool→Nat→Prop} {β':Cj},Inv Z E.nt J' β' st' d w' →
   cond (!draw||(DE 0 ops.toList&&dK tr.reverse (Hw ops.toList []) [])) ((clean (st'.s.map (·.1)) roots st').bind k) none=some r→Q .normal d w':=by
  intro st' tr d w' J' β' I' h'
  obtain⟨_,A⟩:=uc h'
  obtain⟨st2,C,L⟩:=ub A
  obtain⟨β2,I2⟩:=Amx I' C
  exact hQ _ _ _ _ _ I2 L
 cases draw with
 | false=>exact wp_region_list (w_ hC _ I D (fun st' T d w' J' β' I' h'=>done I' h'))
 | true =>
  obtain⟨fs,e,A,C⟩:=Am6 D
  obtain⟨M,L⟩:=uc A
  simp at M
  obtain⟨F,t⟩:=M
  have v:=C.length
  refine wp_region_any S ?_
  have I':Inv Z E.nt J β st a w.drew:=I.step (Step.drew I.sim) (fun b x U hn=>by rw[U] at hn;cases hn)
  have c:I6 ops (Array.replicate ops.size false)=Awi 0 ops.toList:=by
   unfold I6
   refine List.filter_eq_self.2 (fun p V=>?_)
   have:=(v7.1 V).2
   have m:p.1<ops.size:=by
    simp at this
    exact(Array.getElem?_eq_some_iff.1 this).1
   simp[m]
  have y:(Awi 0 ops.toList).length=ops.size:=by
   have:∀ (l:List Oper) (n:Nat),(Awi n l).length=l.length:=by
    intro l
    induction l with
    | nil=>intro n;rfl
    | cons o r X=>intro n;simp[Awi,X]
   rw[this];simp
  have z:RunF E ops (fun i=>fs.getD i { r:=[],w:=none,f:=[],u:=[] }) (Awi 0 ops.toList) st e:=C.runF (fun j f q=>by simp[q])
  refine Axq hC (fp:=fun i=>fs.getD i { r:=[],w:=none,f:=[],u:=[] }) (e:=e) F (fun i j o G K=>?_) (fun d w' J' β' Ie=>done (tr:=fs.reverse++[]) Ie A) ops.size _ (by simp) (by rw[c,y]) (fun j o G q=>?_) (by rw[c];exact z) I'
  ·have hi:i<fs.length:=by rw[v];simpa using(Array.getElem?_eq_some_iff.1 G).1
   obtain⟨an,Y,g2⟩:=wo t i fs[i] (List.getElem?_eq_getElem hi)
   refine⟨an,Y,?_⟩
   have q:j<fs.length:=by omega
   have:=g2 j fs[j] (by simp[q]) (by simpa using K)
   simpa[hi,q] using this
  ·exfalso
   have m:j<ops.size:=(Array.getElem?_eq_some_iff.1 G).1
   simp[m] at q
end
end Gx

namespace Gx
open Go
theorem kT (ρ:Nat→Nat):∀ c:LA,(AD ρ c).length=c.length
 | []=>rfl
 | x::r=>by rw[AD,List.length_cons,List.length_cons,kT ρ r]
theorem Om (ρ:Nat→Nat) (x:Blk):(GC ρ x).cells.length=x.cells.length:=by
 unfold GC;cases x.pure
 ·simp;exact kT _ _
 ·rfl
theorem Ae7 {ρ:Nat→Nat}:∀ {c:LA} {j:Nat} {y:AV},(AD ρ c)[j]?=some y→∃ x,c[j]?=some x∧y=eg ρ x
 | [],j,y,b=>by simp[AD] at b
 | x::r,j,y,b=>by
  rw[AD] at b
  cases j with
  | zero=>simp at b;exact⟨x,by simp,b.symm⟩
  | succ j=>obtain⟨x',d,e⟩:=Ae7 (c:=r) (j:=j) (by simpa using b);exact⟨x',by simpa using d,e⟩
section
variable {R:Type} {r:R} {J J':Bool→Nat→Prop} {β β':Cj} {h h':Aj} {w w':World} {ids:List Nat} {ρ:Nat→Nat}
theorem P5 {g:Bk}:∀ {ids:List Nat},(ids.map ρ).Nodup→∀ c y,Am (sub g ρ ids) c=some y→∃ b x,b ∈ ids∧ρ b=c∧g b=some x∧y=GC ρ x
 | [],_,c,y,d=>by simp[sub,Am] at d
 | b::r,hn,c,y,d=>by
  rw[List.map_cons,List.nodup_cons] at hn
  rw[sub] at d
  split at d
  ·rename_i x m
   rw[Af] at d
   by_cases e:c=ρ b
   ·rw[if_pos e] at d;simp at d
    exact⟨b,x,by simp,e.symm,m,d.symm⟩
   ·rw[if_neg e] at d
    obtain⟨f,x',i,j,k,l⟩:=P5 hn.2 c y d
    exact⟨f,x',by simp[i],j,k,l⟩
  ·obtain⟨f,x',i,j,k,l⟩:=P5 hn.2 c y d
   exact⟨f,x',by simp[i],j,k,l⟩
theorem GL {g:Bk}:∀ {ids:List Nat},(ids.map ρ).Nodup→∀ b x,b ∈ ids→g b=some x→Am (sub g ρ ids) (ρ b)=some (GC ρ x)
 | [],_,b,x,c,_=>by simp at c
 | i::r,hn,b,x,c,d=>by
  rw[List.map_cons,List.nodup_cons] at hn
  rw[sub]
  by_cases e:b=i
  ·subst e
   rw[d]
   simp only
   rw[Af,if_pos rfl]
  ·have f:b ∈ r:=by simpa[e] using c
   have ne:ρ b≠ρ i:=fun h=>hn.1 (by rw[←h];exact List.mem_map.2 ⟨b,f,rfl⟩)
   split
   ·rw[Af,if_neg ne];exact GL hn.2 b x f d
   ·exact GL hn.2 b x f d
def A0j (ρ:Nat→Nat) (ids:List Nat) (c:Nat):Option Nat:=ids.find? fun b=>Nat.beq (ρ b) c
theorem A0k (hn:(ids.map ρ).Nodup) {b:Nat} (c:b ∈ ids):A0j ρ ids (ρ b)=some b:=by
 induction ids with
 | nil=>simp at c
 | cons i r d =>
  rw[List.map_cons,List.nodup_cons] at hn
  unfold A0j at d ⊢
  rw[List.find?_cons]
  by_cases e:b=i
  ·subst e;simp
  ·have f:b ∈ r:=by simpa[e] using c
   have ne:ρ i≠ρ b:=fun h=>hn.1 (by rw[h];exact List.mem_map.2 ⟨b,f,rfl⟩)
   rw[WP ne];exact d hn.2 f
def SP (ρ:Nat→Nat) (ids:List Nat) (β:Cj):Cj:=fun c=>(A0j ρ ids c).bind β
theorem H6 (hn:(ids.map ρ).Nodup) {b:Nat} (c:b ∈ ids):SP ρ ids β (ρ b)=β b:=by
 unfold SP;rw[A0k hn c];rfl
mutual
theorem Rep.ren (hn:(ids.map ρ).Nodup):∀ {x:AV} {v:Value},(∀ b ∈ H4 x,b ∈ ids)→Rep J β h w x v→Rep J (SP ρ ids β) (sub (Am h) ρ ids) w (eg ρ x) v
 | .own b off n,v,hm,hr=>by
  rw[Rep] at hr
  obtain⟨x,A,cap,⟨hx,hmp⟩,h1,h2,h3⟩:=hr
  have hb:=hm b (by simp[H4])
  rw[eg,Rep]
  refine⟨GC ρ x,A,cap,⟨GL hn b x hb hx,hmp⟩,h1,h2,?_⟩
  rw[Om,H6 hn hb]
  exact h3
 | .optr b off,v,hm,hr=>by
  rw[Rep] at hr
  obtain⟨x,k,o,⟨hx,hmp⟩,h1,h2⟩:=hr
  have hb:=hm b (by simp[H4])
  rw[eg,Rep]
  refine⟨GC ρ x,k,o,⟨GL hn b x hb hx,hmp⟩,h1,?_⟩
  rw[H6 hn hb]
  exact h2
 | .omap b,v,hm,hr=>by
  rw[Rep] at hr
  obtain⟨x,k,⟨hx,hmp⟩,h2⟩:=hr
  have hb:=hm b (by simp[H4])
  rw[eg,Rep]
  refine⟨GC ρ x,k,⟨GL hn b x hb hx,hmp⟩,?_⟩
  rw[H6 hn hb]
  exact h2
 | .agg c,v,hm,hr=>by
  rw[Rep] at hr
  obtain⟨cs,h1,h2⟩:=hr
  rw[eg,Rep]
  exact⟨cs,h1,Reps.ren hn (by simpa[H4] using hm) h2⟩
 | .tup c,v,hm,hr=>by
  rw[Rep] at hr
  obtain⟨cs,h1,h2⟩:=hr
  rw[eg,Rep]
  exact⟨cs,h1,Reps.ren hn (by simpa[H4] using hm) h2⟩
 | .fn f c,v,hm,hr=>by
  rw[Rep] at hr
  obtain⟨cs,h1,h2⟩:=hr
  rw[eg,Rep]
  exact⟨cs,h1,Reps.ren hn (by simpa[H4] using hm) h2⟩
 | .pagg c o,v,hm,hr=>by show Rep J _ _ w (.pagg c o) v;rw[Rep] at hr ⊢;exact hr
 | .undef,v,hm,hr=>by show Rep J _ _ w (.undef) v;rw[Rep] at hr ⊢;exact hr
 | .imm c n sz t o,v,hm,hr=>by show Rep J _ _ w (.imm c n sz t o) v;rw[Rep] at hr ⊢;exact hr
 | .iptr c o,v,hm,hr=>by show Rep J _ _ w (.iptr c o) v;rw[Rep] at hr ⊢;exact hr
 | .int k n,v,hm,hr=>by show Rep J _ _ w (.int k n) v;rw[Rep] at hr ⊢;exact hr
 | .bool b,v,hm,hr=>by show Rep J _ _ w (.bool b) v;rw[Rep] at hr ⊢;exact hr
 | .str s,v,hm,hr=>by show Rep J _ _ w (.str s) v;rw[Rep] at hr ⊢;exact hr
 | .nsl,v,hm,hr=>by show Rep J _ _ w (.nsl) v;rw[Rep] at hr ⊢;exact hr
 | .nilptr,v,hm,hr=>by show Rep J _ _ w (.nilptr) v;rw[Rep] at hr ⊢;exact hr
 | .nilfn,v,hm,hr=>by show Rep J _ _ w (.nilfn) v;rw[Rep] at hr ⊢;exact hr
theorem Reps.ren (hn:(ids.map ρ).Nodup):∀ {c:List AV} {cs:List Value},(∀ b ∈ J7 c,b ∈ ids)→Reps J β h w c cs→Reps J (SP ρ ids β) (sub (Am h) ρ ids) w (AD ρ c) cs
 | [],cs,hm,hr=>by rw[Reps] at hr;rw[AD,Reps];exact hr
 | x::r,cs,hm,hr=>by
  rw[Reps] at hr
  obtain⟨u,us,h1,h2,h3⟩:=hr
  rw[AD,Reps]
  exact⟨u,us,h1,Rep.ren hn (fun b hb=>hm b (by simp[J7,hb])) h2,Reps.ren hn (fun b hb=>hm b (by simp[J7,hb])) h3⟩
end
theorem SimH.ren (S:SimH J β h w) (hn:(ids.map ρ).Nodup) (A:∀ b ∈ M3 (Am h) ids,b ∈ ids):SimH J (SP ρ ids β) (sub (Am h) ρ ids) w:=by
 refine⟨S.jlt,S.jft,S.gl,fun c y m n C=>?_,fun c y m n C=>by
   obtain⟨b,x,e,rfl,i,rfl⟩:=P5 hn c y m
   obtain⟨l,s,k,ob,D,F,z,G⟩:=S.mblk b x i n C
   have:(GC ρ x).cells=x.cells:=by unfold GC;rw[l];rfl
   exact⟨l,s,k,ob,by rw[H6 hn e];exact D,F,by rw[ObjIs,show(GC ρ x).sz=x.sz from rfl,this];exact z,G⟩,?_⟩
 ·obtain⟨b,x,e,rfl,i,rfl⟩:=P5 hn c y m
  rcases S.blk b x i n C with⟨l,s⟩ | ⟨k,o,cs,ty,fr,l,s,D,F,z,G,U⟩
  ·refine .inl ⟨by rw[H6 hn e];exact l,?_⟩
   have:=Om ρ x;rw[s] at this;simpa using this
  ·refine .inr ⟨k,o,cs,ty,fr,by rw[H6 hn e];exact l,s,D,by rw[Om];exact F,⟨fun I=>?_,fun I j q O=>?_⟩,G,U⟩
   ·have d:x.pure=true:=I
    have:(GC ρ x).cells=x.cells:=by unfold GC;rw[d];rfl
    rw[this];exact z.1 d
   ·have d:x.pure=false:=I
    have:(GC ρ x).cells=AD ρ x.cells:=by unfold GC;rw[d];rfl
    rw[this] at O
    obtain⟨V,hq,rfl⟩:=Ae7 O
    obtain⟨u,X,hr,Y⟩:=z.2 d j V hq
    exact⟨u,X,Rep.ren hn (fun t f=>A t (pX e i d t (pY hq t f))) hr,Y⟩
 ·intro c c' y y' k o o' m K n L hs T v
  obtain⟨b,x,e,rfl,i,rfl⟩:=P5 hn c y m
  obtain⟨t,x',f,rfl,M,rfl⟩:=P5 hn c' y' K
  rw[H6 hn e] at T
  rw[H6 hn f] at v
  rw[S.sep b t x x' k o o' i M n L hs T v]
theorem Aih (hn:(ids.map ρ).Nodup) {k:Nat} (e:Amf (SP ρ ids β) (sub (Am h) ρ ids) k):Amf β h k:=by
 obtain⟨c,y,o,f,i,hs,d⟩:=e
 obtain⟨b,x,j,rfl,l,rfl⟩:=P5 hn c y f
 rw[H6 hn j] at d
 exact⟨b,x,o,l,i,hs,d⟩
end
end Gx

namespace Gx
open Go
theorem Qx {ids:List Nat}:∀ {l:List Nat},SG ids l=true→∀ b ∈ l,b ∈ ids
 | [],_,b,c=>by simp at c
 | i::r,h,b,c=>by
  rw[SG] at h
  simp at h
  rcases List.mem_cons.1 c with rfl | c
  ·exact M5.1 h.1
  ·exact Qx h.2 b c
theorem EA {d:Nat}:∀ {l:List Nat} {base b:Nat},b ∈ l→base≤Kh d (A8 base l) b∧Kh d (A8 base l) b<base+l.length
 | [],base,b,c=>by simp at c
 | i::r,base,b,c=>by
  rw[A8,Kh]
  cases hi:Nat.beq i b with
  | true=>simp
  | false =>
   have e:=AE hi
   have f:b ∈ r:=by
    rcases List.mem_cons.1 c with h | h
    ·exact absurd h.symm e
    ·exact h
   have:=EA (d:=d) (base:=base+1) f
   simp only[cond_false,List.length_cons]
   omega
theorem Am8 {free ids:List Nat} {b:Nat} (h:LF free b=true):DX free ids b=b:=by unfold DX;rw[h];rfl
theorem Aii {free ids:List Nat} {b:Nat} (h:LF free b=false) (c:b ∈ ids):300000≤DX free ids b:=by
 unfold DX Az9;rw[h]
 exact(EA (List.mem_filter.2 ⟨c,by simp[h]⟩)).1
theorem wq {b:Nat}:wK b=true↔100000≤b∧b<200000:=by unfold wK;simp
theorem rI {free ids:List Nat} {b c:Nat} (e:b ∈ ids) (f:100000≤c∧c<200000) (d:DX free ids b=c):b=c:=by
 cases hr:LF free b with
 | true=>rw[Am8 hr] at d;exact d
 | false=>have:=Aii hr e;omega
theorem LL {ρ:Nat→Nat} {K:List Nat}:∀ {s:H3} {i:Nat},Gw (A0a ρ K s) i=if J8 K i=true then eg ρ (Gw s i) else .undef
 | [],i=>by
  show AV.undef=if J8 K i=true then eg ρ .undef else AV.undef
  simp[eg]
 | (t,v)::r,i=>by
  rw[A0a]
  by_cases e:t=i
  ·subst e
   cases b:J8 K t with
   | true=>simp[Gw]
   | false=>simp only[cond_false];rw[LL];simp[b]
  ·have c:Nat.beq t i=false:=WP e
   cases b:J8 K t with
   | true=>simp only[cond_true,Gw,c,cond_false];exact LL
   | false=>simp only[cond_false,Gw,c];exact LL
theorem Am9 {g:Bk} {l:List Nat} {b:Nat} (h:b ∈ GG g l):∃ x,g b=some x∧x.dead=false:=by
 unfold GG at h
 obtain⟨_,c⟩:=List.mem_filter.1 h
 unfold Gy at c
 cases d:g b with
 | none=>simp[d] at c
 | some x =>
  cases e:x.dead with
  | false=>exact⟨x,rfl,e⟩
  | true=>simp[d,e] at c
section
variable {Z:Start} {nt:Nat} {J:Bool→Nat→Prop} {β:Cj} {st st':St} {a:Act} {w:World}
def AV.isz:AV→Nat
 | .imm _ _ s _ _=>s
 | _=>0
theorem P6 {live:List Nat}:∀ (nils:List (Nat×Nat)) {st:St} {J:Bool→Nat→Prop} {β:Cj},Inv Z nt J β st a w→PB live nils st=some st'→∃ J' β',Inv Z nt J' β' st' a w
 | [],st,J,β,I,f=>by simp[PB] at f;subst f;exact⟨J,β,I⟩
 | (t,sz)::r,st,J,β,I,f=>by
  rw[PB] at f
  cases q:Nat.ble 1000000 sz with
  | true =>
   rw[q,cond_true] at f
   split at f
   ·rename_i L hs
    refine P6 r (J:=J) (β:=β) (st:={ s:=jM st.s t (.imm [] 0 (sz - 1000000) false false),h:=st.h }) ?_ f
    refine { I with ss:=⟨fun i v k=>?_,fun i hi=>?_⟩ }
    ·rw[P2]
     by_cases e:i=t
     ·subst e
      have:=I.ss.slot i v k
      rw[hs,Rep] at this
      subst this
      rw[if_pos rfl,Rep,RepC]
      exact⟨by simp,none,0,rfl,Nat.le_refl _,fun _=>rfl,.inl rfl⟩
     ·rw[if_neg e];exact I.ss.slot i v k
    ·rw[P2]
     by_cases e:i=t
     ·subst e
      have:=I.ss.out i hi
      rw[hs] at this;cases this
     ·rw[if_neg e];exact I.ss.out i hi
   ·rename_i b off n L hs
    obtain⟨⟨v',ups,org⟩,u,M⟩:=ub f
    by_cases z:∃ v,a.tmps[t]?=some v
    ·obtain⟨v0,C⟩:=z
     have hr:=I.ss.slot t v0 C
     rw[hs] at hr
     obtain⟨J1,A,l,_⟩:=XN I.sim (fun b x O=>⟨x,O,rfl⟩) u hr
     have I1:=I.step A (fun c x m hn=>by
      exfalso
      unfold fT at u
      obtain⟨y,F,j⟩:=ub u
      obtain⟨_,j⟩:=uc j
      simp at j
      obtain⟨_,j,_⟩:=j
      subst j
      simp only[Al,Af] at m
      unfold Gy at F
      obtain⟨y0,D,_⟩:=ub F
      by_cases e:c=b
      ·subst e;rw[hn] at D;cases D
      ·rw[if_neg e,hn] at m;cases m)
     refine P6 r (J:=J1) (β:=β) (st:={ s:=jM st.s t v',h:=Al ups st.h }) ?_ M
     have G:∃ c,v'=.imm c n (v'.isz) false org:=by
      unfold fT at u
      obtain⟨y,F,j⟩:=ub u
      obtain⟨_,j⟩:=uc j
      simp at j
      obtain⟨j,_,S⟩:=j
      subst j S
      exact⟨_,rfl⟩
     refine { I1 with ss:=⟨fun i v k=>?_,fun i hi=>?_⟩ }
     ·rw[P2]
      by_cases e:i=t
      ·subst e
       rw[if_pos rfl]
       rw[C] at k;simp at k;subst k
       obtain⟨c,T⟩:=G
       rw[T] at l ⊢
       rw[Rep];exact l
      ·rw[if_neg e];exact I1.ss.slot i v k
     ·rw[P2]
      by_cases e:i=t
      ·subst e
       have:=I.ss.out i hi
       rw[hs] at this;cases this
      ·rw[if_neg e];exact I1.ss.out i hi
    ·exfalso
     have:=I.ss.out t (by
      cases h:a.tmps[t]? with
      | none=>simp at h;omega
      | some v=>exact absurd ⟨v,h⟩ z)
     rw[hs] at this;cases this
   ·exact P6 r I f
  | false =>
   rw[q,cond_false] at f
   split at f
   ·rename_i L hs
    cases K:Am st.h (nid t+15) with
    | some x=>simp[K] at f
    | none =>
     simp[K] at f
     have A:=Step.newNone I.sim (d:=nid t+15) (x:=Gz sz) K rfl
     have I1:=I.step A (fun b x m hn=>by
      rw[Af] at m
      by_cases e:b=nid t+15
      ·subst e;unfold nid Ir;omega
      ·rw[if_neg e,hn] at m;cases m)
     refine P6 r (J:=J) (β:=fun b=>if b=nid t+15 then none else β b) (st:={ s:=jM st.s t (.own (nid t+15) 0 0),h:=F5 st.h (nid t+15) (Gz sz) }) ?_ f
     refine { I1 with ss:=⟨fun i v k=>?_,fun i hi=>?_⟩ }
     ·rw[P2]
      by_cases e:i=t
      ·subst e
       rw[if_pos rfl,Rep]
       have:=I.ss.slot i v k
       rw[hs,Rep] at this
       subst this
       exact⟨Gz sz,none,0,⟨by rw[Af,if_pos rfl],rfl⟩,rfl,Nat.le_refl _,.inl rfl⟩
      ·rw[if_neg e];exact I1.ss.slot i v k
     ·rw[P2]
      by_cases e:i=t
      ·subst e
       have:=I.ss.out i hi
       rw[hs] at this;cases this
      ·rw[if_neg e];exact I1.ss.out i hi
   ·exact P6 r I f
theorem XU {E:Env} {live roots:List Nat} (I:Inv Z nt J β st a w) (e:kJ E live roots st=some st'):∃ J' β',Inv Z nt J' β' st' a w:=by
 unfold kJ at e
 obtain⟨s1,m,n⟩:=ub e
 obtain⟨J1,β1,I1⟩:=P6 _ I m
 obtain⟨f,j⟩:=uc n
 simp at f j
 subst j
 obtain⟨hn,hs,hi,_⟩:=f
 have hn:=V4 hn
 have d:∀ b ∈ M3 (Am s1.h) (GG (Am s1.h) (DU (Am s1.h) (wI live s1.s++roots))),b ∈ GG (Am s1.h) (DU (Am s1.h) (wI live s1.s++roots)):=Qx hi
 refine⟨J1,SP _ _ β1,{ I1 with sim:=I1.sim.ren hn d,ss:=⟨fun i v q=>?_,fun i hi=>?_⟩,wr:=fun k t=>I1.wr k (Aih hn t),outs:=fun b x0 x h0 u y=>?_ }⟩
 ·rw[LL]
  cases z:J8 live i with
  | false=>simp[Rep]
  | true =>
   simp only[if_true]
   exact Rep.ren hn (fun b A=>Qx hs b (wb z b A)) (I1.ss.slot i v q)
 ·rw[LL,I1.ss.out i hi];simp[eg]
 ·obtain⟨C,x',c,l,D,rfl⟩:=P5 hn b x u
  have:=rI c ⟨I1.zge b x0 h0,I1.zlt b x0 h0⟩ l
  subst this
  obtain⟨⟨e1,em⟩,F,e3,e4⟩:=I1.outs C x0 x' h0 D y
  refine⟨⟨?_,em⟩,F,by rw[Om];exact e3,e4⟩
  have:=H6 (β:=β1) hn c
  rw[l] at this
  rw[this];exact e1
end
end Gx

namespace Gx
open Go
section
variable {R:Type} {r:R} {Z:Start} {E:Env}
theorem Ana (hC:jU E) (z:E.P.follows .mixedOrders=true) {roots:List Nat} {N:Nat}:∀ (c:Code) {H:Hint} {kn:St→O R} {kx:Nat→St→O R} {kr:St→O R} {st:St} {a:Act} {w:World} {J:Bool→Nat→Prop} {β:Cj} {Q:Exit→Act→World→Prop},
  Inv Z E.nt J β st a w→G0 E roots N c H kn kx kr st=some r →
  (∀ st' d w' J' β',Inv Z E.nt J' β' st' d w'→kn st'=some r→Q .normal d w') →
  (∀ id st' d w' J' β',Inv Z E.nt J' β' st' d w'→kx id st'=some r→Q (.exit id) d w') →
  (∀ st' d w' J' β',Inv Z E.nt J' β' st' d w'→kr st'=some r→Q .ret d w')→c.wp E.P Q a w:=by
 intro c
 induction c with
 | skip=>intro H kn kx kr st a w J β Q I b hn e hr;exact wp_skip (hn _ _ _ _ _ I b)
 | region id ops draw=>intro H kn kx kr st a w J β Q I b hn e hr;exact Abx hC z I b hn
 | seq x y i f =>
  intro H kn kx kr st a w J β Q I b hn e hr
  rw[G0] at b
  refine wp_seq (i I b (fun st' d w' J' β' I' h'=>?_) (fun id st' d w' J' β' I' h'=>e id st' d w' J' β' I' h') (fun st' d w' J' β' I' h'=>hr st' d w' J' β' I' h'))
  unfold Axf at h'
  cases l:H.isJoin with
  | true =>
   rw[l,cond_true,GH] at h'
   obtain⟨s2,m,q⟩:=ub h'
   obtain⟨J2,β2,I2⟩:=XU I' m
   exact f I2 q hn e hr
  | false=>rw[l] at h';exact f I' h' hn e hr
 | cond c x y i f =>
  intro H kn kx kr st a w J β Q I b hn e hr
  rw[G0] at b
  split at b
  ·rename_i t A
   have v:=Bi I.ss c
   rw[A,Rep] at v
   refine wp_cond v ?_
   cases t with
   | true=>exact i I b hn e hr
   | false=>exact f I b hn e hr
  ·simp at b
 | block id c s =>
  intro H kn kx kr st a w J β Q I b hn e hr
  rw[G0] at b
  refine wp_block (s I b (fun st' d w' J' β' I' h'=>hn _ _ _ _ _ I' h') (fun j st' d w' J' β' I' h'=>?_) (fun st' d w' J' β' I' h'=>hr _ _ _ _ _ I' h'))
  cases l:Nat.beq j id with
  | true =>
   rw[l] at h'
   have:=Nat.eq_of_beq_eq_true l
   subst this
   simp only[Exit.inBlock,if_true]
   exact hn _ _ _ _ _ I' h'
  | false =>
   rw[l] at h'
   simp only[Exit.inBlock]
   rw[if_neg (AE l)]
   exact e _ _ _ _ _ _ I' h'
 | loop c s =>
  intro H kn kx kr st a w J β Q I b hn e hr
  rw[G0,GH] at b
  refine wp_loop_rounds N ?_
  have key:∀ (n:Nat) {st:St} {a:Act} {w:World} {J:Bool→Nat→Prop} {β:Cj},Inv Z E.nt J β st a w→XK (kJ E H.live roots) (fun k st=>G0 E roots N c H.a k kx kr st) n st=some r→Code.rounds E.P c Q n a w:=by
   intro n
   induction n with
   | zero=>intro st a w J β I h';simp[XK] at h'
   | succ n u =>
    intro st a w J β I h'
    rw[XK] at h'
    rw[rounds_succ]
    refine s I h' (fun st' d w' J' β' I' h''=>?_) (fun id st' d w' J' β' I' h''=>e _ _ _ _ _ _ I' h'') (fun st' d w' J' β' I' h''=>hr _ _ _ _ _ I' h'')
    obtain⟨s2,m,q⟩:=ub h''
    obtain⟨J2,β2,I2⟩:=XU I' m
    exact u I2 q
  obtain⟨s2,m,q⟩:=ub b
  obtain⟨J2,β2,I2⟩:=XU I m
  exact key N I2 q
 | exit id=>intro H kn kx kr st a w J β Q I b hn e hr;exact wp_exit (e _ _ _ _ _ _ I b)
 | ret=>intro H kn kx kr st a w J β Q I b hn e hr;exact wp_ret (hr _ _ _ _ _ I b)
 | rangeFunc=>intro H kn kx kr st a w J β Q I b;simp[G0] at b
 | scope=>intro H kn kx kr st a w J β Q I b;simp[G0] at b
 | label=>intro H kn kx kr st a w J β Q I b;simp[G0] at b
 | goto=>intro H kn kx kr st a w J β Q I b;simp[G0] at b
 | refuse=>intro H kn kx kr st a w J β Q I b;simp[G0] at b
end
end Gx

namespace Gx
open Go
structure FDone (Z:Start) (J:Bool→Nat→Prop) (β:Cj) (h:Aj) (w:World):Prop where
 sim:SimH J β h w
 os:w.os=Z.w.os
 tape:w.tape=Z.w.tape
 output:w.output=Z.w.output
 size:Z.w.heap.size≤w.heap.size
 frame:∀ k,k<Z.w.heap.size→¬ Amf Z.β Z.h k→w.heap[k]?=Z.w.heap[k]?
 wr:∀ k,Amf β h k→k<Z.w.heap.size→Amf Z.β Z.h k
 jsub:∀ o k,Z.J o k→J o k
 jup:∀ o k,J o k→Z.J o k∨Amf Z.β Z.h k∨Z.w.heap.size≤k
 sizes:∀ k,Bh Z.w k≤Bh w k
 outs:∀ b x0 x,Am Z.h b=some x0→Am h b=some x→x.dead=false→(β b=Z.β b∧x.mp=x0.mp)∧x.sz=x0.sz∧(x0.mp=false→x.cells.length=x0.cells.length)∧x0.dead=false
 live:∀ b x,Am h b=some x→x.dead=false
def A4v (P:Program) (f:Nat) (args:LA) (h:Aj) (res:AV) (h':Aj):Prop :=
 ∀ (J:Bool→Nat→Prop) (β:Cj) (w:World) (vs:List Value),SimH J β h w→Reps J β h w args vs →
  Calls P f vs.toArray w fun e w'=>∃ vc J' β',e=.returned vc∧FDone ⟨J,β,h,w⟩ J' β' h' w'∧Rep J' β' h' w' res vc
def Asq (P:Program) (f:Nat) (t:Tw):Prop:=∀ args h res h',(t.runK args h fun v h'=>some (v,h'))=some (res,h')→A4v P f args h res h'
def wt (P:Program):List (Nat×Tw)→Prop
 | []=>True
 | p::r=>Asq P p.1 p.2∧wt P r
theorem Anb {P:Program} {R:Type} {r:R}:∀ {T:List (Nat×Tw)},wt P T→∀ {f:Nat} {b:LA} {h:Aj} {k:AV→Aj→O R},kG T f b h k=some r →
  ∃ c h',A4v P f b h c h'∧k c h'=some r
 | [],_,f,b,h,k,d=>by simp[kG] at d
 | (g,t)::T,hT,f,b,h,k,d=>by
  rw[kG] at d
  cases e:Nat.beq g f with
  | false=>rw[e] at d;exact Anb hT.2 d
  | true =>
   rw[e] at d
   have:=Nat.eq_of_beq_eq_true e
   subst this
   simp only[cond_true] at d
   rw[t.eq] at d
   obtain⟨⟨c,h'⟩,i,j⟩:=ub d
   exact⟨c,h',hT.1 b h c h' i,j⟩
section
variable {R:Type} {r:R} {Z:Start} {nt:Nat} {J:Bool→Nat→Prop} {β:Cj} {st:St} {a:Act} {w:World}
def kU (tmps:Array Value):ResultVar→Sem Value
 | .tmp t=>pure (tmps.getD t undef)
 | .cell a t=>do loadVar t (←Go.asAddr (tmps.getD a undef))
theorem A0l {α β:Type} (f:α→Sem β) (xs:Array α):xs.mapM f=(List.toArray <$> xs.toList.mapM f):=by
 rw[←List.mapM_toArray]
theorem Asr (fn:Func) (tmps:Array Value):results fn tmps=(do let vs ←fn.results.mapM (kU tmps);pure (if h:vs.size=1 then vs[0] else .tuple vs)):=by
 unfold results
 congr 1
def Anc (l:List Value):Value:=match l with | [v]=>v | l=>.tuple l.toArray
theorem And {P:Program} (fn:Func) (tmps:Array Value) {vs:List Value} (h:(fn.results.toList.mapM (kU tmps)).run P w=.ok vs w):(results fn tmps).run P w=.ok (Anc vs) w:=by
 rw[Asr,A0l]
 simp only[map_eq_pure_bind,Sem.run_bind,h,Result.andThen_ok,Sem.run_pure]
 congr 1
 match vs with
 | []=>rfl
 | [v]=>rfl
 | v::u::r=>simp[Anc]
theorem Ane {P:Program} {t:TypeId} {v vc:Value} (h:(Instr.loadAt t v).run P w=.ok vc w):(do loadVar t (←Go.asAddr v):Sem Value).run P w=.ok vc w:=by
 unfold Instr.loadAt at h
 cases v with
 | pointer a =>
  cases a with
  | some a=>exact h
  | none=>simp[Instr.sureAddr] at h
 | _=>simp[Instr.sureAddr] at h
theorem JR {E:Env} (S:SimH J β st.h w) (SS:SimS J β st.h w st.s a.tmps):∀ (l:List ResultVar) {b:LA} {k:LA→O R},P1 E st l b k=some r →
  ∃ vals vs,k (b.reverse++vals)=some r∧(l.mapM (kU a.tmps)).run E.P w=.ok vs w∧Reps J β st.h w vals vs
 | [],b,k,c=>⟨[],[],by simpa[P1] using c,by simp,by rw[Reps]⟩
 | .tmp t::l,b,k,c=>by
  rw[P1] at c
  obtain⟨vals,vs,d,e,f⟩:=JR S SS l c
  refine⟨Gw st.s t::vals,a.tmps.getD t undef::vs,by simpa using d,?_,by rw[Reps];exact⟨_,_,rfl,Bi SS (.tmp t),f⟩⟩
  simp only[List.mapM_cons,kU,Sem.run_bind,Sem.run_pure,Result.andThen_ok,e]
 | .cell ad t::l,b,k,c=>by
  rw[P1] at c
  obtain⟨v,vc,h0,d,e⟩:=qu S (fun _ _ h=>h) c (Bi SS (.tmp ad))
  obtain⟨vals,vs,f,i,j⟩:=JR S SS l h0
  refine⟨v::vals,vc::vs,by simpa using f,?_,by rw[Reps];exact⟨_,_,rfl,e,j⟩⟩
  have:(kU a.tmps (.cell ad t)).run E.P w=.ok vc w:=Ane d
  simp only[List.mapM_cons,Sem.run_bind,this,Sem.run_pure,Result.andThen_ok,i]
theorem Ass {i:Nat} {m:Nat×Nat} {v v':AV} {ups:Fp} {vc:Value} {h:Aj} (S:SimH J β h w) (d:A3x (Am h) i m v=some (v',ups)) (f:Rep J β h w v vc) :
  ∃ J' β',Step J β h w J' β' (Al ups h) w∧Rep J' β' (Al ups h) w v' vc∧(∀ b x,Am (Al ups h) b=some x→Am h b=none→Ir≤b):=by
 have old:∀ {ups:Fp},(∀ b,Be ups b=true→∃ x,Am h b=some x)→∀ b x,Am (Al ups h) b=some x→Am h b=none→Ir≤b:=by
  intro ups z b x j hn
  cases hi:Be ups b with
  | true=>obtain⟨y,C⟩:=z b hi;rw[C] at hn;cases hn
  | false=>rw[C0 _ _ _ hi,hn] at j;cases j
 unfold A3x at d
 cases h0:Nat.beq m.1 0 with
 | true =>
  rw[h0] at d;simp at d
  obtain⟨rfl,rfl⟩:=d
  exact⟨J,β,Step.refl S,f,old (by simp[Be])⟩
 | false =>
  rw[h0,cond_false] at d
  cases t:Nat.beq m.1 1 with
  | true =>
   rw[t,cond_true] at d
   split at d
   ·simp at d;obtain⟨rfl,rfl⟩:=d
    rw[Rep] at f;subst f
    refine⟨J,β,Step.refl S,?_,old (by simp[Be])⟩
    rw[Rep,RepC]
    exact⟨by simp,none,0,rfl,Nat.le_refl _,by simp,.inl rfl⟩
   ·simp at d;obtain⟨rfl,rfl⟩:=d
    refine⟨J,β,Step.refl S,?_,old (by simp[Be])⟩
    rw[Rep,RepC] at f ⊢
    obtain⟨e1,A,cap,D,e3,e4,F⟩:=f
    exact⟨e1,A,cap,D,e3,by simp,F⟩
   ·obtain⟨⟨G,I,K⟩,hq,l⟩:=ub d
    simp at l;obtain⟨rfl,rfl⟩:=l
    obtain⟨J',A,hA,_⟩:=XN S (Looks.s fun _ _ h=>h) hq f
    refine⟨J',β,A,?_,old (Ae2 hq)⟩
    unfold fT at hq
    obtain⟨x,j,k⟩:=ub hq
    obtain⟨_,u⟩:=uc k
    simp at u
    obtain⟨rfl,rfl,rfl⟩:=u
    rw[Rep];exact hA
   ·simp at d
  | false =>
   rw[t,cond_false] at d
   cases l:Nat.beq m.1 2 with
   | true =>
    rw[l,cond_true] at d
    split at d
    ·obtain⟨hn,k⟩:=Ar7 d
     simp at k;obtain⟨rfl,rfl⟩:=k
     have q:Am h (nid 90000+i)=none:=by cases j:Am h (nid 90000+i)<;>simp_all
     have A:=Step.newNone S (x:=Gz m.2) q rfl
     refine⟨J,fun b=>if b=nid 90000+i then none else β b,A,?_,fun b x j L=>?_⟩
     ·rw[Rep] at f;subst f;rw[Rep]
      exact⟨Gz m.2,none,0,⟨by simp only[Al];rw[Af,if_pos rfl],rfl⟩,rfl,Nat.le_refl _,.inl rfl⟩
     ·simp only[Al] at j
      rw[Af] at j
      by_cases e:b=nid 90000+i
      ·subst e;unfold nid Ir;omega
      ·rw[if_neg e,L] at j;cases j
    ·simp at d;obtain⟨rfl,rfl⟩:=d
     exact⟨J,β,Step.refl S,f,old (by simp[Be])⟩
   | false =>
    rw[l,cond_false] at d
    split at d
    ·rename_i c
     obtain⟨⟨G,I,K⟩,hq,k⟩:=ub d
     simp at k;obtain⟨rfl,rfl⟩:=k
     rw[Rep] at f
     obtain⟨cs,rfl,M⟩:=f
     obtain⟨J',A,hA,n,_⟩:=Tz S (Looks.s fun _ _ h=>h) hq M
     refine⟨J',β,A,?_,old (DY hq)⟩
     rw[Rep]
     exact⟨cs,rfl,n.symm,hA⟩
    ·simp at d;obtain⟨rfl,rfl⟩:=d
     exact⟨J,β,Step.refl S,f,old (by simp[Be])⟩
    ·simp at d
theorem rJ {s:H3}:∀ (vals:LA) {i:Nat} {ms:List (Nat×Nat)} {h h':Aj} {vals':LA} {vs:List Value} {J:Bool→Nat→Prop} {β:Cj},
  Inv Z nt J β { s:=s,h:=h } a w→Amd h i ms vals=some (vals',h')→Reps J β h w vals vs →
  ∃ J' β',Inv Z nt J' β' { s:=s,h:=h' } a w∧Reps J' β' h' w vals' vs∧∀ x v,Rep J β h w x v→Rep J' β' h' w x v
 | [],i,ms,h,h',vals',vs,J,β,I,b,d=>by
  simp[Amd] at b;obtain⟨rfl,rfl⟩:=b
  exact⟨J,β,I,d,fun _ _ h=>h⟩
 | v::r,i,ms,h,h',vals',vs,J,β,I,b,d=>by
  rw[Amd] at b
  obtain⟨⟨v1,u1⟩,l,m⟩:=ub b
  obtain⟨⟨q,hr⟩,n,j⟩:=ub m
  simp at j;obtain⟨rfl,rfl⟩:=j
  rw[Reps] at d
  obtain⟨u,us,rfl,e,f⟩:=d
  obtain⟨J1,β1,A,hA,c⟩:=Ass I.sim l e
  have I1:=I.step A c
  obtain⟨J2,β2,I2,hB,k⟩:=rJ r I1 n (Reps.ext A.ext f)
  refine⟨J2,β2,I2,?_,fun x v h=>k x v (Rep.ext A.ext h)⟩
  rw[Reps]
  exact⟨u,us,rfl,k _ _ hA,hB⟩
theorem Aby {E:Env} {fn:Func} {modes:List (Nat×Nat)} {outs:List Nat} {k:AV→Aj→O R} (I:Inv Z nt J β st a w) (q:BO E fn modes outs k st=some r) :
  ∃ e h' vc J' β',k e h'=some r∧(results fn a.tmps).run E.P w=.ok vc w∧FDone Z J' β' h' w∧Rep J' β' h' w e vc:=by
 unfold BO at q
 obtain⟨vals,vs,t,C,D⟩:=JR I.sim I.ss _ q
 simp only[List.reverse_nil,List.nil_append] at t
 obtain⟨⟨vals',h'⟩,F,G⟩:=ub t
 obtain⟨J1,β1,I1,hR,_⟩:=rJ (s:=st.s) vals I F D
 obtain⟨y,K⟩:=uc G
 simp at y
 obtain⟨hn,hs,hi,_⟩:=y
 have hn:=V4 hn
 have f:=Qx hi
 have hs:=Qx hs
 refine⟨_,_,Anc vs,J1,SP _ _ β1,K,And fn a.tmps C,?_,Rep.ren hn hs ?_⟩
 ·exact⟨I1.sim.ren hn f,I1.os,I1.tape,I1.output,I1.size,I1.frame,fun k L=>I1.wr k (Aih hn L),I1.jsub,I1.jup,I1.sizes,fun b x0 x h0 i M=>by
   obtain⟨z,x',d,j,m,rfl⟩:=P5 hn b x i
   have:=rI d ⟨I1.zge b x0 h0,I1.zlt b x0 h0⟩ j
   subst this
   obtain⟨⟨e1,em⟩,S,e3,e4⟩:=I1.outs z x0 x' h0 m M
   refine⟨⟨?_,em⟩,S,by rw[Om];exact e3,e4⟩
   have:=H6 (β:=β1) hn d
   rw[j] at this
   rw[this];exact e1,fun b x i=>by
   obtain⟨z,x',d,j,m,rfl⟩:=P5 hn b x i
   obtain⟨x2,n,T⟩:=Am9 d
   rw[m] at n;simp at n;subst n;exact T⟩
 ·match vals',vs,hR with
  | [],vs,hR=>rw[Reps] at hR;subst hR;simp only[Anc,A3y];rw[Rep];exact⟨[],rfl,by rw[Reps]⟩
  | [v],vs,hR =>
   rw[Reps] at hR
   obtain⟨u,us,rfl,A,c⟩:=hR
   rw[Reps] at c;subst c
   exact A
  | v::v2::l,vs,hR =>
   have hR':=hR
   rw[Reps] at hR
   obtain⟨u,us,rfl,A,c⟩:=hR
   rw[Reps] at c
   obtain⟨u2,us2,rfl,_,_⟩:=c
   simp only[Anc,A3y]
   rw[Rep]
   exact⟨_,rfl,hR'⟩
end
end Gx

namespace Gx
open Go
section
variable {J J':Bool→Nat→Prop} {β:Cj} {h:Aj} {w:World}
mutual
theorem Rep.noOrg:∀ {x:AV} {v:Value},JN x=false→Rep J β h w x v→Rep (fun _=>J false) β h w x v
 | .own ..,v,_,hr=>by rw[Rep] at hr ⊢;exact hr
 | .optr ..,v,_,hr=>by rw[Rep] at hr ⊢;exact hr
 | .omap ..,v,_,hr=>by rw[Rep] at hr ⊢;exact hr
 | .pagg c o,v,ho,hr=>by
  rw[JN] at ho;subst ho
  rw[Rep] at hr ⊢;exact hr
 | .agg c,v,ho,hr=>by
  rw[JN] at ho
  rw[Rep] at hr ⊢
  obtain⟨cs,h1,h2⟩:=hr
  exact⟨cs,h1,Reps.noOrg ho h2⟩
 | .tup c,v,ho,hr=>by
  rw[JN] at ho
  rw[Rep] at hr ⊢
  obtain⟨cs,h1,h2⟩:=hr
  exact⟨cs,h1,Reps.noOrg ho h2⟩
 | .fn f c,v,ho,hr=>by
  rw[JN] at ho
  rw[Rep] at hr ⊢
  obtain⟨cs,h1,h2⟩:=hr
  exact⟨cs,h1,Reps.noOrg ho h2⟩
 | .undef,_,_,_=>by rw[Rep];trivial
 | .imm c n sz t o,v,ho,hr=>by
  rw[JN] at ho;subst ho
  rw[Rep] at hr ⊢;exact hr
 | .iptr c o,v,ho,hr=>by
  rw[JN] at ho;subst ho
  rw[Rep] at hr ⊢;exact hr
 | .int ..,v,_,hr=>by rw[Rep] at hr ⊢;exact hr
 | .bool _,v,_,hr=>by rw[Rep] at hr ⊢;exact hr
 | .str _,v,_,hr=>by rw[Rep] at hr ⊢;exact hr
 | .nsl,v,_,hr=>by rw[Rep] at hr ⊢;exact hr
 | .nilptr,v,_,hr=>by rw[Rep] at hr ⊢;exact hr
 | .nilfn,v,_,hr=>by rw[Rep] at hr ⊢;exact hr
theorem Reps.noOrg:∀ {c:List AV} {cs:List Value},Xd c=false→Reps J β h w c cs→Reps (fun _=>J false) β h w c cs
 | [],_,_,hr=>by rw[Reps] at hr ⊢;exact hr
 | x::r,cs,ho,hr=>by
  rw[Xd] at ho
  simp at ho
  rw[Reps] at hr ⊢
  obtain⟨u,us,h1,h2,h3⟩:=hr
  exact⟨u,us,h1,Rep.noOrg ho.1 h2,Reps.noOrg ho.2 h3⟩
end
theorem wu:∀ {c:LA} {j:Nat} {x:AV},Xd c=false→c[j]?=some x→JN x=false
 | [],j,x,_,b=>by simp at b
 | y::r,j,x,d,b=>by
  rw[Xd] at d
  simp at d
  cases j with
  | zero=>simp at b;subst b;exact d.1
  | succ j=>exact wu d.2 (by simpa using b)
theorem wv:∀ {h:Aj} {b:Nat} {x:Blk},kH h=false→Am h b=some x→x.taint=false∧(x.pure=false→Xd x.cells=false)
 | [],b,x,_,c=>by simp[Am] at c
 | (i,y)::r,b,x,d,c=>by
  rw[kH] at d
  simp at d
  rw[Am] at c
  cases hi:Nat.beq i b with
  | true =>
   rw[hi] at c;simp at c;subst c
   refine⟨d.1.1,fun e=>?_⟩
   have:=d.1.2
   rw[e] at this;simpa using this
  | false=>rw[hi] at c;exact wv d.2 (by simpa using c)
theorem SimH.noOrg (S:SimH J β h w) (y:kH h=false):SimH (fun _=>J false) β h w:=by
 refine⟨fun _ k d=>S.jlt _ k d,fun k d=>d,S.gl.to (fun _ h=>h) (fun _ _=>rfl),fun b x e i l=>?_,fun b x e i l=>by
   obtain⟨m,n,k,ob,q,z,A,C⟩:=S.mblk b x e i l
   exact⟨m,n,k,ob,q,z,A,fun _ D=>C false D⟩,S.sep⟩
 obtain⟨t,F⟩:=wv y e
 rcases S.blk b x e i l with s | ⟨k,o,cs,ty,fr,s,G,I,K,v,L,M⟩
 ·exact .inl s
 ·refine .inr ⟨k,o,cs,ty,fr,s,G,I,K,⟨fun f=>?_,fun f j c d=>?_⟩,fun hs _=>L hs _,fun hs=>?_⟩
  ·have:=v.1 f;rw[t] at this;exact this
  ·obtain⟨u,m,n,q⟩:=v.2 f j c d
   exact⟨u,m,Rep.noOrg (wu (F f) d) n,q⟩
  ·have:=M hs;rw[t] at this;exact this
theorem Ext.grow (hJ:∀ o k,J o k→J' o k):Ext J β h w J' β h w:=⟨hJ,fun _ _ _=>rfl,fun b x c=>⟨x,⟨c,rfl⟩,by cases d:x.dead<;>simp⟩,fun _ _ _ _=>Nat.le_refl _⟩
theorem SimH.grow (S:SimH J β h w) (hJ:∀ o k,J o k→J' o k) (i:∀ o k,J' o k→k<w.heap.size) (j:∀ k,J' false k→J' true k)
  (c:∀ b x k o,Am h b=some x→x.dead=false→x.sealed=false→β b=some (k,o)→∀ g,¬ J' g k):SimH J' β h w:=by
 refine⟨i,j,S.gl.to (hJ false) (fun _ _=>rfl),fun b x d e l=>?_,fun b x d e l=>by
   obtain⟨q,m,k,ob,n,s,t,C⟩:=S.mblk b x d e l
   exact⟨q,m,k,ob,n,s,t,c b x k 0 d e m n⟩,S.sep⟩
 rcases S.blk b x d e l with f | ⟨k,o,cs,ty,fr,f,u,v,y,z,D,A⟩
 ·exact .inl f
 ·exact .inr ⟨k,o,cs,ty,fr,f,u,v,y,z.ext (Ext.grow hJ),fun hs=>c b x k o d e hs f,fun hs=>hJ _ _ (A hs)⟩
def A4w (β:Cj) (h:Aj) (fz:List Nat) (k:Nat):Prop:=∃ b x o,b ∈ fz∧Am h b=some x∧x.dead=false∧x.sealed=false∧β b=some (k,o)
def JS (J:Bool→Nat→Prop) (β:Cj) (h:Aj) (fz:List Nat):Bool→Nat→Prop:=fun o k=>J o k∨(o=true∧A4w β h fz k)
theorem ww {g:Bk} {b off n:Nat} {x:Blk} {vc:Value} {fz:List Nat} (S:SimH J β h w) (u:Looks g h) (c:Gy g b=some x) (v:x.pure=true) (y:x.sealed=false→b ∈ fz) (s:Rep J β h w (.own b off n) vc) :
  Rep (JS J β h fz) β h w (.imm ((x.cells.drop off).take (n*x.sz)) n x.sz false (!x.sealed||x.taint)) vc:=by
 unfold Gy at c
 obtain⟨x0,l,c⟩:=ub c
 obtain⟨m,c⟩:=Ar7 c
 simp at c;subst c
 have j:=u b _ l
 rw[Rep]
 have key:=(Awb (J':=fun o k=>o≠x0.taint∨JS J β h fz (!x0.sealed||x0.taint) k) S j m v s (fun k o q=>.inr ?_) (fun o k f=>?_) false (!x0.sealed||x0.taint)).2 (by simp)
 ·exact RepC.keep (fun k i=>by rcases i with i | i;exact absurd rfl i;exact i) (fun _ _=>rfl) key
 ·cases hs:x0.sealed with
  | false =>
   simp only[Bool.not_false,Bool.true_or]
   exact .inr ⟨rfl,b,x0,o,y hs,j,m,hs,q⟩
  | true =>
   simp only[Bool.not_true,Bool.false_or]
   rcases S.blk b x0 j m (A0c j s) with⟨d,_⟩ | ⟨A,o',cs,ty,fr,d,C,D,F,G,I,z⟩
   ·rw[q] at d;cases d
   ·rw[q] at d;simp at d;obtain⟨rfl,rfl⟩:=d
    exact .inl (z hs)
 ·by_cases e:o=x0.taint
  ·subst e
   right
   cases hs:x0.sealed with
   | false =>
    simp only[Bool.not_false,Bool.true_or]
    left
    cases t:x0.taint with
    | false=>rw[t] at f;exact S.jft k f
    | true=>rw[t] at f;exact f
   | true=>simp only[Bool.not_true,Bool.false_or];exact .inl f
  ·exact .inl e
theorem JS.mono (S:SimH J β h w) {fz:List Nat} {a b:Bool} (k:Nat) (c:JS J β h fz a k):JS J β h fz (a||b) k:=by
 cases a
 ·cases b
  ·exact c
  ·rcases c with c | ⟨d,_⟩
   ·exact .inl (S.jft k c)
   ·cases d
 ·exact c
theorem Abz {g:Bk} {v v':AV} {o:Bool} {vc:Value} {fz:List Nat} (S:SimH J β h w) (q:Looks g h) (d:O_ g v=some (v',o)) (s:∀ b off n x,v=.own b off n→g b=some x→x.sealed=false→b ∈ fz) (f:Rep J β h w v vc) :
  RepC (JS J β h fz o) w v' vc:=by
 cases v
 case own b off n =>
  rw[O_] at d
  obtain⟨x,e,u⟩:=ub d
  obtain⟨y,m⟩:=uc u
  simp at m
  obtain⟨rfl,rfl⟩:=m
  have:=ww S q e y (fun hs=>by
   unfold Gy at e
   obtain⟨x0,i,e⟩:=ub e
   obtain⟨F,e⟩:=Ar7 e
   simp at e;subst e
   exact s b off n x0 rfl i hs) f
  rw[Rep] at this;exact this
 case imm c n sz t org =>
  simp[O_] at d;obtain⟨rfl,rfl⟩:=d
  rw[Rep,RepC] at f
  rw[RepC]
  obtain⟨e1,A,cap,z,e3,e4,j⟩:=f
  refine⟨e1,A,cap,z,e3,by simp,?_⟩
  rcases j with j | ⟨a,C,D,e8⟩
  ·exact .inl j
  ·exact .inr ⟨a,C,.inl D,RepCs.keep (fun k l=>.inl l) (fun _ _=>rfl) (fun _=>rfl) e8⟩
 case iptr c org =>
  simp[O_] at d;obtain⟨rfl,rfl⟩:=d
  rw[Rep] at f
  exact RepC.keep (fun k l=>.inl l) (fun _ _=>rfl) f
 all_goals first
  | (simp[O_] at d;done)
  | (simp[O_] at d;obtain⟨rfl,rfl⟩:=d;rw[Rep] at f;rw[RepC];exact f)
theorem XV {g:Bk} {fz:List Nat} (S:SimH J β h w) (y:Looks g h):∀ {c f:LA} {o:Bool} {cs:List Value},XG g c=some (f,o)→(∀ b ∈ Lx g c,b ∈ fz)→Reps J β h w c cs →
  cs.length=f.length∧∀ (j:Nat) (x:AV),f[j]?=some x→∃ u,cs[j]?=some u∧RepC (JS J β h fz o) w x u
 | [],f,o,cs,d,m,i=>by
  simp[XG] at d;obtain⟨rfl,rfl⟩:=d
  rw[Reps] at i;subst i
  exact⟨rfl,fun j x l=>by simp at l⟩
 | v::r,f,o,cs,d,m,i=>by
  rw[XG] at d
  obtain⟨⟨v1,o1⟩,z,d⟩:=ub d
  obtain⟨⟨M,o2⟩,A,d⟩:=ub d
  simp at d;obtain⟨rfl,rfl⟩:=d
  rw[Reps] at i
  obtain⟨u,us,rfl,C,D⟩:=i
  have q:∀ b ∈ Lx g r,b ∈ fz:=fun b s=>m b (by
   cases v<;>simp only[Lx]<;>try exact s
   split
   ·rename_i x _;cases x.sealed<;>simp[s]
   ·exact s)
  have a1:=Abz (fz:=fz) S y z (fun b off n x e F hs=>m b (by subst e;simp[Lx,F,hs])) C
  obtain⟨G,I⟩:=XV S y A q D
  refine⟨by simp[G],fun j x l=>?_⟩
  cases j with
  | zero=>simp at l;subst l;exact⟨u,by simp,RepC.keep (fun k t=>JS.mono S k t) (fun _ _=>rfl) a1⟩
  | succ j =>
   obtain⟨K,e1,L⟩:=I j x (by simpa using l)
   exact⟨K,by simpa using e1,RepC.keep (fun k t=>by rw[Bool.or_comm];exact JS.mono S k t) (fun _ _=>rfl) L⟩
theorem Ab0 {g:Bk} {v v':AV} {q:Bool} {vc:Value} {fz:List Nat} (S:SimH J β h w) (C:Looks g h) (e:Aht g v=some (v',q)) (D:∀ b ∈ LB g v,b ∈ fz) (i:Rep J β h w v vc) :
  Rep (JS J β h fz) β h w v' vc∧H4 v'=[]:=by
 unfold Aht at e
 split at e
 ·rename_i b off n
  obtain⟨x,d,f⟩:=ub e
  obtain⟨F,m⟩:=uc f
  simp at m
  obtain⟨rfl,_⟩:=m
  exact⟨ww S C d F (fun hs=>by
   unfold Gy at d
   obtain⟨x0,s,d⟩:=ub d
   obtain⟨y,d⟩:=Ar7 d
   simp at d;subst d
   exact D b (by simp[LB,s,hs])) i,by simp[H4]⟩
 ·simp at e;obtain⟨rfl,_⟩:=e
  refine⟨?_,by simp[H4]⟩
  rw[Rep,RepC] at i ⊢
  obtain⟨e1,A,cap,G,e3,e4,I⟩:=i
  refine⟨e1,A,cap,G,e3,by simp,?_⟩
  rcases I with I | ⟨a,T,U,e8⟩
  ·exact .inl I
  ·exact .inr ⟨a,T,.inl U,RepCs.keep (fun k V=>.inl V) (fun _ _=>rfl) (fun _=>rfl) e8⟩
 ·rename_i b off
  obtain⟨x,d,f⟩:=ub e
  obtain⟨F,m⟩:=uc f
  simp at m
  obtain⟨rfl,_⟩:=m
  unfold Gy at d
  obtain⟨x0,s,d⟩:=ub d
  obtain⟨y,d⟩:=Ar7 d
  simp at d;subst d
  have K:=C b _ s
  refine⟨?_,by simp[H4]⟩
  rw[Rep] at i
  obtain⟨x1,k,o,⟨L,gm⟩,X,t⟩:=i
  rw[K] at L;simp at L;subst L
  rcases t with t | t
  ·simp[y] at t
  ·rcases S.blk b x0 K y gm with⟨f,_⟩ | ⟨k',o',cs,ty,fr,f,m,h3,h4,Y,h6,h7⟩
   ·rw[t] at f;cases f
   ·rw[t] at f;simp at f;obtain⟨rfl,rfl⟩:=f
    have M:∀ z,J x0.taint z→JS J β h fz (!x0.sealed||x0.taint) z:=by
     intro z l
     left
     cases hs:x0.sealed with
     | false =>
      simp only[Bool.not_false,Bool.true_or]
      cases O:x0.taint with
      | false=>rw[O] at l;exact S.jft z l
      | true=>rw[O] at l;exact l
     | true=>simp only[Bool.not_true,Bool.false_or];exact l
    rw[Rep,RepC]
    refine⟨_,X,?_,?_⟩
    ·cases hs:x0.sealed with
     | false =>
      simp only[Bool.not_false,Bool.true_or]
      exact .inr ⟨rfl,b,x0,o,D b (by simp[LB,s,hs]),K,y,hs,t⟩
     | true =>
      simp only[Bool.not_true,Bool.false_or]
      exact .inl (h7 hs)
    ·refine RepCs.keep M (fun _ _=>rfl) (fun j=>?_) ((Y.1 F).drop off)
     rw[Addr.add_mid,Ty m,Nat.add_assoc]
 ·rename_i c
  obtain⟨⟨c1,o1⟩,f,m⟩:=ub e
  simp at m;obtain⟨rfl,_⟩:=m
  rw[Rep] at i
  obtain⟨cs,rfl,i⟩:=i
  obtain⟨b1,b2⟩:=XV (fz:=fz) S C f (by simpa[LB] using D) i
  refine⟨?_,by simp[H4]⟩
  rw[Rep]
  refine⟨cs,rfl,b1,?_⟩
  rw[Bz]
  intro j x l
  obtain⟨u,e1,G⟩:=b2 j x l
  exact⟨u,by simpa using e1,G⟩
 ·simp at e;obtain⟨rfl,_⟩:=e
  exact⟨Rep.ext (Ext.grow fun _ _ l=>.inl l) i,by simp[H4,J7]⟩
 ·simp at e
 ·simp at e
 ·simp at e
 ·simp at e
 ·simp at e;obtain⟨rfl,_⟩:=e
  refine⟨Rep.ext (Ext.grow fun _ _ l=>.inl l) i,?_⟩
  cases v<;>first | rfl | simp_all
theorem EB {g:Bk} {fz:List Nat} (S:SimH J β h w) (n:Looks g h):∀ {f:LA} {ms:List Bool} {args':LA} {im e:List Nat} {vs:List Value},
  LC g ms f=some (args',im,e)→(∀ b ∈ e,b ∈ fz)→Reps J β h w f vs→Reps (JS J β h fz) β h w args' vs∧∀ b ∈ J7 args',b ∈ im
 | [],ms,args',im,e,vs,d,m,i=>by
  simp[LC] at d;obtain⟨rfl,rfl,rfl⟩:=d
  rw[Reps] at i;subst i
  exact⟨by rw[Reps],by simp[J7]⟩
 | v::r,ms,args',im,e,vs,d,m,i=>by
  rw[LC] at d
  rw[Reps] at i
  obtain⟨u,us,rfl,j,k⟩:=i
  cases x:ms.headD false with
  | true =>
   rw[x,cond_true] at d
   obtain⟨⟨a2,i2,y⟩,q,l⟩:=ub d
   simp at l;obtain⟨rfl,rfl,rfl⟩:=l
   obtain⟨s,t⟩:=EB S n q m k
   refine⟨by rw[Reps];exact⟨u,us,rfl,Rep.ext (Ext.grow fun _ _ z=>.inl z) j,s⟩,fun b c=>?_⟩
   rw[J7] at c
   rcases List.mem_append.1 c with c | c
   ·exact List.mem_append.2 (.inl c)
   ·exact List.mem_append.2 (.inr (t b c))
  | false =>
   rw[x,cond_false] at d
   obtain⟨⟨v1,C⟩,h0,d⟩:=ub d
   obtain⟨⟨a2,i2,y⟩,q,l⟩:=ub d
   simp at l;obtain⟨rfl,rfl,rfl⟩:=l
   obtain⟨e1,A⟩:=Ab0 S n h0 (fun b c=>m b (List.mem_append.2 (.inl c))) j
   obtain⟨s,t⟩:=EB S n q (fun b c=>m b (List.mem_append.2 (.inr c))) k
   refine⟨by rw[Reps];exact⟨u,us,rfl,e1,s⟩,fun b c=>?_⟩
   rw[J7,A] at c
   exact t b (by simpa using c)
end
end Gx

namespace Gx
open Go
theorem Ae8 {g g':Bk} {ρ:Nat→Nat}:∀ {ids:List Nat},(∀ b ∈ ids,g b=g' b)→sub g ρ ids=sub g' ρ ids
 | [],_=>rfl
 | b::r,h=>by
  rw[sub,sub,h b (by simp),Ae8 (fun c d=>h c (by simp[d]))]
theorem XW {g:Bk}:∀ {l:List Nat},XI g l=true→∀ b ∈ l,∃ x,g b=some x∧x.dead=false
 | [],_,b,c=>by simp at c
 | i::r,h,b,c=>by
  rw[XI] at h
  simp at h
  rcases List.mem_cons.1 c with rfl | c
  ·cases d:g b with
   | none=>rw[d] at h;simp at h
   | some x=>rw[d] at h;exact⟨x,rfl,by simpa using h.1⟩
  ·exact XW h.2 b c
theorem Awj:∀ {l m:List Nat},Amb l m=true→∀ b ∈ l,b ∉ m
 | [],m,_,b,c=>by simp at c
 | i::r,m,h,b,c=>by
  rw[Amb] at h
  simp at h
  rcases List.mem_cons.1 c with rfl | c
  ·intro d;have:=M5.2 d;rw[this] at h;simp at h
  ·exact Awj h.2 b c
theorem LM {d:Nat}:∀ {l:List (Nat×Nat)} {b:Nat},b ∈ l.map (·.1)→Kh d l b ∈ l.map (·.2)
 | [],b,c=>by simp at c
 | (i,x)::r,b,c=>by
  rw[Kh]
  cases hi:Nat.beq i b with
  | true=>simp
  | false =>
   have e:b ∈ r.map (·.1):=by
    rw[List.map_cons] at c
    rcases List.mem_cons.1 c with h | h
    ·exact absurd h.symm (AE hi)
    ·exact h
   simp only[cond_false,List.map_cons]
   exact List.mem_cons_of_mem _ (LM e)
theorem BS {d:Nat}:∀ {l m:List (Nat×Nat)} {b:Nat},Kh d (l++m) b=if b ∈ l.map (·.1) then Kh d l b else Kh d m b
 | [],m,b=>by simp
 | (i,x)::r,m,b=>by
  rw[List.cons_append,Kh,Kh,BS]
  cases hi:Nat.beq i b with
  | true=>have:=Nat.eq_of_beq_eq_true hi;subst this;simp
  | false =>
   have:=AE hi
   simp only[cond_false,List.map_cons,List.mem_cons]
   by_cases c:b ∈ r.map (·.1)
   ·rw[if_pos c,if_pos (.inr c)]
   ·rw[if_neg c,if_neg (by rintro(h | h);exact this h.symm;exact c h)]
theorem Lz:∀ {base:Nat} {l:List Nat},(A8 base l).map (·.1)=l
 | _,[]=>rfl
 | base,i::r=>by rw[A8,List.map_cons,Lz]
theorem wx {d f:Nat}:∀ {l:List Nat} {base b:Nat},b ∈ l→Kh f ((A8 base l).map fun p=>(p.2,p.1)) (Kh d (A8 base l) b)=b
 | [],base,b,c=>by simp at c
 | i::r,base,b,c=>by
  rw[A8,Kh,List.map_cons,Kh]
  cases hi:Nat.beq i b with
  | true=>have:=Nat.eq_of_beq_eq_true hi;subst this;simp
  | false =>
   have e:b ∈ r:=by
    rcases List.mem_cons.1 c with h | h
    ·exact absurd h.symm (AE hi)
    ·exact h
   simp only[cond_false]
   have j:=EA (d:=d) (base:=base+1) e
   rw[WP (show base≠Kh d (A8 (base+1) r) b by omega)]
   exact wx e
theorem V6:∀ {base:Nat} {l:List Nat} {c:Nat},c ∈ (A8 base l).map (·.2)→base≤c∧c<base+l.length
 | _,[],c,b=>by simp[A8] at b
 | base,i::r,c,b=>by
  rw[A8,List.map_cons] at b
  rcases List.mem_cons.1 b with h | h
  ·simp at h;subst h;simp
  ·have:=V6 h;simp only[List.length_cons];omega
theorem EC:∀ {base:Nat} {l:List Nat},((A8 base l).map (·.2)).Nodup
 | _,[]=>by simp[A8]
 | base,i::r=>by
  rw[A8,List.map_cons,List.nodup_cons]
  exact⟨fun h=>by have:=V6 h;simp at this;omega,EC⟩
theorem XX:∀ {base:Nat} {l:List Nat} {b:Nat},b ∈ l→(b,Kh 0 (A8 base l) b) ∈ A8 base l
 | _,[],b,c=>by simp at c
 | base,i::r,b,c=>by
  rw[A8,Kh]
  cases hi:Nat.beq i b with
  | true=>have:=Nat.eq_of_beq_eq_true hi;subst this;simp
  | false =>
   have d:b ∈ r:=by
    rcases List.mem_cons.1 c with h | h
    ·exact absurd h.symm (AE hi)
    ·exact h
   simp only[cond_false]
   exact List.mem_cons_of_mem _ (XX d)
def Ast (x:Blk):Blk:={ x with dead:=true,pure:=true,cells:=[] }
theorem On:∀ {ups:Fp} {h:Aj} {b:Nat} {o:Option Blk},(ups.map (·.1)).Nodup→(b,o) ∈ ups→Am (Al ups h) b=match o with | some x=>some x | none=>(Am h b).map Ast
 | [],h,b,o,_,j=>by simp at j
 | (i,y)::r,h,b,o,hn,j=>by
  rw[List.map_cons,List.nodup_cons] at hn
  rcases List.mem_cons.1 j with k | c
  ·simp at k
   obtain⟨rfl,rfl⟩:=k
   have d:Be r b=false:=by
    have:∀ {r:Fp},b ∉ r.map (·.1)→Be r b=false:=by
     intro r
     induction r with
     | nil=>intro _;rfl
     | cons p r l =>
      intro h
      simp only[List.map_cons,List.mem_cons,not_or] at h
      rw[Be,WP (fun e=>h.1 e.symm)]
      exact l h.2
    exact this hn.1
   cases o with
   | some x=>rw[Al,C0 _ _ _ d,Af,if_pos rfl]
   | none =>
    rw[Al,C0 _ _ _ d]
    cases m:Am h b with
    | none=>simp[m]
    | some x=>simp only[Option.map_some];rw[Af,if_pos rfl];rfl
  ·have f:b≠i:=fun e=>by subst e;exact hn.1 (List.mem_map.2 ⟨_,c,rfl⟩)
   cases y with
   | some x =>
    rw[Al,On hn.2 c]
    cases o with
    | some _=>rfl
    | none=>simp only;rw[Af,if_neg f]
   | none =>
    rw[Al,On hn.2 c]
    cases o with
    | some _=>rfl
    | none =>
     simp only
     split
     ·rw[Af,if_neg f]
     ·rfl
theorem p6:∀ {ups:Fp} {b:Nat},Be ups b=true↔b ∈ ups.map (·.1)
 | [],b=>by simp[Be]
 | (i,y)::r,b=>by
  rw[Be,List.map_cons,List.mem_cons,←p6]
  cases hi:Nat.beq i b with
  | true=>have:=Nat.eq_of_beq_eq_true hi;subst this;simp
  | false=>have:=AE hi;simp;intro e;exact absurd e.symm this
theorem wy {β:Cj} {h:Aj} {ρ:Nat→Nat} {ids:List Nat} (hn:(ids.map ρ).Nodup) {k:Nat} (f:Amf (SP ρ ids β) (sub (Am h) ρ ids) k) :
  ∃ b x o,b ∈ ids∧Am h b=some x∧x.dead=false∧x.sealed=false∧β b=some (k,o):=by
 obtain⟨c,y,o,i,j,hs,d⟩:=f
 obtain⟨b,x,e,rfl,l,rfl⟩:=P5 hn c y i
 rw[H6 hn e] at d
 exact⟨b,x,o,e,l,j,hs,d⟩
theorem SimH.unJ {J:Bool→Nat→Prop} {β:Cj} {h:Aj} {w:World} (S:SimH J β h w) {b:Nat} {x:Blk} {k o:Nat} (e:Am h b=some x) (f:x.dead=false) (hs:x.sealed=false) (d:β b=some (k,o)):∀ g,¬ J g k:=by
 cases i:x.mp with
 | false =>
  rcases S.blk b x e f i with⟨c,_⟩ | ⟨l,o2,cs,ty,fr,c,j,n,q,s,m,t⟩
  ·rw[d] at c;cases c
  ·rw[d] at c;simp at c;obtain⟨rfl,rfl⟩:=c
   exact m hs
 | true =>
  obtain⟨_,_,l,ob,c,_,_,j⟩:=S.mblk b x e f i
  rw[d] at c;simp at c;obtain⟨rfl,_⟩:=c
  exact j
theorem SimH.seJ {J:Bool→Nat→Prop} {β:Cj} {h:Aj} {w:World} (S:SimH J β h w) {b:Nat} {x:Blk} {k o:Nat} (d:Am h b=some x) (e:x.dead=false) (hs:x.sealed=true) (f:β b=some (k,o)):J x.taint k:=by
 cases i:x.mp with
 | false =>
  rcases S.blk b x d e i with⟨c,_⟩ | ⟨l,o2,cs,ty,fr,c,m,n,q,s,t,j⟩
  ·rw[f] at c;cases c
  ·rw[f] at c;simp at c;obtain⟨rfl,rfl⟩:=c
   exact j hs
 | true =>
  have:=(S.mblk b x d e i).2.1
  rw[hs] at this;cases this
theorem Step.merge {J J0 J1:Bool→Nat→Prop} {β β1:Cj} {h O H:Aj} {w w':World} {D ids:List Nat} (S:SimH J β h w) (S1:SimH J0 β1 O w')
  (hH:∀ b,b ∉ D→Am H b=Am h b)
  (hD:∀ b x,b ∈ D→Am H b=some x→x.dead=false→Am O b=some x)
  (hD1:∀ b x,Am O b=some x→b ∈ D∧Am H b=some x)
  (T:∀ b x,b ∈ D→b ∉ ids→Am h b≠some x)
  (U:∀ b x,b ∈ ids→Am h b=some x→∃ x',(Am H b=some x'∧x'.mp=x.mp)∧(x'.dead=true∨(x.dead=false∧β1 b=β b∧x'.sz=x.sz∧(x.mp=false→x'.cells.length=x.cells.length))))
  (t:∀ b ∈ ids,b ∈ D)
  (os:w'.os=w.os) (tape:w'.tape=w.tape) (output:w'.output=w.output) (size:w.heap.size≤w'.heap.size)
  (frame:∀ k,k<w.heap.size→(¬ ∃ b x o,b ∈ ids∧Am h b=some x∧x.dead=false∧x.sealed=false∧β b=some (k,o))→w'.heap[k]?=w.heap[k]?)
  (wr:∀ k,Amf β1 O k→k<w.heap.size→∃ b x o,b ∈ ids∧Am h b=some x∧x.dead=false∧x.sealed=false∧β b=some (k,o))
  (jup:∀ o k,J0 o k→J o k∨(∃ b x o,b ∈ ids∧Am h b=some x∧x.dead=false∧x.sealed=false∧β b=some (k,o))∨w.heap.size≤k)
  (sizes:∀ k,Bh w k≤Bh w' k) :
  Step J β h w (fun o k=>J o k∨J0 o k) (fun b=>if b ∈ D then β1 b else β b) H w'∧Ext J0 β1 O w' (fun o k=>J o k∨J0 o k) (fun b=>if b ∈ D then β1 b else β b) H w':=by
 have E0:Ext J0 β1 O w' (fun o k=>J o k∨J0 o k) (fun b=>if b ∈ D then β1 b else β b) H w':=by
  refine⟨fun _ _ c=>.inr c,fun _ _ _=>rfl,fun b x d=>?_,fun _ _ _ _=>Nat.le_refl _⟩
  obtain⟨n,s⟩:=hD1 b x d
  refine⟨x,⟨s,rfl⟩,?_⟩
  cases f:x.dead
  ·exact .inr ⟨rfl,by simp[n],rfl,fun _=>rfl⟩
  ·exact .inl rfl
 have keepJ:∀ o k,J o k→w'.heap[k]?=w.heap[k]?:=by
  intro o k c
  refine frame k (S.jlt o k c) ?_
  rintro⟨b,x,o',_,d,f,hs,l⟩
  exact S.unJ d f hs l o c
 have E:Ext J β h w (fun o k=>J o k∨J0 o k) (fun b=>if b ∈ D then β1 b else β b) H w':=by
  refine⟨fun _ _ c=>.inl c,keepJ,fun b x d=>?_,fun b k o _=>sizes k⟩
  by_cases hi:b ∈ ids
  ·obtain⟨x',n,s⟩:=U b x hi d
   refine⟨x',n,?_⟩
   simp only[t b hi,if_true]
   exact s
  ·have V:b ∉ D:=fun f=>T b x f hi d
   refine⟨x,⟨by rw[hH b V];exact d,rfl⟩,?_⟩
   cases f:x.dead
   ·exact .inr ⟨rfl,by simp[V],rfl,fun _=>rfl⟩
   ·exact .inl rfl
 have out:∀ {b x},b ∉ D→Am H b=some x→Am h b=some x:=fun d q=>by rw[←hH _ d];exact q
 refine⟨⟨E,⟨?_,?_,S.gl.ext E,fun b x q f K=>?_,fun b x q f K=>by
   by_cases d:b ∈ D
   ·have n:=hD b x d q f
    have M:=S1.mblk b x n f K
    refine M.keep (by simp[d]) (fun _ _ _=>rfl) (fun g k o l c=>?_)
    rcases c with c | c
    ·exfalso
     by_cases y:k<w.heap.size
     ·obtain⟨z,x',o',j,m,i,u,e⟩:=wr k ⟨b,x,o,n,f,M.2.1,l⟩ y
      exact S.unJ m i u e g c
     ·exact y (S.jlt g k c)
    ·exact c
   ·have n:=out d q
    have M:=S.mblk b x n f K
    have v:∀ k o,β b=some (k,o)→¬ ∃ b x o,b ∈ ids∧Am h b=some x∧x.dead=false∧x.sealed=false∧β b=some (k,o):=by
     rintro k o s ⟨z,x',o',j,m,i,u,e⟩
     have:=S.sep b z x x' k o o' n m f i M.2.1 s e
     subst this
     exact d (t b j)
    refine M.keep (by simp[d]) (fun k o l=>frame k (Z3 S n f l) (v k o l)) (fun g k o l c=>?_)
    rcases c with c | c
    ·exact c
    ·rcases jup g k c with c | c | c
     ·exact c
     ·exact absurd c (v k o l)
     ·have:=Z3 S n f l;omega,?_⟩,os,tape,output,size,?_,?_,?_⟩,E0⟩
 ·rintro o k (c | c)
  ·exact Nat.lt_of_lt_of_le (S.jlt o k c) size
  ·exact S1.jlt o k c
 ·rintro k (c | c)
  ·exact .inl (S.jft k c)
  ·exact .inr (S1.jft k c)
 ·by_cases d:b ∈ D
  ·have n:=hD b x d q f
   rcases S1.blk b x n f K with⟨s,I⟩ | ⟨k,o,cs,ty,fr,s,I,h5,h6,h7,Y,h9⟩
   ·exact .inl ⟨by simp[d,s],I⟩
   ·refine .inr ⟨k,o,cs,ty,fr,by simp[d,s],I,h5,h6,h7.ext E0,fun hs g c=>?_,fun hs=>.inr (h9 hs)⟩
    rcases c with c | c
    ·by_cases y:k<w.heap.size
     ·obtain⟨z,x',o',j,m,i,u,e⟩:=wr k ⟨b,x,o,n,f,hs,s⟩ y
      exact S.unJ m i u e g c
     ·exact y (S.jlt g k c)
    ·exact Y hs g c
  ·have n:=out d q
   rcases S.blk b x n f K with⟨s,I⟩ | ⟨k,o,cs,ty,fr,s,I,h5,h6,h7,Y,h9⟩
   ·exact .inl ⟨by simp[d,s],I⟩
   ·have y:=PE I
    have v:x.sealed=false→¬ ∃ b x o,b ∈ ids∧Am h b=some x∧x.dead=false∧x.sealed=false∧β b=some (k,o):=by
     rintro hs ⟨z,x',o',j,m,i,u,e⟩
     have:=S.sep b z x x' k o o' n m f i hs s e
     subst this
     exact d (t b j)
    have same:w'.heap[k]?=w.heap[k]?:=by
     cases hs:x.sealed with
     | false=>exact frame k y (v hs)
     | true=>exact keepJ _ k (h9 hs)
    refine .inr ⟨k,o,cs,ty,fr,by simp[d,s],by rw[same];exact I,h5,h6,h7.ext E,fun hs g c=>?_,fun hs=>.inl (h9 hs)⟩
    rcases c with c | c
    ·exact Y hs g c
    ·rcases jup g k c with c | c | c
     ·exact Y hs g c
     ·exact v hs c
     ·omega
 ·intro b z x x' k o o' q m f i hs l e
  by_cases d:b ∈ D<;>by_cases j:z ∈ D
  ·simp[d] at l;simp[j] at e
   exact S1.sep b z x x' k o o' (hD b x d q f) (hD z x' j m i) f i hs l e
  ·exfalso
   simp[d] at l;simp[j] at e
   have n:=out j m
   have y:=Z3 S n i e
   obtain⟨X,x2,o2,L,A,C,G,F⟩:=wr k ⟨b,x,o,hD b x d q f,f,hs,l⟩ y
   have:=S.sep X z x2 x' k o2 o' A n C i G F e
   subst this
   exact j (t _ L)
  ·exfalso
   simp[d] at l;simp[j] at e
   have n:=out d q
   have s:=hD z x' j m i
   have y:=Z3 S n f l
   have v:¬ ∃ b x o,b ∈ ids∧Am h b=some x∧x.dead=false∧x.sealed=false∧β b=some (k,o):=by
    rintro⟨X,x2,o2,L,A,C,G,F⟩
    have:=S.sep b X x x2 k o o2 n A f C hs l F
    subst this
    exact d (t _ L)
   cases u:x'.sealed with
   | false=>exact v (wr k ⟨z,x',o',s,i,u,e⟩ y)
   | true =>
    rcases jup _ k (S1.seJ s i u e) with c | c | c
    ·exact S.unJ n f hs l _ c
    ·exact v c
    ·omega
  ·simp[d] at l;simp[j] at e
   exact S.sep b z x x' k o o' (out d q) (out j m) f i hs l e
 ·intro k y K
  exact frame k y (fun ⟨b,x,o,_,q,f,hs,l⟩=>K ⟨b,x,o,q,f,hs,l⟩)
 ·rintro k ⟨b,x,o,q,f,hs,l⟩ y
  by_cases d:b ∈ D
  ·simp[d] at l
   obtain⟨X,x2,o2,_,A,C,G,F⟩:=wr k ⟨b,x,o,hD b x d q f,f,hs,l⟩ y
   exact⟨X,x2,o2,A,C,G,F⟩
  ·simp[d] at l
   exact⟨b,x,o,out d q,f,hs,l⟩
 ·rintro o k (c | c)
  ·exact .inl c
  ·rcases jup o k c with c | ⟨b,x,o2,_,q,f,hs,l⟩ | c
   ·exact .inl c
   ·exact .inr (.inl ⟨b,x,o2,q,f,hs,l⟩)
   ·exact .inr (.inr c)
end Gx

namespace Gx
open Go
theorem Asu {l:List Nat}:Ahu l=true↔l=[]:=by cases l<;>simp[Ahu]
theorem PO {α β:Type} {f:α→β}:∀ {l:List α},(l.map f).Nodup→l.Nodup
 | [],_=>List.nodup_nil
 | a::r,h=>by
  rw[List.map_cons,List.nodup_cons] at h
  exact List.nodup_cons.2 ⟨fun b=>h.1 (List.mem_map.2 ⟨a,b,rfl⟩),PO h.2⟩
theorem PP {α:Type} {p:α→Bool}:∀ {l:List α},l.Nodup→(l.filter p).Nodup
 | [],_=>List.nodup_nil
 | a::r,h=>by
  rw[List.nodup_cons] at h
  rw[List.filter_cons]
  split
  ·exact List.nodup_cons.2 ⟨fun b=>h.1 (List.mem_filter.1 b).1,PP h.2⟩
  ·exact PP h.2
theorem kV {base:Nat} {l:List Nat} {p:Nat×Nat} (b:p ∈ A8 base l):p.1 ∈ l:=by
 have:p.1 ∈ (A8 base l).map (·.1):=List.mem_map.2 ⟨p,b,rfl⟩
 rw[Lz] at this;exact this
theorem Awk {σ:Nat→Nat}:∀ {l:List Nat} {a b:Nat},(l.map σ).Nodup→a ∈ l→b ∈ l→σ a=σ b→a=b
 | [],a,b,_,e,_,_=>by simp at e
 | i::r,a,b,hn,e,j,f=>by
  rw[List.map_cons,List.nodup_cons] at hn
  rcases List.mem_cons.1 e with c | c<;>rcases List.mem_cons.1 j with d | d
  ·rw[c,d]
  ·subst c;exact absurd (List.mem_map.2 ⟨b,d,f.symm⟩) hn.1
  ·subst d;exact absurd (List.mem_map.2 ⟨a,c,f⟩) hn.1
  ·exact Awk hn.2 c d f
theorem A0m {E:Env} (hT:wt E.P E.tbl):jU E:=by
 intro R r k J β h w g d f args vs S hl hh hv
 unfold Aey at hh
 obtain⟨⟨args',im,fz⟩,C,h1⟩:=ub hh
 simp only at h1
 obtain⟨n,h2⟩:=uc h1
 simp only[Bool.and_eq_true] at n
 obtain⟨U,Y,V,hdj,s,_⟩:=n
 generalize hids:DU g im=ids at *
 generalize hρ:Kh 0 (A8 100000 ids)=ρ at *
 have U:=XW U
 have Y:=Qx Y
 have hdj:=Awj hdj
 have s:=V4 s
 have hg:∀ b ∈ ids,g b=Am h b:=fun b j=>by obtain⟨x,m,_⟩:=U b j;rw[m,hl b x m]
 rw[GK (g:=Am h) hg] at V
 have V:=Qx V
 rw[Ae8 (g':=Am h) hg] at h2
 obtain⟨hA,hB⟩:=EB (fz:=fz) S hl C (fun _ h=>h) hv
 have aliveH:∀ b ∈ ids,∃ x,Am h b=some x∧x.dead=false:=fun b j=>by obtain⟨x,m,G⟩:=U b j;exact⟨x,hl b x m,G⟩
 have SJ:SimH (JS J β h fz) (SP ρ ids β) (sub (Am h) ρ ids) w:=by
  refine(S.ren s V).grow (fun o k t=>.inl t) ?_ ?_ ?_
  ·rintro o k (t | ⟨_,b,x,o',_,m,G,_,hβ⟩)
   ·exact S.jlt o k t
   ·exact Z3 S m G hβ
  ·rintro k (t | ⟨h0,_⟩)
   ·exact .inl (S.jft k t)
   ·cases h0
  ·intro c y k o hy G hs hβ q t
   obtain⟨b,x,j,rfl,m,rfl⟩:=P5 s c y hy
   rw[H6 s j] at hβ
   rcases t with t | ⟨_,b',x',o',hb',hx',hd',hs',hβ'⟩
   ·exact S.unJ m G hs hβ _ t
   ·have:=S.sep b b' x x' k o o' m hx' G hd' hs hβ hβ'
    subst this
    exact hdj b hb' j
 have RJ:Reps (JS J β h fz) (SP ρ ids β) (sub (Am h) ρ ids) w (AD ρ args') vs:=Reps.ren s (fun b j=>Y b (hB b j)) hA
 obtain⟨rv,rh,hF,h3⟩:=Anb hT h2
 have hcall:=hF _ _ w vs SJ RJ
 obtain⟨z,h4⟩:=Ar7 h3
 obtain⟨hc2,h5⟩:=uc h4
 simp only[Bool.and_eq_true] at hc2
 obtain⟨I,X,hrv,v,K,u⟩:=hc2
 generalize hall:DU (Am rh) (H4 rv++(A8 100000 ids).map (·.2))=all at *
 generalize L:all.filter (fun b=>!J8 ((A8 100000 ids).map (·.2)) b)=new at *
 generalize hσ:Kh 0 ((A8 100000 ids).map (fun p=>(p.2,p.1))++A8 (nid d) new)=σ at *
 have I:=XW I
 have hrv:=Qx hrv
 have v:=Qx v
 have K:=Qx K
 have u:=V4 u
 have X:new.length≤16:=by simpa using X
 refine⟨_,_,h5,fun hfree=>Calls.mono hcall ?_⟩
 rintro e w' ⟨vc,J',β',rfl,F,hR⟩
 refine⟨vc,rfl,?_⟩
 have back:∀ b ∈ ids,σ (ρ b)=b:=by
  intro b j
  rw[←hσ,BS,if_pos,←hρ]
  ·exact wx j
  ·rw[List.map_map]
   have:=LM (d:=0) (l:=A8 100000 ids) (b:=b) (by rw[Lz];exact j)
   rw[hρ] at this
   exact this
 have ρall:∀ b ∈ ids,ρ b ∈ all:=by
  intro b j
  refine v _ ?_
  have:=LM (d:=0) (l:=A8 100000 ids) (b:=b) (by rw[Lz];exact j)
  rw[hρ] at this
  exact this
 have σout:∀ c ∈ all,c ∈ (A8 100000 ids).map (·.2)→σ c ∈ ids:=by
  intro c _ n
  rw[←hσ,BS,if_pos (by rw[List.map_map];exact n)]
  have:=LM (d:=0) (l:=(A8 100000 ids).map (fun p=>(p.2,p.1))) (b:=c) (by rw[List.map_map];exact n)
  rw[List.map_map] at this
  have e:(A8 100000 ids).map ((fun x=>x.2)∘fun p=>(p.2,p.1))=ids:=Lz
  rw[e] at this
  exact this
 have newmem:∀ c ∈ new,c ∈ all∧c ∉ (A8 100000 ids).map (·.2):=by
  intro c n
  rw[←L] at n
  obtain⟨O,h7⟩:=List.mem_filter.1 n
  refine⟨O,fun A=>?_⟩
  rw[M5.2 A] at h7;simp at h7
 have σnew:∀ c ∈ new,σ c=Kh 0 (A8 (nid d) new) c:=by
  intro c n
  rw[←hσ,BS,if_neg]
  rw[List.map_map];exact(newmem c n).2
 have allcases:∀ c ∈ all,c ∈ (A8 100000 ids).map (·.2)∨c ∈ new:=by
  intro c n
  by_cases A:c ∈ (A8 100000 ids).map (·.2)
  ·exact .inl A
  ·refine .inr ?_
   rw[←L]
   refine List.mem_filter.2 ⟨n,?_⟩
   cases hq:J8 ((A8 100000 ids).map (·.2)) c with
   | false=>rfl
   | true=>exact absurd (M5.1 hq) A
 generalize T:((A8 100000 ids).map fun p=>(p.1,(Am rh p.2).map (GC σ)))++(A8 (nid d) new).map (fun p=>(p.2,(Am rh p.1).map (GC σ)))=ups at *
 have keys:ups.map (·.1)=ids++(A8 (nid d) new).map (·.2):=by
  rw[←T,List.map_append,List.map_map,List.map_map]
  congr 1
  exact Lz
 have newFree:∀ c ∈ (A8 (nid d) new).map (·.2),Am h c=none:=by
  intro c n
  refine hfree c (p6.2 (by rw[keys];exact List.mem_append.2 (.inr n))) ?_
  have:=V6 n
  unfold LD
  simp;omega
 have keysN:(ups.map (·.1)).Nodup:=by
  rw[keys,List.nodup_append]
  refine⟨PO s,EC,fun a ha b j e=>?_⟩
  subst e
  obtain⟨x,m,_⟩:=aliveH a ha
  rw[newFree a j] at m;cases m
 have upsOld:∀ b ∈ ids,(b,(Am rh (ρ b)).map (GC σ)) ∈ ups:=by
  intro b j
  rw[←T]
  refine List.mem_append.2 (.inl (List.mem_map.2 ⟨(b,ρ b),?_,rfl⟩))
  rw[←hρ];exact XX j
 have upsNew:∀ c ∈ new,(σ c,(Am rh c).map (GC σ)) ∈ ups:=by
  intro c n
  rw[←T]
  refine List.mem_append.2 (.inr (List.mem_map.2 ⟨(c,σ c),?_,rfl⟩))
  rw[σnew c n];exact XX n
 have J0:∃ J0:Bool→Nat→Prop,SimH J0 β' rh w'∧Rep J0 β' rh w' rv vc∧∀ o k,J0 o k→J o k∨Amf (SP ρ ids β) (sub (Am h) ρ ids) k∨w.heap.size≤k:=by
  cases he:Ahu fz with
  | true =>
   have:=Asu.1 he
   subst this
   refine⟨J',F.sim,hR,fun o k t=>?_⟩
   rcases F.jup o k t with(t | ⟨_,b,x,o',j,_⟩) | t
   ·exact .inl t
   ·simp at j
   ·exact .inr t
  | false =>
   rw[he] at z
   simp at z
   refine⟨fun _=>J' false,F.sim.noOrg z.2,Rep.noOrg z.1 hR,fun o k t=>?_⟩
   rcases F.jup false k t with(O | ⟨h0,_⟩) | O
   ·left
    cases o
    ·exact O
    ·exact S.jft k O
   ·cases h0
   ·exact .inr O
 obtain⟨J0,S0,R0,jup0⟩:=J0
 have S1:=S0.ren u K
 have R1:=Rep.ren u hrv R0
 have M:=Step.merge (J:=J) (J0:=J0) (J1:=J0) (H:=Al ups h) (D:=ids++(A8 (nid d) new).map (·.2)) (ids:=ids) S S1
  (fun b j=>C0 _ _ _ (by
   cases hi:Be ups b with
   | false=>rfl
   | true=>exact absurd (by rw[←keys];exact p6.1 hi) j))
  (fun b x j m G=>by
   rcases List.mem_append.1 j with j | j
   ·rw[On keysN (upsOld b j)] at m
    cases hq:Am rh (ρ b) with
    | none =>
     rw[hq] at m;simp at m
     obtain⟨y,_,rfl⟩:=m
     simp[Ast] at G
    | some y =>
     rw[hq] at m;simp at m;subst m
     have:=GL (g:=Am rh) u (ρ b) y (ρall b j) hq
     rw[back b j] at this
     exact this
   ·obtain⟨c,n,rfl⟩:∃ c ∈ new,σ c=b:=by
     obtain⟨p,C,rfl⟩:=List.mem_map.1 j
     have hp1:p.1 ∈ new:=kV C
     refine⟨p.1,hp1,?_⟩
     rw[σnew _ hp1]
     have:∀ {base:Nat} {l:List Nat} {p:Nat×Nat},l.Nodup→p ∈ A8 base l→Kh 0 (A8 base l) p.1=p.2:=by
      intro base l
      induction l generalizing base with
      | nil=>intro p _ C;simp[A8] at C
      | cons i r ih =>
       intro p hn C
       rw[List.nodup_cons] at hn
       rw[A8] at C ⊢
       rw[Kh]
       rcases List.mem_cons.1 C with rfl | C
       ·simp
       ·have:p.1 ∈ r:=kV C
        rw[WP (fun e=>hn.1 (by rw[e];exact this))]
        exact ih hn.2 C
     refine this ?_ C
     rw[←L]
     exact PP (PO u)
    rw[On keysN (upsNew c n)] at m
    obtain⟨y,hy,_⟩:=I c n
    rw[hy] at m;simp at m;subst m
    exact GL (g:=Am rh) u c y (newmem c n).1 hy)
  (fun b x j=>by
   obtain⟨c,y,n,rfl,hy,rfl⟩:=P5 u b x j
   rcases allcases c n with A | A
   ·have O:=σout c n A
    have h7:ρ (σ c)=c:=by
     have:(all.map σ).Nodup:=u
     have e1:=back (σ c) O
     have e2:=ρall (σ c) O
     exact Awk this e2 n e1
    refine⟨List.mem_append.2 (.inl O),?_⟩
    rw[On keysN (upsOld (σ c) O),h7,hy];rfl
   ·refine⟨List.mem_append.2 (.inr ?_),?_⟩
    ·rw[σnew c A]
     exact LM (by rw[Lz];exact A)
    ·rw[On keysN (upsNew c A),hy];rfl)
  (fun b x j hni m=>by
   rcases List.mem_append.1 j with j | j
   ·exact hni j
   ·rw[newFree b j] at m;cases m)
  (fun b x j m=>by
   rw[On keysN (upsOld b j)]
   cases hq:Am rh (ρ b) with
   | none=>exact⟨Ast x,⟨by simp[m],rfl⟩,.inl rfl⟩
   | some y =>
    cases G:y.dead with
    | true=>have:=F.live _ _ hq;rw[G] at this;cases this
    | false =>
     have e0:=GL (g:=Am h) s b x j m
     obtain⟨⟨e1,em⟩,e2,e3,e4⟩:=F.outs (ρ b) _ y e0 hq G
     refine⟨GC σ y,⟨by simp,em⟩,.inr ?_⟩
     refine⟨e4,?_,e2,fun hmx=>?_⟩
     ·have:=H6 (β:=β') u (ρall b j)
      rw[back b j] at this
      rw[this,e1]
      exact H6 s j
     ·rw[Om,e3 hmx,Om])
  (fun b j=>List.mem_append.2 (.inl j))
  F.os F.tape F.output F.size
  (fun k hk A=>F.frame k hk (fun hm'=>A (wy s hm')))
  (fun k A hk=>wy s (F.wr k (Aih u A) hk))
  (fun o k t=>by
   rcases jup0 o k t with t | t | t
   ·exact .inl t
   ·exact .inr (.inl (wy s t))
   ·exact .inr (.inr t))
  F.sizes
 exact⟨_,_,M.1,Rep.ext M.2 R1⟩
theorem Anf {P:Program} {muts:Nat→List Bool} {T:List (Nat×Tw)} {hs:Hints} {N f:Nat} {d:LA} {h:Aj} {m:AV} {h':Aj} (hT:wt P T) (F:P.follows .mixedOrders=true)
  (q:SH P muts T hs N f d h (fun v h'=>some (v,h'))=some (m,h')):A4v P f d h m h':=by
 unfold SH at q
 split at q
 ·simp at q
 ·rename_i fn G
  split at q
  ·simp at q
  ·rename_i c O
   simp only at q
   obtain⟨t,U⟩:=uc q
   simp only[Bool.and_eq_true] at t
   obtain⟨n,k⟩:=t
   have n:d.length≤fn.ntmps:=by simpa using n
   intro J β w vs S M
   have V:vs.length=d.length:=((Cr).1 M).1
   refine calls_of_wp G O ?_
   have roots:∀ {h:Aj} {b:Nat} {x:Blk},v6 h=true→Am h b=some x→wK b=true:=by
    intro h
    induction h with
    | nil=>intro b x _ e;simp[Am] at e
    | cons p r K =>
     intro b x hr e
     obtain⟨i,y⟩:=p
     rw[v6] at hr
     simp at hr
     rw[Am] at e
     cases hi:Nat.beq i b with
     | true=>have:=Nat.eq_of_beq_eq_true hi;subst this;exact hr.1
     | false=>rw[hi] at e;exact K hr.2 (by simpa using e)
   have sgetI:∀ {d:LA} {j i:Nat},Gw (Ae0 j d) i=if j≤i then (d[i - j]?).getD .undef else .undef:=by
    intro d
    induction d with
    | nil=>intro j i;simp[Ae0,Gw]
    | cons v r K =>
     intro j i
     rw[Ae0,Gw]
     cases hi:Nat.beq j i with
     | true=>have:=Nat.eq_of_beq_eq_true hi;subst this;simp
     | false =>
      have:=AE hi
      simp only[cond_false]
      rw[K]
      by_cases u:j+1≤i
      ·rw[if_pos u,if_pos (by omega),show i - j=(i - (j+1))+1 by omega];simp
      ·rw[if_neg u]
       by_cases l:j≤i
       ·omega
       ·rw[if_neg l]
   have I:Inv ⟨J,β,h,w⟩ fn.ntmps J β { s:=Ae0 0 d,h:=h } { tmps:=vs.toArray++Array.replicate (fn.ntmps - vs.toArray.size) undef,defers:=[] } w:=by
    refine⟨S,⟨fun i v hi=>?_,fun i hi=>?_⟩,?_,rfl,rfl,rfl,rfl,Nat.le_refl _,fun _ _ _=>rfl,fun _ F _=>F,fun _ _ L=>L,fun _ _ L=>.inl L,fun _=>Nat.le_refl _,?_,?_,?_⟩
    ·rw[sgetI,if_pos (Nat.zero_le _)]
     by_cases z:i<d.length
     ·have l:d[i - 0]?=some d[i]:=by simp[z]
      rw[l]
      have A:vs[i]?=some v:=by
       rw[Array.getElem?_append_left (by simp;omega)] at hi
       simpa using hi
      exact((Cr).1 M).2 i _ _ (by simp[z]) A
     ·have l:d[i - 0]?=none:=by simp;omega
      rw[l];simp[Rep]
    ·simp at hi
     rw[sgetI,if_pos (Nat.zero_le _)]
     have l:d[i - 0]?=none:=by simp;omega
     rw[l];rfl
    ·simp;omega
    ·intro b x0 e;exact(wq.1 (roots k e)).2
    ·intro b x0 e;exact(wq.1 (roots k e)).1
    ·intro b x0 x e C X
     change Am h b=some x0 at e
     change Am h b=some x at C
     rw[e] at C;simp at C;subst C
     exact⟨⟨rfl,rfl⟩,rfl,fun _=>rfl,X⟩
   have fin:∀ st' D w' J' β',Inv ⟨J,β,h,w⟩ fn.ntmps J' β' st' D w'→BO { P:=P,nt:=fn.ntmps,muts:=muts,nils:=hs.nils,free:=hs.free,cob:=hs.cob,tbl:=T } fn hs.modes (h.map (·.1)) (fun v h'=>some (v,h')) st'=some (m,h') →
     D.defers=[]∧∃ v,(results fn D.tmps).run P w'=.ok v w'∧∃ vc J' β',Ending.returned v=.returned vc∧FDone ⟨J,β,h,w⟩ J' β' h' w'∧Rep J' β' h' w' m vc:=by
    intro st' D w' J' β' I' l
    obtain⟨res2,Y,vc,J2,β2,A,h4,h5,h6⟩:=Aby I' l
    simp at A
    obtain⟨rfl,rfl⟩:=A
    exact⟨I'.defers,vc,h4,vc,J2,β2,rfl,h5,h6⟩
   exact Ana (E:={ P:=P,nt:=fn.ntmps,muts:=muts,nils:=hs.nils,free:=hs.free,cob:=hs.cob,tbl:=T }) (A0m hT) F c I U fin (fun _ _ _ _ _ _ _ l=>by simp at l) fin
end Gx

namespace Gx
open Go
section
variable {R R':Type}
theorem Asv (E:Env) (ops:Array Oper) (o:Oper) (st:St) (k:St→Foot→O R) (g:R→Option R'):(Amc E ops o st k).bind g=Amc E ops o st fun st f=>(k st f).bind g:=by
 rw[dR,dR,Option.bind_assoc]
theorem Aij (ops:Array Oper) (o:Oper) (st:St) (k:St→O R) (g:R→Option R'):(pN ops o st k).bind g=pN ops o st fun st=>(k st).bind g:=by
 unfold pN
 split
 ·rfl
 ·split
  ·rfl
  ·split
   ·rw[Ao]
   ·rfl
theorem wz (E:Env) (ops:Array Oper) (g:R→Option R'):∀ (l:List Oper) (st:St) (tr:List Foot) (k:St→List Foot→O R),(wH E ops l st tr k).bind g=wH E ops l st tr fun st tr=>(k st tr).bind g
 | [],st,tr,k=>rfl
 | o::r,st,tr,k=>by
  rw[wH,wH,Aij]
  congr 1;funext st
  rw[Asv]
  congr 1;funext st f
  exact wz E ops g r st (f::tr) k
theorem Ab1 (E:Env) (roots:List Nat) (ops:Array Oper) (draw:Bool) (st:St) (k:St→O R) (g:R→Option R'):(dL E roots ops draw st k).bind g=dL E roots ops draw st fun st=>(k st).bind g:=by
 unfold dL
 rw[wz]
 congr 1;funext st tr
 rw[Ao,Option.bind_assoc];rfl
theorem Asw (E:Env) (roots:List Nat) (H:Hint) (f:St→O R) (g:R→Option R') (st:St):(Axf E roots H f st).bind g=Axf E roots H (fun st=>(f st).bind g) st:=by
 unfold Axf
 rw[Ao,Option.bind_assoc,GH,GH]
theorem rK (cn:St→Option St) (b:(St→O R)→St→O R) (c:(St→Option R')→St→Option R') (g:R→Option R') (d:∀ k st,(b k st).bind g=c (fun st=>(k st).bind g) st):∀ n st,(XK cn b n st).bind g=XK cn c n st
 | 0,st=>rfl
 | n+1,st=>by
  rw[XK,XK,d]
  congr 1;funext st
  rw[Option.bind_assoc]
  congr 1;funext st
  exact rK cn b c g d n st
theorem Ang (E:Env) (roots:List Nat) (N:Nat) (g:R→Option R'):∀ (c:Code) (H:Hint) (k:St→O R) (x:Nat→St→O R) (r:St→O R) (st:St),
  (G0 E roots N c H k x r st).bind g=G0 E roots N c H (fun st=>(k st).bind g) (fun j st=>(x j st).bind g) (fun st=>(r st).bind g) st:=by
 intro c
 induction c with
 | skip=>intro H k x r st;rfl
 | region id ops draw=>intro H k x r st;exact Ab1 ..
 | seq a b d e =>
  intro H k x r st
  rw[G0,G0,d]
  congr 1;funext st
  rw[Asw]
  congr 1;funext st
  exact e ..
 | cond c a b d e =>
  intro H k x r st
  rw[G0,G0]
  split
  ·rw[Ao,d,e]
  ·rfl
 | block id c f =>
  intro H k x r st
  rw[G0,G0,f]
  simp only[Ao]
 | loop c f =>
  intro H k x r st
  rw[G0,G0,Option.bind_assoc,GH,GH]
  congr 1;funext st
  exact rK _ _ _ g (fun k st=>f ..) N st
 | exit id=>intro H k x r st;rfl
 | ret=>intro H k x r st;rfl
 | rangeFunc=>intro H k x r st;rfl
 | scope=>intro H k x r st;rfl
 | label=>intro H k x r st;rfl
 | goto=>intro H k x r st;rfl
 | refuse=>intro H k x r st;rfl
theorem JT (E:Env) (st:St) (g:R→Option R'):∀ (l:List ResultVar) (b:LA) (k:LA→O R),(P1 E st l b k).bind g=P1 E st l b fun l=>(k l).bind g
 | [],b,k=>rfl
 | .tmp t::r,b,k=>by rw[P1,P1];exact JT E st g r _ k
 | .cell a t::r,b,k=>by
  rw[P1,P1,PM,PM (R:=R'),Option.bind_assoc]
  congr 1;funext v
  exact JT E st g r _ k
theorem Ab2 (E:Env) (fn:Func) (modes:List (Nat×Nat)) (outs:List Nat) (k:AV→Aj→O R) (g:R→Option R') (st:St):(BO E fn modes outs k st).bind g=BO E fn modes outs (fun v h=>(k v h).bind g) st:=by
 unfold BO
 rw[JT]
 congr 1;funext l
 rw[Option.bind_assoc]
 congr 1;funext q
 rw[Ao];rfl
theorem Asx (P:Program) (muts:Nat→List Bool) (T:List (Nat×Tw)) (hs:Hints) (N f:Nat) (b:LA) (h:Aj) (k:AV→Aj→O R) :
  SH P muts T hs N f b h k=(SH P muts T hs N f b h fun v h=>some (v,h)).bind fun p=>k p.1 p.2:=by
 unfold SH
 split
 ·rfl
 ·split
  ·rfl
  ·simp only
   rw[Ao,Ang]
   simp only[Ab2]
   rfl
structure Cut (R:Type) where
 c:Code
 H:Hint
 k:St→O R
 x:Nat→St→O R
 r:St→O R
noncomputable def A31 (E:Env) (roots:List Nat) (N:Nat):List Nat→Code→Hint→(St→O R)→(Nat→St→O R)→(St→O R)→List (St→O R)→Cut R
 | [],c,H,k,x,r,_=>⟨c,H,k,x,r⟩
 | d::p,.seq a b,H,k,x,r,ks=>cond (Nat.beq d 0) (A31 E roots N p a H.a (Axf E roots H fun st=>G0 E roots N b H.b k x r st) x r ks) (A31 E roots N p b H.b k x r ks)
 | d::p,.cond _ a b,H,k,x,r,ks=>cond (Nat.beq d 0) (A31 E roots N p a H.a k x r ks) (A31 E roots N p b H.b k x r ks)
 | _::p,.block id c,H,k,x,r,ks=>A31 E roots N p c H.a k (fun j st=>cond (Nat.beq j id) (k st) (x j st)) r ks
 | _::p,.loop c,H,_,x,r,q::ks=>A31 E roots N p c H.a (fun st=>(kJ E H.live roots st).bind q) x r ks
 | _::_,c,H,k,x,r,_=>⟨c,H,k,x,r⟩
def Anh:Code→Code
 | .loop c=>c
 | c=>c
structure CutB (R:Type) where
 E:Env
 roots:List Nat
 N:Nat
 c:Cut R
noncomputable def B8 (q:CutB R) (st:St):O R:=G0 q.E q.roots q.N q.c.c q.c.H q.c.k q.c.x q.c.r st
noncomputable def A0n (q:CutB R) (st:St):O R:=A0b true (fun st=>G0 q.E q.roots q.N q.c.c q.c.H q.c.k q.c.x q.c.r st) st
theorem A2 (q:CutB R) (st:St):A0n q st=B8 q st:=by unfold A0n;rw[GH];rfl
noncomputable def Ak (q:CutB R) (n:Nat) (st:St):O R:=XK (kJ q.E q.c.H.live q.roots) (fun k st=>G0 q.E q.roots q.N (Anh q.c.c) q.c.H.a k q.c.x q.c.r st) n st
noncomputable def A3k (q:CutB R) (st:St):O R:=A0b true (XK (kJ q.E q.c.H.live q.roots) (fun k st=>G0 q.E q.roots q.N (Anh q.c.c) q.c.H.a k q.c.x q.c.r st) q.N) st
theorem Ac (q:CutB R) (st:St):A3k q st=Ak q q.N st:=by unfold A3k;rw[GH];rfl
def A32 (fn:Func):Code:=match fn.body with | some c=>c | none=>.skip
def A3l:List (Nat×List Bool)→Nat→List Bool
 | [],_=>[]
 | (i,l)::r,f=>cond (Nat.beq i f) l (A3l r f)
end
end Gx

namespace Gx
open Go
abbrev KF (R:Type):=AV→Aj→Option R
abbrev Gm:=List (Nat×Tw)
abbrev hL:Hint:=.leaf
abbrev hS (a b:Hint):Hint:=.node [] a b
abbrev hP (l:List Nat) (a:Hint):Hint:=.node l a .leaf
abbrev hJ (l:List Nat) (a b:Hint):Hint:=.join l a b
def A2p (P:Program) (muts:Nat→List Bool) (nt:Nat) (hs:Hints) (T:List (Nat×Tw)):Env:={ P,nt,muts,nils:=hs.nils,free:=hs.free,cob:=hs.cob,tbl:=T }
noncomputable def A6m {R:Type} (P:Program) (muts:Nat→List Bool) (fn:Func) (hs:Hints) (T:List (Nat×Tw)) (roots:List Nat) (N:Nat) (F:KF R) (p:List Nat) (ks:List (St→O R)):CutB R :=
 ⟨A2p P muts fn.ntmps hs T,roots,N,A31 (A2p P muts fn.ntmps hs T) roots N p (A32 fn) hs.H (BO (A2p P muts fn.ntmps hs T) fn hs.modes roots F) (fun _ _=>none) (BO (A2p P muts fn.ntmps hs T) fn hs.modes roots F) ks⟩
def iv (n:Int):AV:=.int .i64 n
def op (k:Nat):AV:=.optr (300000+k) 0
def A6h:Nat→List Blk→Aj
 | _,[]=>[]
 | i,b::r=>(i,b)::A6h (i+1) r
def hq (l:List Blk):Aj:=A6h 300000 l
def bQ (sz:Nat) (c:LA):Blk:=⟨false,false,true,false,sz,c,false,none⟩
def bN (sz:Nat) (c:LA):Blk:=⟨false,false,false,false,sz,c,false,none⟩
def bP (t:Bool) (sz:Nat) (c:LA):Blk:=⟨false,false,true,t,sz,c,false,none⟩
def At {R:Type} (kd:IntKind) (c:LA) (k:Int→O R):O R:=(c.head?).bind fun x=>(ql kd x).bind k
def XY {R:Type} (c:LA) (k:Bool→O R):O R:=(c.head?).bind fun x=>(asBool x).bind k
def BT {R:Type} (c:LA) (k:List UInt8→O R):O R:=(c.head?).bind fun x=>(qm x).bind k
def Bw {R:Type} (sz:Nat) (c:LA) (k:LA→Nat→O R):O R:=(c.head?).bind fun x=>(Az0 sz x).bind fun p=>k p.1 p.2
def Asy (k:IntKind) (a b:Int):Int:=k.wrap ((BitVec.ofInt k.bits a &&& BitVec.ofInt k.bits b).toNat:Int)
def rL (k:IntKind) (a b:Int):Int:=k.wrap ((BitVec.ofInt k.bits a ||| BitVec.ofInt k.bits b).toNat:Int)
def A33 (P:Program) (muts:Nat→List Bool) (N f:Nat) (run:(R:Type)→Nat→LA→Aj→KF R→O R):Prop:=∀ {R Q:Type} (args:LA) (h:Aj) (k:KF R) (j:KF Q),
 (∃ T hs,wt P T∧run R N args h k=SH P muts T hs N f args h k∧run Q N args h j=SH P muts T hs N f args h j)∨(run R N args h k=none∧run Q N args h j=none)
theorem A3 {P:Program} {muts:Nat→List Bool} {T:List (Nat×Tw)} {hs:Hints} {N f:Nat} {c:LA} {h:Aj} {R Q:Type} {k:KF R} {j:KF Q} {a:O R} {b:Option Q} {p:Prop}
  (d:SH P muts T hs N f c h k=a) (e:SH P muts T hs N f c h j=b) (hT:wt P T):(∃ T hs,wt P T∧a=SH P muts T hs N f c h k∧b=SH P muts T hs N f c h j)∨p:=.inl ⟨T,hs,hT,d.symm,e.symm⟩
theorem A5 {R Q:Type} {p:Prop}:p∨((none:O R)=none∧(none:Option Q)=none):=.inr ⟨rfl,rfl⟩
def A4 {P:Program} {muts:Nat→List Bool} {N f:Nat} {run:(R:Type)→Nat→LA→Aj→KF R→O R} (H:A33 P muts N f run):Tw:=⟨fun {R} args h k=>run R N args h k,fun args h k=>by
 rcases H args h k (fun v h=>some (v,h)) with⟨T,hs,_,e1,e2⟩ | ⟨e1,e2⟩
 ·rw[e1,e2];exact Asx ..
 ·rw[e1,e2];rfl⟩
theorem A5x {P:Program} {muts:Nat→List Bool} {N f:Nat} {run:(R:Type)→Nat→LA→Aj→KF R→O R} (H:A33 P muts N f run) (d:P.follows .mixedOrders=true):Asq P f (A4 H):=by
 intro b h e h' c
 change run _ N b h _=_ at c
 rcases H b h (fun v h=>some (v,h)) (fun v h=>some (v,h)) with⟨T,hs,hT,e1,_⟩ | ⟨e1,_⟩
 ·rw[e1] at c;exact Anf hT d c
 ·rw[e1] at c;cases c
theorem Bv {α δ:Type} (f:α→δ) {a b:α} (c:a=b):f a=f b:=by rw[c]
theorem PQ {α β δ:Type} (f:α→β→δ) {a c:α} {b d:β} (e:a=c) (i:b=d):f a b=f c d:=by rw[e,i]
theorem A5y {α β γ δ:Type} (f:α→β→γ→δ) {a d:α} {b e:β} {c i:γ} (j:a=d) (k:b=e) (l:c=i):f a b c=f d e i:=by rw[j,k,l]
theorem A6n {α β γ ε ζ η δ:Type} (f:α→β→γ→ε→ζ→η→δ) {a i:α} {b j:β} {c k:γ} {d l:ε} {e m:ζ} {g g':η} (n:a=i) (q:b=j) (s:c=k) (t:d=l) (u:e=m) (v:g=g'):f a b c d e g=f i j k l m g':=by rw[n,q,s,t,u,v]
end Gx

namespace Gx
open Go Go.RowKit
theorem Ae9 {P:Program} {f:Nat} {t:Tw} (i:Asq P f t) {W:World} {avs:LA} {vs:List Value} (hr:Reps (fun _ k=>k<W.heap.size) (fun _=>none) [] W avs vs)
  (d:(t.runK avs [] fun v h=>some (v,h))=some (.bool true,[])) (j:GlobOk (fun _ k=>k<W.heap.size) W):Calls P f vs.toArray W fun e w'=>e=.returned (.bool true)∧Below W.heap.size W w':=by
 have S:SimH (fun _ k=>k<W.heap.size) (fun _=>none) [] W:=⟨fun _ _ h=>h,fun _ h=>h,j,fun b x c=>by simp[Am] at c,fun b x c=>by simp[Am] at c,fun b n x x' k o o' c=>by simp[Am] at c⟩
 refine Calls.mono (i avs [] _ _ d _ _ W vs S hr) ?_
 rintro e w' ⟨vc,J',β',rfl,F,l⟩
 rw[Rep] at l;subst l
 refine⟨rfl,F.os,F.tape,F.output,F.size,fun k m=>F.frame k m ?_⟩
 rintro⟨b,x,o,c,_⟩
 change Am [] b=some x at c
 simp[Am] at c
structure Opens (P:Program) (t:TypeId) {α:Type} (e:α→List AV) (n:Nat):Prop where
 size:P.cellsOf t=n
 pos:0<n
 len:∀ a,(e a).length=n
 read:∀ {H:Type} (enc:TypeId×Value→H) (W:World) (fuel:Nat) (cs:List Value) (d:DataW H) (ps:List MemPlace),DataW.trod enc P W 0 (fun _=>true) true fuel t cs=some (d,ps) →
  cs.length=n∧∃ a,RepCs (fun k=>k<W.heap.size) W (e a) (fun j=>cs[j]?) 0
theorem DG {P:Program} {t:TypeId} {k:IntKind} (b:P.underlying t=some (.int k)) (c:P.cellsOf t=1):Opens P t (α:={ n:Int // (Lit.int k n).wf=true }) (fun n=>[.int k n.1]) 1:=by
 refine⟨c,by omega,fun _=>rfl,fun enc W fuel cs d ps h=>?_⟩
 obtain⟨n,rfl,_,e⟩:=DataW.trod_int b h
 exact⟨rfl,⟨n,e⟩,by simp[RepCs,RepC]⟩
theorem Asz {P:Program} {t:TypeId} (c:P.underlying t=some .bool) (e:P.cellsOf t=1):Opens P t (α:=Bool) (fun b=>[.bool b]) 1:=by
 refine⟨e,by omega,fun _=>rfl,fun enc W fuel cs d ps h=>?_⟩
 obtain⟨b,rfl,_⟩:=DataW.trod_bool c h
 exact⟨rfl,b,by simp[RepCs,RepC]⟩
theorem XZ {α β:Type} {e:α→List β} {n:Nat} (hn:0<n) (b:∀ a,(e a).length=n):∀ (l:List α) (j:Nat),(l.flatMap e)[j]?=(l[j/n]?).bind fun a=>(e a)[j%n]?
 | [],j=>by simp
 | a::r,j=>by
  rw[List.flatMap_cons]
  by_cases c:j<n
  ·rw[List.getElem?_append_left (by rw[b];exact c),Nat.div_eq_of_lt c,Nat.mod_eq_of_lt c];simp
  ·rw[List.getElem?_append_right (by rw[b];omega),b,XZ hn b r (j - n)]
   have d:j/n=(j - n)/n+1:=by
    have:=Nat.add_div_right (j - n) hn
    rw[show j - n+n=j by omega] at this;exact this
   have f:j%n=(j - n)%n:=by
    have:=Nat.add_mod_right (j - n) n
    rw[show j - n+n=j by omega] at this;exact this
   rw[d,f];simp
theorem X_ {α β:Type} {e:α→List β} {n:Nat} (b:∀ a,(e a).length=n):∀ (l:List α),(l.flatMap e).length=l.length*n
 | []=>by simp
 | a::r=>by rw[List.flatMap_cons,List.length_append,b,X_ b r,List.length_cons,Nat.succ_mul];omega
theorem Ani {α β:Type} {f:α→Option β}:∀ {l:List α} {r:List β},l.mapM f=some r→r.length=l.length∧∀ (i:Nat) (a:α),l[i]?=some a→f a=r[i]?
 | [],r,h=>by simp at h;subst h;simp
 | x::l,r,h=>by
  rw[List.mapM_cons] at h
  cases b:f x with
  | none=>simp[b] at h
  | some y =>
   cases c:l.mapM f with
   | none=>simp[b,c] at h
   | some ys =>
    simp[b,c] at h
    subst h
    obtain⟨d,e⟩:=Ani c
    refine⟨by simp[d],fun i a hi=>?_⟩
    cases i with
    | zero=>simp at hi;subst hi;simpa using b
    | succ i=>simpa using e i a (by simpa using hi)
theorem Anj {P:Program} {t D:TypeId} {α:Type} {e:α→LA} {n:Nat} (V:P.underlying t=some (.slice D)) (X:P.cellsOf t=1) (q:Opens P D e n) :
  Opens P t (α:={ l:List α // l.length≤maxLen }) (fun l=>[.imm (l.1.flatMap e) l.1.length n false false]) 1:=by
 refine⟨X,by omega,fun _=>rfl,fun enc W fuel cs d ps h=>?_⟩
 cases fuel with
 | zero=>simp[DataW.trod] at h
 | succ fuel =>
  unfold DataW.trod at h
  simp only[V] at h
  split at h
  all_goals first | (rename_i b;simp at b;done) | (rename_i b _;simp at b;done) | (rename_i b _ _;simp at b;done) | skip
  ·refine⟨rfl,⟨[],by simp⟩,?_⟩
   simp[RepCs,RepC]
  ·rename_i e' a len cap b
   simp at b;subst b
   split at h
   ·rename_i s
    obtain⟨hb,Y,hcm⟩:=s
    refine⟨rfl,?_⟩
    cases K:(List.range len).mapM (fun i=>(W.cells? 0 (a.add (i*P.cellsOf D)) (P.cellsOf D)).bind (DataW.trod enc P W 0 (fun _=>true) true fuel D)) with
    | none=>rw[K] at h;simp at h
    | some SF =>
     obtain⟨h1,T⟩:=Ani K
     rw[q.size] at T
     have each:∀ i:Nat,i<len→∃ x:α,∃ cs,W.cells? 0 (a.add (i*n)) n=some cs∧RepCs (fun k=>k<W.heap.size) W (e x) (fun j=>cs[j]?) 0:=by
      intro i hi
      have F:=T i i (by simp[hi])
      rw[List.getElem?_eq_getElem (by rw[h1];simpa using hi)] at F
      cases c:W.cells? 0 (a.add (i*n)) n with
      | none=>rw[c] at F;simp at F
      | some cs =>
       rw[c] at F
       obtain⟨_,x,b⟩:=q.read enc W fuel cs _ _ F
       exact⟨x,cs,rfl,b⟩
     have build:∀ m,m≤len→∃ l:List α,l.length=m∧∀ i x,l[i]?=some x→∃ cs,W.cells? 0 (a.add (i*n)) n=some cs∧RepCs (fun k=>k<W.heap.size) W (e x) (fun j=>cs[j]?) 0:=by
      intro m
      induction m with
      | zero=>intro _;exact⟨[],rfl,by simp⟩
      | succ m ih =>
       intro K
       obtain⟨l,I,v⟩:=ih (by omega)
       obtain⟨x,cs,L,M⟩:=each m (by omega)
       refine⟨l++[x],by simp[I],fun i y A=>?_⟩
       rw[List.getElem?_append] at A
       split at A
       ·exact v i y A
       ·have:i=m:=by
         have:=(List.getElem?_eq_some_iff.1 A).1
         simp at this;omega
        subst this
        simp[I] at A;subst A
        exact⟨cs,L,M⟩
     obtain⟨l,I,v⟩:=build len (Nat.le_refl _)
     refine⟨⟨l,by omega⟩,?_⟩
     simp only[RepCs,RepC,and_true]
     refine⟨_,rfl,?_,some a,cap,by rw[I],by omega,by simp,?_⟩
     ·exact X_ q.len l
     ·by_cases h0:l.length=0
      ·exact .inl h0
      ·right
       refine⟨a,rfl,?_,?_⟩
       ·obtain⟨x,cs,b,_⟩:=each 0 (by omega)
        have:=World.cells?_block b q.pos
        rwa [Sz] at this
       ·rw[Bz]
        intro j x C
        rw[XZ q.pos q.len] at C
        cases hq:l[j/n]? with
        | none=>rw[hq] at C;simp at C
        | some y =>
         rw[hq] at C
         simp at C
         obtain⟨cs,c,f⟩:=v (j/n) y hq
         rw[Bz] at f
         obtain⟨u,G,O⟩:=f (j%n) x C
         refine⟨u,?_,O⟩
         obtain⟨_,U,z⟩:=World.cells?_some c
         have S:j%n<n:=Nat.mod_lt _ q.pos
         have:=z (j%n) S
         rw[Addr.add_add,show j/n*n+j%n=j by rw[Nat.mul_comm];exact Nat.div_add_mod j n] at this
         simp only[Nat.zero_add] at G ⊢
         rw[this];exact G
   ·simp at h
  ·simp at h
end Gx

namespace Gx
open Go Go.RowKit
theorem As0 {J:Bool→Nat→Prop} {β:Cj} {w w':World} (S:SimH J β [] w) (B:Below w.heap.size w w'):SimH J β [] w' :=
 ⟨fun o k h=>Nat.lt_of_lt_of_le (S.jlt o k h) B.size,S.jft,S.gl.to (fun _ h=>h) (fun k d=>B.block k (S.jlt _ k d)),fun b x c=>by simp[Am] at c,fun b x c=>by simp[Am] at c,fun b e x x' k o o' c=>by simp[Am] at c⟩
theorem Afa {P:Program} {f:Nat} {c:LA} {d:AV}
  (l:∀ (J:Bool→Nat→Prop) (β:Cj) (w:World) (vs:List Value),GlobOk J w→Reps J β [] w c vs→Calls P f vs.toArray w fun e w'=>∃ vc,e=.returned vc∧Below w.heap.size w w'∧∀ J β w,Rep J β [] w d vc):A4v P f c [] d []:=by
 intro J β w vs S hr
 refine(l J β w vs S.gl hr).mono ?_
 rintro e w' ⟨vc,rfl,B,m⟩
 refine⟨vc,J,β,rfl,⟨As0 S B,B.os,B.tape,B.output,B.size,fun k j _=>B.block k j,?_,fun _ _ h=>h,fun _ _ h=>.inl h,fun k=>?_,fun b x0 x i=>by simp[Am] at i,fun b x i=>by simp[Am] at i⟩,m _ _ _⟩
 ·rintro k ⟨b,x,o,i,_⟩;simp[Am] at i
 ·by_cases j:k<w.heap.size
  ·simp[Bh,B.block k j]
  ·simp[Bh,Array.getElem?_eq_none (Nat.le_of_not_lt j)]
theorem A2q {P:Program} {f:Nat} {i:LA} {c:LA} {n sz:Nat} (t:c.length=n*sz)
  (u:∀ (J:Bool→Nat→Prop) (β:Cj) (w:World) (vs:List Value),GlobOk J w→Reps J β [] w i vs→Calls P f vs.toArray w fun e w'=>∃ (cs:Array Value) (ty:TypeId),e=.returned (.slice (some ⟨w.heap.size,0,none⟩) n n)∧w'=w.alloc (.cells cs ty)∧cs.size=n*sz∧RepCs (J false) w c (fun j=>cs[j]?) 0):A4v P f i [] (.own 300000 0 n) [(300000,{ dead:=false,sealed:=false,pure:=true,taint:=false,sz,cells:=c })]:=by
 intro J β w vs S hr
 refine(u J β w vs S.gl hr).mono ?_
 rintro e w' ⟨cs,ty,rfl,rfl,hs,q⟩
 have A:=Step.new (d:=300000) (x:={ dead:=false,sealed:=false,pure:=true,taint:=false,sz,cells:=c }) (ty:=ty) (fr:=(0,0)) (cs:=cs) S rfl rfl rfl FrTy.un0 (by show c.length≤_;omega) ⟨fun _=>q,fun v=>by cases v⟩
 have m:(w.alloc (.cells cs ty)).heap[w.heap.size]?=some (.cells cs ty (0,0)):=by show(w.heap.push _)[_]?=_;simp
 refine⟨_,_,_,rfl,⟨A.sim,A.os,A.tape,A.output,A.size,A.frame,A.wr,A.ext.jsub,A.jup,fun k=>?_,fun b x0 x l=>by simp[Am] at l,fun b x l=>?_⟩,?_⟩
 ·by_cases s:k<w.heap.size
  ·simp[Bh,Dq w _ s]
  ·simp[Bh,Array.getElem?_eq_none (Nat.le_of_not_lt s)]
 ·rw[Am] at l
  cases hq:Nat.beq 300000 b<;>rw[hq] at l<;>simp[Am] at l
  subst l;rfl
 ·rw[Rep]
  refine⟨_,_,n,⟨rfl,rfl⟩,rfl,Nat.le_refl _,.inr ⟨w.heap.size,0,rfl,.inr ⟨by simp,?_,by simp[t]⟩⟩⟩
  rw[Ey m,hs];simp
theorem Ank {J:Bool→Nat→Prop} {β:Cj} {h:Aj} {w:World} {x:AV} {vs:List Value} (H:Reps J β h w [x] vs):∃ u,vs=[u]∧Rep J β h w x u:=by
 rw[Reps] at H
 obtain⟨u,us,rfl,c,b⟩:=H
 rw[Reps] at b;subst b
 exact⟨u,rfl,c⟩
theorem Anl {J:Bool→Nat→Prop} {β:Cj} {h:Aj} {w:World} {x y:AV} {vs:List Value} (H:Reps J β h w [x,y] vs):∃ u v,vs=[u,v]∧Rep J β h w x u∧Rep J β h w y v:=by
 rw[Reps] at H
 obtain⟨u,us,rfl,b,c⟩:=H
 obtain⟨v,rfl,d⟩:=Ank c
 exact⟨u,v,rfl,b,d⟩
theorem A0o {W:World} {P:Program} {g:Nat} {name:String} {k:IntKind} {zs:List Int} (h:Lib.TabIs P W name k zs) (b:P.globalNamed name=some g):∃ ty fr,W.heap[g]?=some (.cells (zs.map fun z=>Value.int k z).toArray ty fr):=by
 unfold Lib.TabIs World.var? at h
 rw[b] at h
 simp only[Option.bind_some] at h
 split at h
 ·rename_i cs ty fr c
  simp at h;subst h
  exact⟨ty,fr,c⟩
 ·cases h
theorem GlobOk.int {J:Bool→Nat→Prop} {w:World} (h:GlobOk J w) {g:Nat} (b:g ∈ Ar5):∃ m,w.cell? ⟨g,0,none⟩=some (.int .i64 m):=(h.2 g b).2
theorem A0p {W:World} {g i:Nat} {v:Value} (h:W.cell? ⟨g,i,none⟩=some v):g<W.heap.size:=by
 rcases Nat.lt_or_ge g W.heap.size with b | b
 ·exact b
 ·simp[World.cell?,Array.getElem?_eq_none b] at h
end Gx

namespace Gx
open Go
theorem am {a b:Bool} (c:a=true) (d:b=true):(a&&b)=true:=by rw[c,d];rfl
theorem A0q {P:Program} (O:laidOutB P=true) (S:mapsRowed P=true) (T:(P.stops==[])=true) (U:(P.stopKnobs==[])=true) (b:P.stopsHeard=true) (d:P.mayEnter=true) {f:FuncId} {fn:Func} {s:ChangeSpec} {c:OpenClaim} (e:(c.inPlace==P.inPlace f)=true) (i:(c.unfollowed==P.unfollowed f)=true) (j:(c.recurses==P.recurses f)=true) (l:(c.named==P.varsNamed f)=true)
  (m:(c.lifted==P.liftsFinal)=true) (n:(P.make==some c.make)=true) (q:(c.plainKeys==P.plainKeys)=true)
  (V:c.wf (OpenSpec.ofChange s)=true) (X:fn.params.all (P.readableRec ·)=true) (Y:namedTie P c.named s.vars=true) (h6:(c.stops==[])=true) (h8:(c.knobs==[])=true)
  (u:(c.maps==(fn.params.toList++s.plain.varTypes P).any (P.mapsRec ·))=true) (v:(c.ifaces==(fn.params.toList++s.plain.varTypes P).any (P.ifacesRec ·))=true) (x:(c.mapsOut==P.mapsAmong fn.resultTypes.toList)=true)
  (y:(c.loops==(fn.params.toList++s.plain.varTypes P).any (P.loopsFrom ·))=true) (z:(c.wideKeys==(fn.params.toList++s.plain.varTypes P++fn.resultTypes.toList).any (P.wideKeysFrom ·))=true)
  (A:s.vars.all (P.varReadable ·)=true) (C:fn.resultTypes.all (fun t=>P.readableRec t&&decide (t<P.types.size))=true) (D:(c.ifacesOut==fn.resultTypes.toList.any (P.ifacesRec ·))=true) (F:(c.loopsOut==fn.resultTypes.toList.any (P.loopsFrom ·))=true)
  (G:c.shortTexts.isNone=true) (I:(c.kinds==(if c.domain.isEmpty then [] else fn.params.toList.map fun t=>match P.underlying t with | some (.int k)=>some k | _=>none))=true) (K:(c.pinned==c.pinnedBy)=true)
  (L:(c.veiled==(fn.params.toList++s.plain.varTypes P++fn.resultTypes.toList).any (P.veiledRec ·))=true) (M:c.veiledFits P fn.params.toList (fn.params.toList++s.plain.varTypes P++fn.resultTypes.toList)=true):joinedFacts P f fn s c=true:=by
 unfold joinedFacts
 exact am (am (am (am (am (am (am (am (am (am (am (am (am (am (am (am (am (am (am (am (am (am (am (am (am (am (am (am (am (am (am V O) S) X) Y) h6) T) h8) U) e) i) j) l) u) v) x) y) z) A) C) D) F) q) G) b) d) m) n) I) K) L) M
end Gx

namespace Go.Proofs.YtjmfofdghmlldaaGreatDoor
open Go.ChangeShapes Go.WideShapes Go.ChangeAt Go.RowKit
theorem A4x:ownKnob Tryz.prog.godebug=none:=by kernel_rfl
theorem LN:laidOutB Tryz.prog=true:=by kernel_rfl
theorem A5z : Tryz.prog.globalNamed "internal/strconv.uint64pow10" = some 3 := by kernel_rfl
theorem A6o:(Tryz.prog.globals[3]?).map (·.type)=some 333:=by kernel_rfl
theorem A50:Tryz.prog.underlying 333=some (.array 20 114):=by kernel_rfl
theorem A51:Tryz.prog.underlying 114=some (.int .u64):=by kernel_rfl
theorem A52:Tryz.prog.cellsOf 333=20:=by kernel_rfl
theorem A53:Tryz.prog.cellsOf 114=1:=by kernel_rfl
def A4y:List Int:=(List.range 20).map fun i=>((10 ^ i:Nat):Int)
theorem Axr {H:Type}:(Rows.laid_internal_strconv_uint64pow10:DataW H)=Lib.tabData .u64 A4y:=rfl
theorem A3m:mapsRowed Tryz.prog=true:=by kernel_rfl
theorem A0r:(Tryz.prog.stops==[])=true:=by kernel_rfl
theorem A0s:(Tryz.prog.stopKnobs==[])=true:=by kernel_rfl
theorem A0t:Tryz.prog.stopsHeard=true:=by kernel_rfl
theorem A0u:Tryz.prog.mayEnter=true:=by kernel_rfl
theorem A0v:(Rows.numtextNativeRow.lifted==Tryz.prog.liftsFinal)=true:=by kernel_rfl
theorem A3n:(Tryz.prog.make==some Rows.numtextNativeRow.make)=true:=by kernel_rfl
theorem A3o:(Rows.numtextNativeRow.plainKeys==Tryz.prog.plainKeys)=true:=by kernel_rfl
end Go.Proofs.YtjmfofdghmlldaaGreatDoor

namespace Gx
open Go
theorem wrap_u32 (a:Nat) (h:a<4294967296):IntKind.wrap .u32 (a:Int)=(a:Int):=IntWalk.u32_in _ (by omega)
theorem Axs (a:Nat):IntKind.wrap .u32 (a:Int)=((a%4294967296:Nat):Int):=by rw[IntKind.wrap_u32];omega
theorem wrap_i64 (a:Int) (h:-9223372036854775808≤a∧a≤9223372036854775807):IntKind.wrap .i64 a=a:=IntWalk.i64_in _ h
theorem wrap_u64 (a:Nat) (h:a<18446744073709551616):IntKind.wrap .u64 (a:Int)=(a:Int):=IntWalk.u64_in _ (by omega)
theorem dT (w a:Nat):BitVec.ofInt w (a:Int)=BitVec.ofNat w a:=by simp
theorem As1 {k:IntKind} (hs:k.signed=false) {a b:Nat} (d:a<2 ^ k.bits) (c:b<2 ^ k.bits):Asy k a b=((a &&& b:Nat):Int):=by
 unfold Asy
 rw[dT,dT]
 have e:(BitVec.ofNat k.bits a &&& BitVec.ofNat k.bits b).toNat=a &&& b:=by
  rw[BitVec.toNat_and,BitVec.toNat_ofNat,BitVec.toNat_ofNat,Nat.mod_eq_of_lt d,Nat.mod_eq_of_lt c]
 rw[e]
 have f:a &&& b<2 ^ k.bits:=Nat.and_lt_two_pow _ c
 unfold IntKind.wrap
 simp only[hs,Bool.false_and,Bool.false_eq_true,if_false]
 have:(2 ^ k.bits:Int)=((2 ^ k.bits:Nat):Int):=by simp
 rw[this,←Int.natCast_emod,Nat.mod_eq_of_lt f]
theorem Afb {k:IntKind} (hs:k.signed=false) {a b:Nat} (c:a<2 ^ k.bits) (d:b<2 ^ k.bits):rL k a b=((a ||| b:Nat):Int):=by
 unfold rL
 rw[dT,dT]
 have e:(BitVec.ofNat k.bits a ||| BitVec.ofNat k.bits b).toNat=a ||| b:=by
  rw[BitVec.toNat_or,BitVec.toNat_ofNat,BitVec.toNat_ofNat,Nat.mod_eq_of_lt c,Nat.mod_eq_of_lt d]
 rw[e]
 have f:a ||| b<2 ^ k.bits:=Nat.or_lt_two_pow c d
 unfold IntKind.wrap
 simp only[hs,Bool.false_and,Bool.false_eq_true,if_false]
 have:(2 ^ k.bits:Int)=((2 ^ k.bits:Nat):Int):=by simp
 rw[this,←Int.natCast_emod,Nat.mod_eq_of_lt f]
theorem kW (a k:Nat):Int.fdiv (a:Int) (2 ^ k)=((a/2 ^ k:Nat):Int):=by
 have:(2 ^ k:Int)=((2 ^ k:Nat):Int):=by simp
 rw[this,Int.fdiv_eq_ediv_of_nonneg (a:Int) (Int.natCast_nonneg (2 ^ k))]
 rfl
theorem A6 {R:Type} {k:IntKind} {n:Int} {r:LA} {f:Int→O R}:At k (.int k n::r) f=f n:=by simp[At,ql,Tu]
theorem Ab {i n:Nat} (h:i<n):Ah (i:Int) n=true:=by simp[Ah];omega
end Gx

namespace Gx
open Go Go.RowKit
section
variable {P:Program} {W:World} {H:Type} {enc:TypeId×Value→H} {β:Cj} {h:Aj}
theorem A2r {t c:TypeId} {α:Type} {e:α→LA} {n:Nat} {a:Option Addr} {len cap:Nat} {d:DataW H} {p:List MemPlace} (b:P.underlying t=some (.slice c)) (f:P.cellsOf t=1) (i:Opens P c e n)
  (j:DataW.Trod enc P W 0 (fun _=>true) true t (.slice a len cap) d p):∃ l:List α,l.length≤maxLen∧Rep (fun _ k=>k<W.heap.size) β h W (.imm (l.flatMap e) l.length n false false) (.slice a len cap):=by
 obtain⟨fuel,m⟩:=j
 obtain⟨_,⟨l,q⟩,hr⟩:=(Anj b f i).read enc W fuel _ _ _ m
 refine⟨l,q,?_⟩
 simp only[RepCs,Value.cells,and_true] at hr
 obtain⟨u,b,hr⟩:=hr
 simp at b;subst b
 rw[Rep];exact hr
theorem Awl {k:IntKind} {n:Int}:Rep (fun _ k=>k<W.heap.size) β h W (.int k n) (.int k n):=by rw[Rep]
theorem A0w {b:Bool}:Rep (fun _ k=>k<W.heap.size) β h W (.bool b) (.bool b):=by rw[Rep]
theorem Anm:Reps (fun _ k=>k<W.heap.size) β h W [] []:=by rw[Reps]
theorem V7 {x:AV} {xs:LA} {v:Value} {vs:List Value} (b:Rep (fun _ k=>k<W.heap.size) β h W x v) (c:Reps (fun _ k=>k<W.heap.size) β h W xs vs):Reps (fun _ k=>k<W.heap.size) β h W (x::xs) (v::vs):=by
 rw[Reps];exact⟨v,vs,rfl,b,c⟩
end
end Gx

namespace Gx
open Go Go.RowKit
section
variable {P:Program} {W:World} {H:Type} {enc:TypeId×Value→H} {β:Cj} {h:Aj}
theorem A0x {t:TypeId} {α:Type} {e:α→LA} {n:Nat} {cs:Array Value} {d:DataW H} {p:List MemPlace} (b:Opens P t e n)
  (c:DataW.Trod enc P W 0 (fun _=>true) true t (.agg cs) d p):∃ a:α,Rep (fun _ k=>k<W.heap.size) β h W (.pagg (e a) false) (.agg cs):=by
 obtain⟨fuel,f⟩:=c
 obtain⟨i,a,hr⟩:=b.read enc W fuel _ _ _ f
 refine⟨a,?_⟩
 rw[Rep]
 exact⟨cs.toList,rfl,by rw[b.len];exact i,hr⟩
end
end Gx

namespace Gx
open Go Go.RowKit
theorem Aik {P:Program} {t:TypeId} (b:P.underlying t=some .string) (c:P.cellsOf t=1):Opens P t (α:={ s:List UInt8 // s.length≤maxLen }) (fun s=>[.str s.1]) 1:=by
 refine⟨c,by omega,fun _=>rfl,fun enc W fuel cs d ps h=>?_⟩
 obtain⟨s,rfl,_,e⟩:=DataW.trod_string b h
 refine⟨rfl,⟨s.data.toList,e⟩,?_⟩
 simp[RepCs,RepC]
structure OpensF (P:Program) (fs:List Field) (off:Nat) {α:Type} (e:α→List AV) (n:Nat):Prop where
 len:∀ a,(e a).length=n
 read:∀ {H:Type} (enc:TypeId×Value→H) (W:World) (fuel:Nat) (cs:List Value),(∀ (i:Nat) (f:Field),fs[i]?=some f→∃ d ps,DataW.trod enc P W 0 (fun _=>true) true fuel f.type ((cs.drop f.offset).take (P.cellsOf f.type))=some (d,ps)) →
  ∃ a,RepCs (fun k=>k<W.heap.size) W (e a) (fun j=>cs[j]?) off
theorem As2 {P:Program} {off:Nat}:OpensF P [] off (α:=Unit) (fun _=>[]) 0:=⟨fun _=>rfl,fun _ _ _ _ _=>⟨(),by simp[RepCs]⟩⟩
theorem GM {P:Program} {f:Field} {fs:List Field} {off:Nat} {α β:Type} {e:α→LA} {n:Nat} {s:β→LA} {m:Nat} (z:f.offset=off) (c:Opens P f.type e n) (t:OpensF P fs (off+n) s m) :
  OpensF P (f::fs) off (α:=α×β) (fun p=>e p.1++s p.2) (n+m):=by
 refine⟨fun p=>by rw[List.length_append,c.len,t.len],fun enc W fuel cs h=>?_⟩
 obtain⟨d,ps,A⟩:=h 0 f rfl
 obtain⟨D,a,v⟩:=c.read enc W fuel _ _ _ A
 obtain⟨b,y⟩:=t.read enc W fuel cs fun i g C=>h (i+1) g (by simpa using C)
 refine⟨(a,b),?_⟩
 rw[Bz] at v y ⊢
 intro j x q
 by_cases l:j<n
 ·rw[List.getElem?_append_left (by rw[c.len];exact l)] at q
  obtain⟨u,k,hr⟩:=v j x q
  refine⟨u,?_,hr⟩
  simp only[Nat.zero_add] at k
  rw[c.size,List.getElem?_take_of_lt l,List.getElem?_drop,z] at k
  exact k
 ·rw[List.getElem?_append_right (by rw[c.len];omega),c.len] at q
  obtain⟨u,k,hr⟩:=y (j - n) x q
  refine⟨u,?_,hr⟩
  rw[show off+n+(j - n)=off+j by omega] at k
  exact k
theorem Ail {P:Program} {t:TypeId} {fs:Array Field} {α:Type} {e:α→LA} {n:Nat} (l:P.underlying t=some (.struct fs)) (j:P.cellsOf t=n) (hn:0<n) (h:OpensF P fs.toList 0 e n):Opens P t e n:=by
 refine⟨j,hn,h.len,fun enc W fuel cs d ps m=>?_⟩
 obtain⟨xs,g,_,_,q,b,s⟩:=DataW.trod_struct l m
 refine⟨by rw[q,j],?_⟩
 exact h.read enc W g cs fun i f hi=>by
  have k:fs[i]?=some f:=by simpa using hi
  have:=s i f k
  have c:i<xs.length:=by
   rw[b];exact(Array.getElem?_eq_some_iff.1 k).1
  rw[List.getElem?_eq_getElem c] at this
  exact⟨_,_,this⟩
end Gx

namespace Gx
open Go Go.RowKit
section
variable {P:Program} {W:World} {H:Type} {enc:TypeId×Value→H} {β:Cj} {h:Aj}
theorem f5 {t:TypeId} {fs:Array Field} {b:Nat} {r:Reach} {v:Value} (c:P.underlying t=some (.struct fs)) (h:Value.okWide P W r b t v):∃ cs,v=.agg cs:=by
 unfold Value.okWide at h
 rw[c] at h
 obtain⟨cs,h,_⟩:=h
 exact⟨cs,h⟩
theorem A0y {J:Nat→Prop}:∀ {x:AV} {u:Value},RepC J W x u→Rep (fun _=>J) β h W x u
 | .int ..,_,h=>by rw[Rep];rw[RepC] at h;exact h
 | .bool _,_,h=>by rw[Rep];rw[RepC] at h;exact h
 | .str _,_,h=>by rw[Rep];rw[RepC] at h;exact h
 | .nsl,_,h=>by rw[Rep];rw[RepC] at h;exact h
 | .imm ..,_,h=>by rw[Rep];exact h
 | .iptr ..,_,h=>by rw[Rep];exact h
 | .nilptr,_,h=>by rw[Rep];rw[RepC] at h;exact h
 | .nilfn,_,h=>by rw[Rep];rw[RepC] at h;exact h
 | .fn f [],_,h=>by
  rw[Rep];rw[RepC] at h
  exact⟨[],by simpa using h,by rw[Reps]⟩
 | .fn _ (_::_),_,h=>by simp[RepC] at h
 | .pagg ..,_,h=>by simp[RepC] at h
 | .agg _,_,h=>by simp[RepC] at h
 | .tup _,_,h=>by simp[RepC] at h
 | .own ..,_,h=>by simp[RepC] at h
 | .omap _,_,h=>by simp[RepC] at h
 | .optr ..,_,h=>by simp[RepC] at h
 | .undef,_,h=>by simp[RepC] at h
theorem Awm {J:Nat→Prop}:∀ {c:LA} {cs:List Value} {rd:Nat→Option Value} {i:Nat},cs.length=c.length→(∀ j,cs[j]?=rd (i+j))→RepCs J W c rd i→Reps (fun _=>J) β h W c cs
 | [],cs,_,_,b,_,_=>by rw[Reps];simpa using b
 | x::r,[],_,_,b,_,_=>by simp at b
 | x::r,u::us,rd,i,b,hr,e=>by
  rw[RepCs] at e
  obtain⟨⟨k,d,f⟩,e⟩:=e
  have h0:=hr 0
  simp only[List.getElem?_cons_zero,Nat.add_zero] at h0
  rw[←h0] at d
  cases d
  rw[Reps]
  refine⟨u,us,rfl,A0y f,Awm (by simpa using b) (fun j=>?_) e⟩
  have:=hr (j+1)
  rw[List.getElem?_cons_succ] at this
  rw[this];congr 1;omega
theorem Awn {c:LA} {v:Value} (hr:Rep (fun _ k=>k<W.heap.size) β h W (.pagg c false) v):Rep (fun _ k=>k<W.heap.size) β h W (.agg c) v:=by
 rw[Rep] at hr
 obtain⟨cs,b,d,e⟩:=hr
 rw[Rep]
 exact⟨cs,b,Awm d (fun j=>by rw[Nat.zero_add]) e⟩
end
end Gx

namespace Gx
open Go Go.Proofs
open IntKind (wrap)
set_option maxRecDepth 100000
noncomputable section
variable {R:Type} (N:Nat)
def muts:Nat→List Bool:=A3l [(66,[false,true]),(97,[true,false]),(98,[true,false,false]),(100,[true,false,false,false,false]),(101,[true,false,false,false]),(102,[true,false,false,false]),(111,[true]),(113,[true,false]),(116,[true]),(132,[false,true]),(157,[true,false]),(158,[true,false]),(159,[true,false,false,false]),(160,[true,false,false,false,false,false,false,false]),(161,[true,false,false,false,false,false]),(163,[true,false,false]),(164,[true,false,false]),(165,[true,false,false]),(166,[true,false,false]),(167,[true,false,false]),(171,[true]),(172,[true]),(173,[true]),(174,[true]),(175,[true]),(176,[true]),(177,[true]),(178,[true]),(181,[true,true]),(182,[false,true,true,true,true,true,true,true,true]),(184,[true,true]),(185,[false,true,true,true,true,true,true,true,true]),(191,[true]),(204,[true,false]),(205,[true]),(214,[true]),(225,[true,false,false,false,false,false]),(227,[true,false,false,false,false,false]),(228,[true,false,false]),(233,[true,false,false]),(234,[true,false,false,false,false]),(235,[true,false,false,false,false]),(236,[true,false,false,false]),(237,[true,false,true]),(238,[false,true,true,true,true,true,true,true,true]),(239,[false,true,true,true,true,true,true,true,true]),(240,[true,false,false]),(242,[true,false,false]),(243,[false,true,true,true,true,true,true,true,true]),(244,[true,false]),(245,[false,true,true,true,true,true,true,true,true]),(246,[false,true,true,true,true,true,true,true,true]),(247,[false,true,true,true,true,true,true,true,true]),(249,[true,false]),(254,[false,true]),(271,[true,false]),(277,[true,false]),(314,[false,true,true,true,true,true,true,true,true])]
def Ki {R:Type}:=@A6m R Tryz.prog muts
abbrev C7 {R:Type}:=@SH R Tryz.prog muts
abbrev An:=@A33 Tryz.prog muts
theorem follows:Tryz.prog.follows .mixedOrders=true:=by kernel_rfl
theorem C8 {N f:Nat} {run:(R:Type)→Nat→LA→Aj→KF R→O R} (H:An N f run):Asq Tryz.prog f (A4 H):=A5x H follows
def Dx:Hints:={ H:=hL }
def f6:Hints:={ H:=hL,modes:=[(3,0)] }
def A4z:Hints:={ H:=hL,modes:=[(3,0),(0,0)] }
def SQ:Hints:={ H:=(hS hL (hS hL (hS (hP [0,1,2,15,16] hL) hL))) }
def f7:Hints:={ H:=(hS hL (hS (hS hL (hS (hP [0,1,7,8] hL) hL)) hL)) }
def Afc:Hints:={ H:=(hS hL (hS hL (hS (hS (hP [0,3] hL) hL) hL))),nils:=[(2,1)],modes:=[(2,1)] }
def Awo:Hints:={ H:=hL,nils:=[(2,1)],modes:=[(2,1)] }
def Awp:Hints:={ H:=(hS hL (hS hL (hS hL (hS (hS hL (hS (hP [0,1,5] hL) hL)) hL)))) }
def A40:Hints:={ H:=hL,modes:=[(3,0),(3,0),(0,0)] }
def Awq:Hints:={ H:=(hS hL (hS (hS hL (hS (hP [0,3] hL) hL)) hL)) }
end
end Gx

namespace Gx
def val:List Nat→Nat
 | []=>0
 | x::r=>x+4294967296*val r
def Av (l:List Nat):Prop:=∀ x ∈ l,x<4294967296
def Ann:Nat→Nat→List Nat
 | 0,_=>[]
 | f+1,n=>if n=0 then [] else n%4294967296::Ann f (n/4294967296)
def Ba (n:Nat):List Nat:=Ann n n
theorem Awr:∀ (f n:Nat),n≤f→∀ g,n≤g→Ann f n=Ann g n
 | 0,n,h,g,_=>by
  have:n=0:=by omega
  subst this;cases g<;>simp[Ann]
 | f+1,n,h,g,b=>by
  by_cases h0:n=0
  ·subst h0;cases g<;>simp[Ann]
  ·cases g with
   | zero=>omega
   | succ g=>simp only[Ann,h0,if_false];rw[Awr f _ (by omega) g (by omega)]
theorem G2:Ba 0=[]:=rfl
theorem GN {n:Nat} (h:n≠0):Ba n=n%4294967296::Ba (n/4294967296):=by
 unfold Ba
 cases n with
 | zero=>omega
 | succ n=>simp only[Ann,h,if_false];rw[Awr n _ (by omega) ((n+1)/4294967296) (by omega)]
theorem Aw:∀ n,val (Ba n)=n:=by
 intro n
 induction n using Nat.strongRecOn with
 | _ n b =>
  by_cases h:n=0
  ·subst h;rfl
  ·rw[GN h,val,b _ (by omega)];omega
theorem Au:∀ n,Av (Ba n):=by
 intro n
 induction n using Nat.strongRecOn with
 | _ n c =>
  by_cases h:n=0
  ·subst h;intro x b;simp[G2] at b
  ·rw[GN h];intro x b
   simp at b
   rcases b with rfl | b
   ·omega
   ·exact c _ (by omega) x b
theorem dU:Av []:=by intro x b;simp at b
theorem Ez {x:Nat} {r:List Nat}:Av (x::r)↔x<4294967296∧Av r:=by simp[Av]
theorem L0 {a:List Nat} (h:Av a) (n:Nat):Av (a.take n):=fun x b=>h x (List.mem_of_mem_take b)
theorem Ja {a:List Nat} (h:Av a) {i:Nat} (hi:i<a.length):a[i]<4294967296:=h _ (List.getElem_mem hi)
theorem Nj {a:List Nat} (h:Av a) {v:Nat} (d:v<4294967296) (i:Nat):Av (a.set i v):=fun x c=>by
 rcases List.mem_or_eq_of_mem_set c with b | b
 ·exact h x b
 ·omega
theorem Jb (n:Nat):Av (List.replicate n 0):=fun x b=>by simp at b;omega
theorem j0:∀ (a b:List Nat),val (a++b)=val a+4294967296 ^ a.length*val b
 | [],b=>by simp[val]
 | x::r,b=>by
  simp only[List.cons_append,val,List.length_cons,j0 r b,Nat.pow_succ]
  rw[Nat.mul_add,←Nat.add_assoc,←Nat.mul_assoc];congr 2;rw[Nat.mul_comm]
theorem J9:∀ n,val (List.replicate n 0)=0
 | 0=>rfl
 | n+1=>by rw[List.replicate_succ,val,J9 n]
theorem Kt:∀ {a:List Nat},Av a→val a<4294967296 ^ a.length
 | [],_=>by simp[val]
 | x::r,h=>by
  have b:=Ez.1 h
  have c:=Kt b.2
  rw[val,List.length_cons,Nat.pow_succ]
  omega
theorem As3 (a:List Nat) (x:Nat):val (a++[x])=val a+4294967296 ^ a.length*x:=by rw[j0];simp[val]
theorem j1 {n:Nat} (h:n≠0):Ba n≠[]:=by rw[GN h];simp
theorem As4 {n:Nat}:Ba n=[]↔n=0:=by
 constructor
 ·intro h;by_cases h0:n=0;exact h0;exact absurd h (j1 h0)
 ·intro h;rw[h];rfl
theorem Eb {n:Nat}:(Ba n).length=0↔n=0:=by rw[List.length_eq_zero_iff,As4]
theorem Ds:∀ {l:List Nat},Av l→l=Ba (val l)++List.replicate (l.length - (Ba (val l)).length) 0∧(Ba (val l)).length≤l.length
 | [],_=>by simp[val,G2]
 | x::r,h=>by
  have c:=Ez.1 h
  obtain⟨b,d⟩:=Ds c.2
  rw[val]
  by_cases h0:x+4294967296*val r=0
  ·have e:x=0:=by omega
   have hr:val r=0:=by omega
   rw[h0,G2]
   rw[hr,G2] at b
   simp at b
   subst e
   refine⟨?_,by simp⟩
   rw[List.nil_append,List.length_nil,Nat.sub_zero,List.length_cons,List.replicate_succ,←b]
  ·rw[GN h0,show(x+4294967296*val r)%4294967296=x by omega,show(x+4294967296*val r)/4294967296=val r by omega]
   refine⟨?_,by simp;exact d⟩
   rw[List.cons_append,List.length_cons,List.length_cons,Nat.add_sub_add_right,←b]
theorem A0z:∀ (n:Nat) (h:Ba n≠[]),(Ba n).getLast h≠0:=by
 intro n
 induction n using Nat.strongRecOn with
 | _ n d =>
  intro h
  have h0:n≠0:=fun e=>h (by rw[e];rfl)
  have e:=GN h0
  by_cases c:n/4294967296=0
  ·rw[c,G2] at e
   have:n<4294967296:=by omega
   simp[e];omega
  ·have b:=j1 c
   have:=d _ (by omega) b
   have f:(Ba n).getLast h=(Ba (n/4294967296)).getLast b:=by
    simp only[e];rw[List.getLast_cons b]
   rw[f];exact this
theorem A34:∀ {l:List Nat},Av l→(∀ h:l≠[],l.getLast h≠0)→Ba (val l)=l:=by
 intro l h i
 obtain⟨b,j⟩:=Ds h
 by_cases d:l.length - (Ba (val l)).length=0
 ·rw[d] at b;simpa using b.symm
 ·exfalso
  obtain⟨k,d⟩:=Nat.exists_eq_succ_of_ne_zero d
  rw[d,List.replicate_succ',←List.append_assoc] at b
  have c:l≠[]:=by intro e;rw[e] at b;simp at b
  apply i c
  have f:l.getLast?=some 0:=by rw[b,List.getLast?_append];rfl
  rw[List.getLast?_eq_some_getLast c] at f
  simpa using f
theorem JU {n k:Nat} (h:n<4294967296 ^ k):(Ba n).length≤k:=by
  induction k generalizing n with
  | zero => have : n = 0 := by simpa using h
            subst this;simp[G2]
  | succ k b =>
    by_cases h0:n=0
    · subst h0;simp[G2]
    · rw[GN h0,List.length_cons]
      have:n/4294967296<4294967296 ^ k:=by
        rw[Nat.pow_succ] at h
        exact Nat.div_lt_of_lt_mul (by rw[Nat.mul_comm];exact h)
      have:=b this
      omega
theorem F6 {a b:Nat} (h:a≤b):(Ba a).length≤(Ba b).length:=by
 apply JU
 have:=Kt (Au b)
 rw[Aw] at this
 omega
end Gx

namespace Gx
open Go
section
variable {R:Type}
def As (l:List Nat):LA:=l.map fun n:Nat=>.int .u32 (n:Int)
theorem dV (x:Nat) (l:List Nat):As (x::l)=.int .u32 (x:Int)::As l:=rfl
theorem Cs (l:List Nat):(As l).length=l.length:=by simp[As]
theorem Axt (l:List Nat) (n:Nat):(As l).drop n=As (l.drop n):=by simp[As,List.map_drop]
theorem dW (l:List Nat) (n:Nat):(As l).take n=As (l.take n):=by simp[As,List.map_take]
theorem Ano (l:List Nat) (j:Nat) (v:Nat):List.set (As l) j (.int .u32 (v:Int))=As (l.set j v):=by simp[As,List.map_set]
theorem Ku (n:Nat):List.replicate n (AV.int .u32 0)=As (List.replicate n 0):=by simp[As]
theorem A00 {l:List Nat} {i:Nat} (h:i<l.length) {f:Int→O R}:At .u32 (List.drop i (As l)) f=f (l[i]:Nat):=by
 rw[Axt,List.drop_eq_getElem_cons h,dV,A6]
theorem GO:∀ l:List Nat,A0 (As l)=true
 | []=>rfl
 | x::r=>by rw[dV,A0];exact GO r
theorem Aim (a b:Nat):(a:Int)+(b:Int)=((a+b:Nat):Int):=by omega
theorem A35 (a b:Nat):(a:Int)*(b:Int)=((a*b:Nat):Int):=by simp
theorem XB {a:Nat} (h:a<18446744073709551616):IntKind.wrap .u64 (a:Int)=(a:Int):=wrap_u64 a h
theorem A3p {a:Nat} (h:a<4294967296):IntKind.wrap .u32 (a:Int)=(a:Int):=wrap_u32 a h
theorem Anp (a:Nat):IntKind.wrap .u32 (a:Int)=((a%4294967296:Nat):Int):=Axs a
theorem um (a:Int):IntKind.wrap .u64 a=a%18446744073709551616:=IntKind.wrap_u64 a
theorem Ain {a b:Nat} (c:a<18446744073709551616) (d:b≤a):IntKind.wrap .u64 ((a:Int) - (b:Int))=((a - b:Nat):Int):=by rw[um];omega
theorem A01 {a b:Nat} (h:a<b) (c:b≤18446744073709551616):IntKind.wrap .u64 ((a:Int) - (b:Int))=((18446744073709551616+a - b:Nat):Int):=by rw[um];omega
theorem As5 (a:Nat):Int.fdiv (a:Int) (2 ^ 32)=((a/4294967296:Nat):Int):=kW a 32
theorem A41 (a:Nat):Int.fdiv (a:Int) (2 ^ 63)=((a/9223372036854775808:Nat):Int):=kW a 63
theorem i64 {a:Int} (h:-9223372036854775808≤a∧a≤9223372036854775807):IntKind.wrap .i64 a=a:=wrap_i64 a h
theorem A2s {a b:Nat} (c:a<18446744073709551616) (d:b<18446744073709551616):rL .u64 (a:Int) (b:Int)=((a ||| b:Nat):Int):=Afb rfl c d
theorem As6 {a b k:Nat} (h:b<2 ^ k):a*2 ^ k ||| b=a*2 ^ k+b:=by
 rw[←Nat.shiftLeft_eq,Nat.shiftLeft_add_eq_or_of_lt h]
end
end Gx

namespace Gx
open Go Go.Proofs Go.RowKit Go.ChangeShapes
open Go.Proofs.YtjmfofdghmlldaaGreatDoor (Rows.uptoBulk Rows.uptoBulkAll)
theorem A02 {H:Type} (d:DataW H):1≤Rows.uptoBulk d:=by
 cases d with
 | lit l=>cases l<;>simp[Rows.uptoBulk]
 | _=>simp[Rows.uptoBulk]
theorem A03 {H:Type} (l:List (DataW H)):l.length≤Rows.uptoBulkAll l:=by
 induction l with
 | nil=>simp[Rows.uptoBulkAll]
 | cons x r b=>have:=A02 x;simp only[Rows.uptoBulkAll,List.length_cons];omega
theorem A04 {n:Int} (h:(Lit.int .i64 n).wf=true):-9223372036854775808≤n∧n≤9223372036854775807:=by
 simp only[Lit.wf,Bool.and_eq_true,decide_eq_true_eq,show IntKind.i64.min=-9223372036854775808 from rfl,show IntKind.i64.max=9223372036854775807 from rfl] at h;omega
end Gx

namespace Go.Proofs.YtjmfofdghmlldaaGreatDoor
open Go.ChangeShapes Go.WideShapes Go.ChangeAt Go.RowKit
theorem Aws {W:World} (hL:laidMetH Tryz.prog Rows.eventsManyRow.laid W) (c:W.ShapedOpen Tryz.prog):Gx.GlobOk (fun _ k=>k<W.heap.size) W:=by
 have s : Lib.TabIs Tryz.prog W "internal/strconv.uint64pow10" .u64 A4y := by
  have d:laidMet Tryz.prog Rows.eventsManyRow.laid W:=hL
  obtain⟨ps,⟨F,t0,cs0,G,I,K,u,v,x,y,⟨L,t1,cs1,M,O,S,z,A,C,D,⟨T,t2,cs2,U,V,X,e,f,i,b,_,_⟩,_⟩,_⟩,_⟩:=d
  obtain rfl:=Option.some.inj (A5z.symm.trans e)
  obtain rfl:=Option.some.inj (A6o.symm.trans f)
  unfold Lib.TabIs
  rw[Axr] at b
  rw[i,←Lib.cells_of_tab A50 A51 A53 A52 b]
 obtain⟨ty,fr,j⟩:=Gx.A0o s A5z
 obtain⟨m,l⟩:=cell_of_shapedOpen_int (P:=Tryz.prog) (g:=0) (t:=3) (zero:=#[.int .i64 0]) c (of_decide_eq_true (by kernel_rfl)) (by kernel_rfl) rfl (by kernel_rfl) (by kernel_rfl) Tryz.underlying3
 refine⟨fun p n=>?_,fun g q=>?_⟩
 ·simp only[Gx.A3i,List.mem_singleton] at n
  subst n
  refine⟨?_,ty,fr,?_⟩
  ·show 3<W.heap.size
   rcases Nat.lt_or_ge 3 W.heap.size with h | h
   ·exact h
   ·rw[Array.getElem?_eq_none h] at j;cases j
  ·rw[j];rfl
 ·simp only[Gx.Ar5,List.mem_singleton] at q
  subst q
  exact⟨Gx.A0p l,m,l⟩
noncomputable def Afd (os:Os):World:=World.laidAll Tryz.prog os Rows.eventsManyRow.laid
theorem Anq (os:Os):(Afd os).os=os:=World.laidAll_os _ _ _
theorem Afe (os:Os) (b:Array Value):laidMetH Tryz.prog Rows.eventsManyRow.laid ((Afd os).forCall (fun _ _=>0) ⟨#[],b,[]⟩).memory :=
 laidMet_laidAll b (by kernel_rfl) (by kernel_rfl)
end Go.Proofs.YtjmfofdghmlldaaGreatDoor

namespace Gx.Cf
open Go Go.Proofs
inductive Sl (α:Type) where
 | nil
 | of (l:List α) (t o:Bool)
def Sl.l {α:Type}:Sl α→List α
 | .nil=>[]
 | .of l _ _=>l
def Sl.av {α:Type} (sz:Nat) (e:α→LA):Sl α→AV
 | .nil=>.nsl
 | .of l t o=>.imm (l.flatMap e) l.length sz t o
def JV (n:Int):LA:=[.int .i64 n]
def Aq (l:List Int):LA:=l.map fun n=>.int .i64 n
theorem Fa:∀ l:List Int,l.flatMap JV=Aq l
 | []=>rfl
 | a::r=>by rw[List.flatMap_cons,Fa r];rfl
theorem Ek (l:List Int):(Aq l).length=l.length:=by simp[Aq]
theorem X' (l m:List Int):Aq l++Aq m=Aq (l++m):=by simp[Aq]
structure FracD where
 num:Int
 den:Int
structure BusD where
 name:List UInt8
 demand:Sl Int
 shed:Int
structure LineD where
 name:List UInt8
 fr:Int
 tl:Int
 re:FracD
 smin:FracD
 smax:FracD
 limit:Int
 emer:Int
 away:Sl Int
structure SegD where
 width:Int
 price:Int
structure UnitD where
 name:List UInt8
 bus:Int
 min:Int
 max:Int
 segs:Sl SegD
 noLoad:Int
 rampUp:Int
 rampDown:Int
 startRamp:Int
 stopRamp:Int
 upTime:Int
 downTime:Int
 startTime:Int
 hotCost:Int
 coldCost:Int
 hotHours:Int
 reserve:Int
 reservePrice:Int
 away:Sl Int
 state:Int
 hours:Int
 output:Int
structure StoreD where
 name:List UInt8
 bus:Int
 capacity:Int
 initial:Int
 final:Int
 charge:Int
 discharge:Int
 eff:FracD
structure TieD where
 name:List UInt8
 bus:Int
 imp:Sl Int
 exp:Sl Int
 price:Sl Int
structure MoveD where
 unit:Int
 up:Int
 down:Int
structure OutD where
 name:List UInt8
 lines:Sl Int
 corr:Bool
 moves:Sl MoveD
structure CaseD where
 hours:Int
 reserve:Sl Int
 buses:Sl BusD
 lines:Sl LineD
 units:Sl UnitD
 stores:Sl StoreD
 ties:Sl TieD
 outs:Sl OutD
def BusD.av (b:BusD):LA:=[.str b.name,b.demand.av 1 JV,.int .i64 b.shed]
def LineD.av (b:LineD):LA:=[.str b.name,.int .i64 b.fr,.int .i64 b.tl,.int .i64 b.re.num,.int .i64 b.re.den,.int .i64 b.smin.num,.int .i64 b.smin.den,.int .i64 b.smax.num,.int .i64 b.smax.den,.int .i64 b.limit,.int .i64 b.emer,b.away.av 1 JV]
def SegD.av (s:SegD):LA:=[.int .i64 s.width,.int .i64 s.price]
def UnitD.av (u:UnitD):LA:=[.str u.name,.int .i64 u.bus,.int .i64 u.min,.int .i64 u.max,u.segs.av 2 SegD.av,.int .i64 u.noLoad,.int .i64 u.rampUp,.int .i64 u.rampDown,.int .i64 u.startRamp,.int .i64 u.stopRamp,.int .i64 u.upTime,.int .i64 u.downTime,.int .i64 u.startTime,.int .i64 u.hotCost,.int .i64 u.coldCost,.int .i64 u.hotHours,.int .i64 u.reserve,.int .i64 u.reservePrice,u.away.av 1 JV,.int .i64 u.state,.int .i64 u.hours,.int .i64 u.output]
def StoreD.av (s:StoreD):LA:=[.str s.name,.int .i64 s.bus,.int .i64 s.capacity,.int .i64 s.initial,.int .i64 s.final,.int .i64 s.charge,.int .i64 s.discharge,.int .i64 s.eff.num,.int .i64 s.eff.den]
def TieD.av (t:TieD):LA:=[.str t.name,.int .i64 t.bus,t.imp.av 1 JV,t.exp.av 1 JV,t.price.av 1 JV]
def MoveD.av (m:MoveD):LA:=[.int .i64 m.unit,.int .i64 m.up,.int .i64 m.down]
def OutD.av (o:OutD):LA:=[.str o.name,o.lines.av 1 JV,.bool o.corr,o.moves.av 3 MoveD.av]
def CaseD.av (c:CaseD):LA:=[.int .i64 c.hours,c.reserve.av 1 JV,c.buses.av 3 BusD.av,c.lines.av 12 LineD.av,c.units.av 22 UnitD.av,c.stores.av 9 StoreD.av,c.ties.av 5 TieD.av,c.outs.av 4 OutD.av]
section
variable {R:Type}
theorem D6 {α:Type} {sz:Nat} {e:α→LA} {s:Sl α} {r:LA} {f:LA→Nat→O R}:Bw sz (s.av sz e::r) f=f (s.l.flatMap e) s.l.length:=by
 cases s<;>simp[Bw,Sl.av,Sl.l,Az0]
theorem El {s:List UInt8} {r:LA} {f:List UInt8→O R}:BT (.str s::r) f=f s:=by simp[BT,qm]
theorem A05 {b:Bool} {r:LA} {f:Bool→O R}:XY (.bool b::r) f=f b:=by simp[XY,asBool]
theorem Bx (a b:Nat):Nat.ble a b=decide (a≤b):=by
  cases h:Nat.ble a b with
  | true=>simp at h;simp[h]
  | false => have : ¬ a ≤ b := fun c => by rw [Nat.ble_eq_true_of_le c] at h; cases h
             simp[this]
theorem GE (a b:Nat):Nat.beq a b=decide (a=b):=by
  cases h:Nat.beq a b with
  | true=>have:=Nat.eq_of_beq_eq_true h;simp[this]
  | false => have : a ≠ b := fun e => by subst e; rw [Nat.beq_refl] at h; cases h
             simp[this]
theorem ct (x y:O R):cond true x y=x:=rfl
theorem cf (x y:O R):cond false x y=y:=rfl
theorem Ay {α:Type} {e:α→LA} {sz:Nat} (b:∀ a,(e a).length=sz):∀ (l:List α) (j:Nat) (h:j<l.length),List.drop (j*sz) (l.flatMap e)=e l[j]++(l.drop (j+1)).flatMap e
 | a::r,0,_=>by simp
 | a::r,j+1,h=>by
  have:=Ay b r j (by simpa using h)
  rw[List.flatMap_cons,List.drop_append,b,show(j+1)*sz - sz=j*sz by rw[Nat.add_mul];omega,List.drop_eq_nil_of_le (by rw[b,Nat.add_mul];omega)]
  simpa using this
theorem kX {l:List Int} {i:Nat} (h:i<l.length) {f:Int→O R}:At .i64 (List.drop i (Aq l)) f=f l[i]:=by
 rw[Aq,List.drop_eq_getElem_cons (by simpa using h)];simp[A6]
abbrev C1:=Option ((Int×Int×Int)×{ e:Int // e≠0 })
def nd (p:C1) (ok:Bool) (w:Int×Int×Int) (e:{ e:Int // e≠0 }):C1:=match p with
 | some x=>some x
 | none=>cond ok none (some (w,e))
theorem F7 (p:C1) (w:Int×Int×Int) (e:{ e:Int // e≠0 }):nd p true w e=p:=by cases p<;>rfl
theorem PR (x:(Int×Int×Int)×{ e:Int // e≠0 }) (ok:Bool) (w:Int×Int×Int) (e:{ e:Int // e≠0 }):nd (some x) ok w e=some x:=rfl
theorem Qj (p:C1) (a b:Bool) (w:Int×Int×Int) (e:{ e:Int // e≠0 }):nd (nd p a w e) b w e=nd p (a&&b) w e:=by cases p<;>cases a<;>cases b<;>rfl
def LO (p:C1) (k i:Int):LA:=match p with
 | none=>[.int .i64 k,.int .i64 i,.int .i64 0,.int .i64 0]
 | some ((a,b,f),e)=>[.int .i64 a,.int .i64 b,.int .i64 f,.int .i64 e.1]
def Fb (lo hi n:Int):Bool:=decide (lo≤n)&&decide (n≤hi)
end
end Gx.Cf

namespace Gx
open Go Go.Proofs Go.RowKit
section
variable {W:World} {H:Type} {enc:TypeId×Value→H} {β:Cj} {h:Aj}
theorem rM {q:Int→Prop}:∀ m:List { n:Int // q n },m.flatMap (fun n=>[AV.int .i64 n.1])=Cf.Aq (m.map (·.1))
 | []=>rfl
 | a::r=>by rw[List.flatMap_cons,rM r];rfl
theorem Aff {a:Option Addr} {len cap:Nat} {d:DataW H} {p:List MemPlace} (b:DataW.Trod enc Tryz.prog W 0 (fun _=>true) true 33 (.slice a len cap) d p) :
  ∃ l:List Int,l.length≤maxLen∧Rep (fun _ k=>k<W.heap.size) β h W (.imm (Cf.Aq l) l.length 1 false false) (.slice a len cap):=by
 obtain⟨l,c,e⟩:=A2r (β:=β) (h:=h) Tryz.underlying33 (by kernel_rfl) (DG Tryz.underlying3 (by kernel_rfl)) b
 rw[rM] at e
 exact⟨l.map (·.1),by rw[List.length_map];exact c,by rw[List.length_map];exact e⟩
end
end Gx

namespace Gx
open Go Go.Proofs
open IntKind (wrap)
set_option maxRecDepth 100000
noncomputable section
variable {R:Type} (N:Nat)
def PS (N:Nat) (r0:Nat→O R) (b:Nat) (c:LA) (k0:Int→O R) (d:Int):O R :=
 (cond ((decide (d>0))==true) (cond (Ah (wrap .i64 (d - 1)) b) (At .u32 (c.drop (0+(((wrap .i64 (d - 1)).toNat)*1))) fun e=>(cond (cond true (e==0) false) (k0 (wrap .i64 (d - 1))) (cond ((decide ((0:Int)≤(0:Int)))&&((decide (0≤d))&&((decide (d≤((b:Nat):Int)))&&(decide (((b:Nat):Int)≤((b:Nat):Int)))))) (r0 (d.toNat)) none))) none) (cond ((decide ((0:Int)≤(0:Int)))&&((decide (0≤d))&&((decide (d≤((b:Nat):Int)))&&(decide (((b:Nat):Int)≤((b:Nat):Int)))))) (r0 (d.toNat)) none))
def V8 (r0:Nat→O R) (b:Nat) (c:LA):Nat→Int→O R
 | 0,_=>none
 | n+1,d=>(PS N r0 b c (V8 r0 b c n) d)
def kY (N:Nat) (r0:Nat→O R) (q0:Int→O R) (b:Nat) (c:LA):O R :=
 (q0 ((b:Nat):Int))
def JW:=(Ai (fun (N b:Nat) (c:LA) (r0:Nat→O R)=>(kY N r0 (fun d=>(V8 N r0 b c N d)) b c))).1
theorem j2 (b c r0):(@JW R N b c r0)=(kY N r0 (fun d=>(V8 N r0 b c N d)) b c):=by rw[JW,(Ai _).2]
def Axu (F:KF R):=Ki Tryz.f214 Afc [] [100000] N F
def DH (c:LA) (F:KF R):Nat→O R:=(fun f=>F (.own 100000 0 f) [(100000,(bQ 1 c))])
def Axv (b:Nat) (c:LA) (d:Int):St:=⟨[(0,(.own 100000 0 b)),(3,(iv d))],[(100000,(bQ 1 c))]⟩
def Axw (F:KF R):=Axu N F [1,1,0,0] []
theorem kZ (F:KF R) (b:Nat) (c:LA):∀ (n:Nat) (d:Int),Ak (Axw N F) n (Axv b c d)=(V8 N (DH c F) b c n d)
 | 0,_=>by kernel_rfl
 | n+1,d=>Eq.trans (by kernel_rfl) (Bv (PS N (DH c F) b c · d) (funext fun d=>(kZ F b c n d)):_)
theorem dX (b:Nat) (c:LA) (F:KF R):C7 [] Afc N 214 [(.own 100000 0 b)] [(100000,(bQ 1 c))] F=(JW N b c (DH c F)):=by
 rw[j2]
 exact Eq.trans (by kernel_rfl) (Bv (kY N (DH c F) · b c) (funext fun d=>(Ac ..).trans (kZ N F b c N d)):_)
def xA (a:LA) (h:Aj) (k:KF R):O R :=
 match a,h with
 | [(.own 100000 0 b)],[(100000,⟨false,false,true,false,1,c,false,none⟩)]=>(JW N b c (DH c k))
 | _,_=>none
theorem Afg:An N 214 @xA:=by
 intro R Q a h k j;unfold xA;split;exact A3 (dX ..) (dX ..) trivial;exact A5
def Axx:=A4 (Afg N)
def Axy:=C8 (Afg N)
def ED (b:Int) (r0:Nat→LA→O R):O R :=
 (JW N 2 [(.int .u32 (wrap .u32 b)),(.int .u32 (wrap .u32 (Int.fdiv b (2 ^ 32))))] (fun c=>(r0 c [(.int .u32 (wrap .u32 b)),(.int .u32 (wrap .u32 (Int.fdiv b (2 ^ 32))))])))
def Nk:=(Ai (@ED R)).1
theorem GP:@Nk R=@ED R:=(Ai _).2
def uo:Gm:=[(214,Axx N)]
def LP (F:KF R):Nat→LA→O R:=(fun d e=>F (.own 300000 0 d) (hq [(bQ 1 e)]))
theorem LQ (b:Int) (F:KF R):C7 (uo N) Awo N 133 [(.int .u64 b)] [] F=(Nk N b (LP F)):=by
 rw[GP]
 kernel_rfl
def GQ (a:LA) (h:Aj) (k:KF R):O R :=
 match a,h with
 | [(.int .u64 b)],[]=>(Nk N b (LP k))
 | _,_=>none
theorem LR:An N 133 @GQ:=by
 intro R Q a h k j;unfold GQ;split;exact A3 (LQ ..) (LQ ..) ⟨Axy N,trivial⟩;exact A5
def p7:=A4 (LR N)
def p8:=C8 (LR N)
def j3 (N:Nat) (d:Bool) (b:Nat) (c:LA) (r0:Bool→O R):O R :=
 (cond (d==true) (r0 (cond true (decide (((b:Nat):Int)>0)) false)) (r0 false))
def Kv:=(Ai (@j3 R)).1
theorem f8:@Kv R=@j3 R:=(Ai _).2
def k8 (b:Nat) (c:LA) (F:KF R):Bool→O R:=(fun e=>F (.agg [(.bool e),(.own 100000 0 b)]) [(100000,(bQ 1 c))])
theorem k_ (d:Bool) (b:Nat) (c:LA) (F:KF R):C7 [] Dx N 132 [(.bool d),(.own 100000 0 b)] [(100000,(bQ 1 c))] F=(Kv N d b c (k8 b c F)):=by
 rw[f8]
 kernel_rfl
def f_ (a:LA) (h:Aj) (k:KF R):O R :=
 match a,h with
 | [(.bool d),(.own 100000 0 b)],[(100000,⟨false,false,true,false,1,c,false,none⟩)]=>(Kv N d b c (k8 b c k))
 | _,_=>none
theorem kc:An N 132 @f_:=by
 intro R Q a h k j;unfold f_;split;exact A3 (k_ ..) (k_ ..) trivial;exact A5
def BU:=A4 (kc N)
def BV:=C8 (kc N)
def YA (b:Int) (r0:Bool→Nat→LA→O R):O R :=
 (cond (decide (b<0)) (Nk N (wrap .u64 ((0:Int) - (wrap .u64 b))) (fun c d=>(Kv N true c d (fun g=>(r0 g c d))))) (Nk N (wrap .u64 b) (fun e f=>(Kv N false e f (fun i=>(r0 i e f))))))
def L1:=(Ai (@YA R)).1
theorem YB:@L1 R=@YA R:=(Ai _).2
def Aio:Gm:=[(133,p7 N),(132,BU N)]
def fa (F:KF R):Bool→Nat→LA→O R:=(fun l m n=>F (.agg [(.bool l),(.own 300000 0 m)]) (hq [(bQ 1 n)]))
theorem fb (b:Int) (F:KF R):C7 (Aio N) Dx N 64 [(iv b)] [] F=(L1 N b (fa F)):=by
 rw[YB]
 kernel_rfl
def YC (a:LA) (h:Aj) (k:KF R):O R :=
 match a,h with
 | [(.int .i64 b)],[]=>(L1 N b (fa k))
 | _,_=>none
theorem fc:An N 64 @YC:=by
 intro R Q a h k j;unfold YC;split;exact A3 (fb ..) (fb ..) ⟨p8 N,BV N,trivial⟩;exact A5
def fe:=A4 (fc N)
def ff:=C8 (fc N)
def Xk (N:Nat) (r0:LA→Nat→O R) (e:LA) (b:Nat) (f c:Bool) (k0:Int→O R) (d:Int):O R :=
 (cond ((decide (d>0))==true) (cond (Ah (wrap .i64 (d - 1)) b) (At .u32 (e.drop (((wrap .i64 (d - 1)).toNat)*1)) fun g=>(cond (cond true (g==0) false) (k0 (wrap .i64 (d - 1))) (cond ((decide ((0:Int)≤(0:Int)))&&((decide (0≤d))&&((decide (d≤((b:Nat):Int)))&&(decide (((b:Nat):Int)≤((b:Nat):Int)))))) (r0 (e.take ((d.toNat)*1)) (d.toNat)) none))) none) (cond ((decide ((0:Int)≤(0:Int)))&&((decide (0≤d))&&((decide (d≤((b:Nat):Int)))&&(decide (((b:Nat):Int)≤((b:Nat):Int)))))) (r0 (e.take ((d.toNat)*1)) (d.toNat)) none))
def L2 (r0:LA→Nat→O R) (e:LA) (b:Nat) (f c:Bool):Nat→Int→O R
 | 0,_=>none
 | n+1,d=>(Xk N r0 e b f c (L2 r0 e b f c n) d)
def PT (N:Nat) (r0:LA→Nat→O R) (q0:Int→O R) (e:LA) (b:Nat) (f c:Bool):O R :=
 (q0 ((b:Nat):Int))
def Fc:=(Ai (fun (N:Nat) (e:LA) (b:Nat) (f c:Bool) (r0:LA→Nat→O R)=>(PT N r0 (fun d=>(L2 N r0 e b f c N d)) e b f c))).1
theorem fg (e b f c r0):(@Fc R N e b f c r0)=(PT N r0 (fun d=>(L2 N r0 e b f c N d)) e b f c):=by rw[Fc,(Ai _).2]
def Aip (F:KF R):=Ki Tryz.f214 Afc [] [] N F
def P7 (c:Bool) (F:KF R):LA→Nat→O R:=(fun i l=>F (.imm i l 1 false c) [])
def Aiq (e:LA) (b:Nat) (f c:Bool) (d:Int):St:=⟨[(0,(.imm e b 1 f c)),(3,(iv d))],[]⟩
def Air (F:KF R):=Aip N F [1,1,0,0] []
theorem SR (F:KF R) (e:LA) (b:Nat) (f c:Bool):∀ (n:Nat) (d:Int),Ak (Air N F) n (Aiq e b f c d)=(L2 N (P7 c F) e b f c n d)
 | 0,_=>by kernel_rfl
 | n+1,d=>Eq.trans (by kernel_rfl) (Bv (Xk N (P7 c F) e b f c · d) (funext fun d=>(SR F e b f c n d)):_)
theorem BW (e:LA) (b:Nat) (f c:Bool) (F:KF R):C7 [] Afc N 214 [(.imm e b 1 f c)] [] F=(Fc N e b f c (P7 c F)):=by
 rw[fg]
 exact Eq.trans (by kernel_rfl) (Bv (PT N (P7 c F) · e b f c) (funext fun d=>(Ac ..).trans (SR N F e b f c N d)):_)
def fh (a:LA) (h:Aj) (k:KF R):O R :=
 match a,h with
 | [(.imm e b 1 f c)],[]=>(Fc N e b f c (P7 c k))
 | _,_=>none
theorem ke:An N 214 @fh:=by
 intro R Q a h k j;unfold fh;split;exact A3 (BW ..) (BW ..) trivial;exact A5
def PU:=A4 (ke N)
def PV:=C8 (ke N)
def PW (N:Nat) (k1:Nat→Int→Int→LA→O R) (r0:Nat→LA→O R) (f:LA) (b:Nat) (e:Bool) (l:Nat) (g r:Int) (i:LA) (d:Nat) (c:Bool) (m:Int) (k2:Int→Int→Int→LA→O R) (s t o:Int) (q:LA):O R :=
 (cond (decide (o<t)) (cond (Ah o b) (At .u32 (f.drop ((o.toNat)*1)) fun aa=>(cond (Ah (wrap .i64 (g+o)) l) (At .u32 (q.drop (0+(((wrap .i64 (g+o)).toNat)*1))) fun ab=>(cond (Ah (wrap .i64 (g+o)) l) (cond ((Nat.beq 1 1)&&((Nat.ble ((0+(((wrap .i64 (g+o)).toNat)*1))+1) (q.length))&&(!false))) (k2 (Int.fdiv (wrap .u64 (s+(wrap .u64 ((wrap .u64 ((wrap .u64 r)*(wrap .u64 aa)))+(wrap .u64 ab))))) (2 ^ 32)) t (wrap .i64 (o+1)) (q.set (0+(((wrap .i64 (g+o)).toNat)*1)) (.int .u32 (wrap .u32 (wrap .u64 (s+(wrap .u64 ((wrap .u64 ((wrap .u64 r)*(wrap .u64 aa)))+(wrap .u64 ab))))))))) none) none)) none)) none) (cond (Ah (wrap .i64 (g+((b:Nat):Int))) l) (cond ((Nat.beq 1 1)&&((Nat.ble ((0+(((wrap .i64 (g+((b:Nat):Int))).toNat)*1))+1) (q.length))&&(!false))) (k1 l m (wrap .i64 (g+1)) (q.set (0+(((wrap .i64 (g+((b:Nat):Int))).toNat)*1)) (.int .u32 (wrap .u32 s)))) none) none))
def V9 (k1:Nat→Int→Int→LA→O R) (r0:Nat→LA→O R) (f:LA) (b:Nat) (e:Bool) (l:Nat) (g r:Int) (i:LA) (d:Nat) (c:Bool) (m:Int):Nat→Int→Int→Int→LA→O R
 | 0,_,_,_,_=>none
 | n+1,s,t,o,q=>(PW N k1 r0 f b e l g r i d c m (V9 k1 r0 f b e l g r i d c m n) s t o q)
def EE (r0:Nat→LA→O R) (f:LA) (b:Nat) (e:Bool) (i:LA) (d:Nat) (c:Bool) (k1:Nat→Int→Int→LA→O R) (q2:Int→Int→Int→Int→LA→O R) (l:Nat) (m g:Int) (p:LA):O R :=
 (cond (decide (g<m)) (cond (Ah g d) (At .u32 (i.drop ((g.toNat)*1)) fun r=>(cond (r==0) (k1 l m (wrap .i64 (g+1)) p) (q2 r 0 ((b:Nat):Int) 0 p))) none) (JW N l p (fun ad=>(r0 ad p))))
def P8 (r0:Nat→LA→O R) (f:LA) (b:Nat) (e:Bool) (i:LA) (d:Nat) (c:Bool):Nat→Nat→Int→Int→LA→O R
 | 0,_,_,_,_=>none
 | n+1,l,m,g,p=>(EE N r0 f b e i d c (P8 r0 f b e i d c n) (fun r s t o q=>(V9 N (P8 r0 f b e i d c n) r0 f b e l g r i d c m N s t o q)) l m g p)
def j4 (N:Nat) (r0:Nat→LA→O R) (i:LA) (d:Nat) (c:Bool) (f:LA) (b:Nat) (e:Bool) (q1:Nat→Int→Int→LA→O R):O R :=
 (cond ((decide (0≤(wrap .i64 (((d:Nat):Int)+((b:Nat):Int)))))&&((decide ((wrap .i64 (((d:Nat):Int)+((b:Nat):Int)))≤(wrap .i64 (((d:Nat):Int)+((b:Nat):Int)))))&&((decide ((wrap .i64 (((d:Nat):Int)+((b:Nat):Int)))≤140737488355328))&&(decide (((wrap .i64 (((d:Nat):Int)+((b:Nat):Int)))*((4:Nat):Int))≤140737488355328))))) (q1 ((wrap .i64 (((d:Nat):Int)+((b:Nat):Int))).toNat) ((d:Nat):Int) 0 (List.replicate ((wrap .i64 (((d:Nat):Int)+((b:Nat):Int))).toNat) (.int .u32 0))) none)
def dY (r0:Nat→LA→O R) (i:LA) (d:Nat) (c:Bool) (f:LA) (b:Nat) (e:Bool):O R:=(j4 N r0 i d c f b e (fun l m g p=>(P8 N r0 f b e i d c N l m g p)))
def dZ (r0:Nat→LA→O R) (q0:LA→Nat→LA→Nat→O R) (v:LA) (u:Nat) (w c:Bool) (x:LA) (y:Nat) (z e:Bool):O R :=
 (Fc N v u w c (fun i d=>(Fc N x y z e (fun f b=>(cond ((((d:Nat):Int)==0)==false) (cond (cond false true (((b:Nat):Int)==0)) (r0 0 []) (q0 i d f b)) (r0 0 []))))))
def p9:=(Ai (fun (N:Nat) (v:LA) (u:Nat) (w c:Bool) (x:LA) (y:Nat) (z e:Bool) (r0:Nat→LA→O R)=>(dZ N r0 (fun i d f b=>(dY N r0 i d c f b e)) v u w c x y z e))).1
theorem PX (v u w c x y z e r0):(@p9 R N v u w c x y z e r0)=(dZ N r0 (fun i d f b=>(dY N r0 i d c f b e)) v u w c x y z e):=by rw[p9,(Ai _).2]
def Afh:Hints:={ H:=(hS hL (hS hL (hJ [0,1] hL (hS hL (hS (hS hL (hS (hP [1,5,29,30,31] (hS hL (hS hL (hS (hS (hS hL (hS hL (hS hL (hS (hS hL (hS (hP [1,5,6,7,8,29,30,31,38,39,40] hL) hL)) hL)))) hL) hL)))) hL)) hL))))),nils:=[(4,1)],modes:=[(2,1)] }
def Qy (a:LA) (h:Aj) (k:KF R):O R :=
 match a,h with
 | [(.imm v u 1 w c)],[]=>(Fc N v u w c (P7 c k))
 | [(.own 100000 0 u)],[(100000,⟨false,false,true,false,1,ac,false,none⟩)]=>(JW N u ac (DH ac k))
 | _,_=>none
theorem S4:An N 214 @Qy:=by
 intro R Q a h k j;unfold Qy;split;exact A3 (BW ..) (BW ..) trivial;exact A3 (dX ..) (dX ..) trivial;exact A5
def Kw:=A4 (S4 N)
def Kx:=C8 (S4 N)
def Anr:Gm:=[(214,Kw N)]
def p_ (F:KF R):=Ki Tryz.f137 Afh (Anr N) [] N F
def Nl (F:KF R):Nat→LA→O R:=(fun ae af=>F (.own 300000 0 ae) (hq [(bQ 1 af)]))
def Axz (f:LA) (b:Nat) (e:Bool) (l:Nat) (g r:Int) (i:LA) (d:Nat) (c:Bool) (m s t o:Int) (q:LA):St:=⟨[(1,(.imm f b 1 false e)),(5,(.own 300000 0 l)),(6,(iv g)),(7,(.int .u32 r)),(8,(.int .u64 s)),(29,(.imm i d 1 false c)),(30,(iv m)),(31,(iv g)),(38,(.imm f b 1 false e)),(39,(iv t)),(40,(iv o))],(hq [(bQ 1 q)])⟩
def Ax0 (F:KF R) (Q1:St→O R):=p_ N F [1,1,1,1,0,1,0,0,1,1,0,0,1,1,1,0,1,0] [Q1]
def pa (f:LA) (b:Nat) (e:Bool) (i:LA) (d:Nat) (c:Bool) (l:Nat) (m g:Int) (p:LA):St:=⟨[(1,(.imm f b 1 false e)),(5,(.own 300000 0 l)),(29,(.imm i d 1 false c)),(30,(iv m)),(31,(iv g))],(hq [(bQ 1 p)])⟩
def Afi (F:KF R):=p_ N F [1,1,1,1,0,1,0] []
def Ax1 (i:LA) (d:Nat) (c:Bool) (f:LA) (b:Nat) (e:Bool):St:=⟨[(0,(.imm i d 1 false c)),(1,(.imm f b 1 false e))],[]⟩
def Ax2 (F:KF R):=p_ N F [1,1,1] []
theorem kf (Q1:St→O R) (F:KF R) (f:LA) (b:Nat) (e:Bool) (l:Nat) (g r:Int) (i:LA) (d:Nat) (c:Bool) (m:Int):∀ (n:Nat) (s t o:Int) (q:LA),Ak (Ax0 N F Q1) n (Axz f b e l g r i d c m s t o q)=(V9 N (fun l m g p=>Q1 (pa f b e i d c l m g p)) (Nl F) f b e l g r i d c m n s t o q)
 | 0,_,_,_,_=>by kernel_rfl
 | n+1,s,t,o,q=>Eq.trans (by kernel_rfl) (Bv (PW N (fun l m g p=>Q1 (pa f b e i d c l m g p)) (Nl F) f b e l g r i d c m · s t o q) (funext fun s=>funext fun t=>funext fun o=>funext fun q=>(kf Q1 F f b e l g r i d c m n s t o q)):_)
theorem kg (F:KF R) (f:LA) (b:Nat) (e:Bool) (i:LA) (d:Nat) (c:Bool):∀ (n l:Nat) (m g:Int) (p:LA),Ak (Afi N F) n (pa f b e i d c l m g p)=(P8 N (Nl F) f b e i d c n l m g p)
 | 0,_,_,_,_=>by kernel_rfl
 | n+1,l,m,g,p=>have e0:=(funext fun l=>funext fun m=>funext fun g=>funext fun p=>(kg F f b e i d c n l m g p))
  Eq.trans (by kernel_rfl) (PQ (EE N (Nl F) f b e i d c · · l m g p) e0 (funext fun r=>funext fun s=>funext fun t=>funext fun o=>funext fun q=>(Ac ..).trans ((kf N (Ak (Afi N F) n) F f b e l g r i d c m N s t o q).trans (Bv (V9 N · (Nl F) f b e l g r i d c m N s t o q) e0))):_)
theorem Ais (F:KF R) (i:LA) (d:Nat) (c:Bool) (f:LA) (b:Nat) (e:Bool):B8 (Ax2 N F) (Ax1 i d c f b e)=(dY N (Nl F) i d c f b e):=by
 exact Eq.trans (by kernel_rfl) (Bv (j4 N (Nl F) i d c f b e ·) (funext fun l=>funext fun m=>funext fun g=>funext fun p=>(Ac ..).trans (kg N F f b e i d c N l m g p)):_)
theorem Afj (v:LA) (u:Nat) (w c:Bool) (x:LA) (y:Nat) (z e:Bool) (F:KF R):C7 (Anr N) Afh N 137 [(.imm v u 1 w c),(.imm x y 1 z e)] [] F=(p9 N v u w c x y z e (Nl F)):=by
 rw[PX]
 exact Eq.trans (by kernel_rfl) (Bv (dZ N (Nl F) · v u w c x y z e) (funext fun i=>funext fun d=>funext fun f=>funext fun b=>(A2 ..).trans (Ais N F i d c f b e)):_)
def xB (a:LA) (h:Aj) (k:KF R):O R :=
 match a,h with
 | [(.imm v u 1 w c),(.imm x y 1 z e)],[]=>(p9 N v u w c x y z e (Nl k))
 | _,_=>none
theorem Afk:An N 137 @xB:=by
 intro R Q a h k j;unfold xB;split;exact A3 (Afj ..) (Afj ..) ⟨Kx N,trivial⟩;exact A5
def Ax3:=A4 (Afk N)
def Ax4:=C8 (Afk N)
def Ait (b:LA) (d:Bool) (c:LA) (e:Bool) (r0:Bool→Nat→LA→O R):O R :=
 (XY b fun i=>(XY c fun l=>(Bw 1 (b.drop 1) fun m n=>(Bw 1 (c.drop 1) fun o p=>(p9 N m n false d o p false e (fun f g=>(Kv N (!(i==l)) f g (fun q=>(r0 q f g)))))))))
def PY:=(Ai (@Ait R)).1
theorem xC:@PY R=@Ait R:=(Ai _).2
def A06:Gm:=[(137,Ax3 N),(132,BU N)]
def Afl (F:KF R):Bool→Nat→LA→O R:=(fun r s t=>F (.agg [(.bool r),(.own 300000 0 s)]) (hq [(bQ 1 t)]))
theorem Afm (b:LA) (d:Bool) (c:LA) (e:Bool) (F:KF R):C7 (A06 N) Dx N 68 [(.pagg b d),(.pagg c e)] [] F=(PY N b d c e (Afl F)):=by
 rw[xC]
 kernel_rfl
def xD (a:LA) (h:Aj) (k:KF R):O R :=
 match a,h with
 | [(.pagg b d),(.pagg c e)],[]=>(PY N b d c e (Afl k))
 | _,_=>none
theorem Afn:An N 68 @xD:=by
 intro R Q a h k j;unfold xD;split;exact A3 (Afm ..) (Afm ..) ⟨Ax4 N,BV N,trivial⟩;exact A5
def Afo:=A4 (Afn N)
def Afp:=C8 (Afn N)
def xE (d:LA) (e:Nat) (f c:Bool) (r0:Nat→LA→O R):O R :=
 (Fc N d e f c (fun g b=>(cond ((decide (0≤((b:Nat):Int)))&&((decide (((b:Nat):Int)≤((b:Nat):Int)))&&((decide (((b:Nat):Int)≤140737488355328))&&(decide ((((b:Nat):Int)*((4:Nat):Int))≤140737488355328))))) (cond ((!c)||(A0 g)) (r0 b (Cy (List.replicate b (.int .u32 0)) 0 (g.take ((min b b)*1)))) none) none)))
def ki:=(Ai (@xE R)).1
theorem rN:@ki R=@xE R:=(Ai _).2
def Ax5:Gm:=[(214,PU N)]
def xF (F:KF R):Nat→LA→O R:=(fun i l=>F (.own 300000 0 i) (hq [(bQ 1 l)]))
theorem xG (d:LA) (e:Nat) (f c:Bool) (F:KF R):C7 (Ax5 N) Awo N 212 [(.imm d e 1 f c)] [] F=(ki N d e f c (xF F)):=by
 rw[rN]
 kernel_rfl
def rO (a:LA) (h:Aj) (k:KF R):O R :=
 match a,h with
 | [(.imm d e 1 f c)],[]=>(ki N d e f c (xF k))
 | _,_=>none
theorem xH:An N 212 @rO:=by
 intro R Q a h k j;unfold rO;split;exact A3 (xG ..) (xG ..) ⟨PV N,trivial⟩;exact A5
def As7:=A4 (xH N)
def As8:=C8 (xH N)
def Aiu (b:LA) (c:Bool) (r0:Bool→Nat→LA→O R):O R :=
 (XY b fun f=>(Bw 1 (b.drop 1) fun g i=>(ki N g i false c (fun d e=>(Kv N (!f) d e (fun l=>(r0 l d e)))))))
def xI:=(Ai (@Aiu R)).1
theorem xJ:@xI R=@Aiu R:=(Ai _).2
def A07:Gm:=[(212,As7 N),(132,BU N)]
def Afq (F:KF R):Bool→Nat→LA→O R:=(fun m n o=>F (.agg [(.bool m),(.own 300000 0 n)]) (hq [(bQ 1 o)]))
theorem Afr (b:LA) (c:Bool) (F:KF R):C7 (A07 N) Dx N 148 [(.pagg b c)] [] F=(xI N b c (Afq F)):=by
 rw[xJ]
 kernel_rfl
def xK (a:LA) (h:Aj) (k:KF R):O R :=
 match a,h with
 | [(.pagg b c)],[]=>(xI N b c (Afq k))
 | _,_=>none
theorem Afs:An N 148 @xK:=by
 intro R Q a h k j;unfold xK;split;exact A3 (Afr ..) (Afr ..) ⟨As8 N,BV N,trivial⟩;exact A5
def Ax6:=A4 (Afs N)
def Ax7:=C8 (Afs N)
def EF (r0:Nat→LA→O R) (c:LA) (b:Nat) (e:Bool) (f:LA) (d:Nat) (i:Bool) (k1:Nat→Int→Int→Int→LA→O R) (m:Nat) (o p g:Int) (l:LA):O R :=
 (cond (decide (g<p)) (cond (Ah g b) (At .u32 (c.drop ((g.toNat)*1)) fun y=>(cond (decide (g<((d:Nat):Int))) (cond (Ah g d) (At .u32 (f.drop ((g.toNat)*1)) fun ab=>(cond (Ah g m) (cond ((Nat.beq 1 1)&&((Nat.ble ((0+((g.toNat)*1))+1) (l.length))&&(!false))) (k1 m (Int.fdiv (wrap .u64 ((wrap .u64 (o+(wrap .u64 y)))+(wrap .u64 ab))) (2 ^ 32)) p (wrap .i64 (g+1)) (l.set (0+((g.toNat)*1)) (.int .u32 (wrap .u32 (wrap .u64 ((wrap .u64 (o+(wrap .u64 y)))+(wrap .u64 ab))))))) none) none)) none) (cond (Ah g m) (cond ((Nat.beq 1 1)&&((Nat.ble ((0+((g.toNat)*1))+1) (l.length))&&(!false))) (k1 m (Int.fdiv (wrap .u64 (o+(wrap .u64 y))) (2 ^ 32)) p (wrap .i64 (g+1)) (l.set (0+((g.toNat)*1)) (.int .u32 (wrap .u32 (wrap .u64 (o+(wrap .u64 y))))))) none) none))) none) (cond (Ah ((b:Nat):Int) m) (cond ((Nat.beq 1 1)&&((Nat.ble ((0+(b*1))+1) (l.length))&&(!false))) (JW N m (l.set (0+(b*1)) (.int .u32 (wrap .u32 o))) (fun ae=>(r0 ae (l.set (0+(b*1)) (.int .u32 (wrap .u32 o)))))) none) none))
def Wa (r0:Nat→LA→O R) (c:LA) (b:Nat) (e:Bool) (f:LA) (d:Nat) (i:Bool):Nat→Nat→Int→Int→Int→LA→O R
 | 0,_,_,_,_,_=>none
 | n+1,m,o,p,g,l=>(EF N r0 c b e f d i (Wa r0 c b e f d i n) m o p g l)
def j5 (N:Nat) (r0:Nat→LA→O R) (q1:Nat→Int→Int→Int→LA→O R) (c:LA) (b:Nat) (e:Bool) (f:LA) (d:Nat) (i:Bool):O R :=
 (cond ((decide (0≤(wrap .i64 (((b:Nat):Int)+1))))&&((decide ((wrap .i64 (((b:Nat):Int)+1))≤(wrap .i64 (((b:Nat):Int)+1))))&&((decide ((wrap .i64 (((b:Nat):Int)+1))≤140737488355328))&&(decide (((wrap .i64 (((b:Nat):Int)+1))*((4:Nat):Int))≤140737488355328))))) (q1 ((wrap .i64 (((b:Nat):Int)+1)).toNat) 0 ((b:Nat):Int) 0 (List.replicate ((wrap .i64 (((b:Nat):Int)+1)).toNat) (.int .u32 0))) none)
def LT (r0:Nat→LA→O R) (c:LA) (b:Nat) (e:Bool) (f:LA) (d:Nat) (i:Bool):O R:=(j5 N r0 (fun m o p g l=>(Wa N r0 c b e f d i N m o p g l)) c b e f d i)
def kj (r0:Nat→LA→O R) (q0:LA→Nat→Bool→LA→Nat→Bool→O R) (s:LA) (t:Nat) (u q:Bool) (v:LA) (w:Nat) (x r:Bool):O R :=
 (Fc N s t u q (fun ac z=>(Fc N v w x r (fun ad aa=>(cond (decide (((z:Nat):Int)<((aa:Nat):Int))) (q0 ad aa r ac z q) (q0 ac z q ad aa r))))))
def pb:=(Ai (fun (N:Nat) (s:LA) (t:Nat) (u q:Bool) (v:LA) (w:Nat) (x r:Bool) (r0:Nat→LA→O R)=>(kj N r0 (fun c b e f d i=>(LT N r0 c b e f d i)) s t u q v w x r))).1
theorem j6 (s t u q v w x r r0):(@pb R N s t u q v w x r r0)=(kj N r0 (fun c b e f d i=>(LT N r0 c b e f d i)) s t u q v w x r):=by rw[pb,(Ai _).2]
def Aft:Hints:={ H:=(hS hL (hS hL (hJ [0,1] hL (hS hL (hS hL (hS (hS hL (hS (hP [0,1,5,6,24,25,26] hL) hL)) hL)))))),nils:=[(4,1)],modes:=[(2,1)] }
def Ans:Gm:=[(214,Kw N)]
def Afu (F:KF R):=Ki Tryz.f135 Aft (Ans N) [] N F
def Wb (F:KF R):Nat→LA→O R:=(fun af ag=>F (.own 300000 0 af) (hq [(bQ 1 ag)]))
def Ax8 (c:LA) (b:Nat) (e:Bool) (f:LA) (d:Nat) (i:Bool) (m:Nat) (o p g:Int) (l:LA):St:=⟨[(0,(.imm c b 1 false e)),(1,(.imm f d 1 false i)),(5,(.own 300000 0 m)),(6,(.int .u64 o)),(24,(.imm c b 1 false e)),(25,(iv p)),(26,(iv g))],(hq [(bQ 1 l)])⟩
def Ax9 (F:KF R):=Afu N F [1,1,1,1,1,0,1,0] []
def Aya (c:LA) (b:Nat) (e:Bool) (f:LA) (d:Nat) (i:Bool):St:=⟨[(0,(.imm c b 1 false e)),(1,(.imm f d 1 false i))],[]⟩
def Ayb (F:KF R):=Afu N F [1,1,1] []
theorem ko (F:KF R) (c:LA) (b:Nat) (e:Bool) (f:LA) (d:Nat) (i:Bool):∀ (n m:Nat) (o p g:Int) (l:LA),Ak (Ax9 N F) n (Ax8 c b e f d i m o p g l)=(Wa N (Wb F) c b e f d i n m o p g l)
 | 0,_,_,_,_,_=>by kernel_rfl
 | n+1,m,o,p,g,l=>Eq.trans (by kernel_rfl) (Bv (EF N (Wb F) c b e f d i · m o p g l) (funext fun m=>funext fun o=>funext fun p=>funext fun g=>funext fun l=>(ko F c b e f d i n m o p g l)):_)
theorem Aiv (F:KF R):∀ (c:LA) (b:Nat) (e:Bool) (f:LA) (d:Nat) (i:Bool),B8 (Ayb N F) (Aya c b e f d i)=(LT N (Wb F) c b e f d i):=by
 intro c b e f d i
 exact Eq.trans (by kernel_rfl) (Bv (j5 N (Wb F) · c b e f d i) (funext fun m=>funext fun o=>funext fun p=>funext fun g=>funext fun l=>(Ac ..).trans (ko N F c b e f d i N m o p g l)):_)
theorem Afv (s:LA) (t:Nat) (u q:Bool) (v:LA) (w:Nat) (x r:Bool) (F:KF R):C7 (Ans N) Aft N 135 [(.imm s t 1 u q),(.imm v w 1 x r)] [] F=(pb N s t u q v w x r (Wb F)):=by
 rw[j6]
 exact Eq.trans (by kernel_rfl) (Bv (kj N (Wb F) · s t u q v w x r) (funext fun c=>funext fun b=>funext fun e=>funext fun f=>funext fun d=>funext fun i=>(A2 ..).trans (Aiv N F c b e f d i)):_)
def xL (a:LA) (h:Aj) (k:KF R):O R :=
 match a,h with
 | [(.imm s t 1 u q),(.imm v w 1 x r)],[]=>(pb N s t u q v w x r (Wb k))
 | _,_=>none
theorem Afw:An N 135 @xL:=by
 intro R Q a h k j;unfold xL;split;exact A3 (Afv ..) (Afv ..) ⟨Kx N,trivial⟩;exact A5
def Ayc:=A4 (Afw N)
def Ayd:=C8 (Afw N)
def N1 (N:Nat) (r0:Int→O R) (g:LA) (e:Nat) (c:Bool) (i:LA) (f:Nat) (d:Bool) (k0:Int→O R) (b:Int):O R :=
 (cond (decide (b≥0)) (cond (Ah b e) (At .u32 (g.drop ((b.toNat)*1)) fun s=>(cond (Ah b f) (At .u32 (i.drop ((b.toNat)*1)) fun t=>(cond (decide (s<t)) (r0 (-1)) (cond (Ah b e) (At .u32 (g.drop ((b.toNat)*1)) fun u=>(cond (Ah b f) (At .u32 (i.drop ((b.toNat)*1)) fun v=>(cond (decide (u>v)) (r0 1) (k0 (wrap .i64 (b - 1))))) none)) none))) none)) none) (r0 0))
def Fv (r0:Int→O R) (g:LA) (e:Nat) (c:Bool) (i:LA) (f:Nat) (d:Bool):Nat→Int→O R
 | 0,_=>none
 | n+1,b=>(N1 N r0 g e c i f d (Fv r0 g e c i f d n) b)
def T1 (r0:Int→O R) (q0:LA→Nat→LA→Nat→Int→O R) (l:LA) (m:Nat) (o c:Bool) (p:LA) (q:Nat) (r d:Bool):O R :=
 (Fc N l m o c (fun g e=>(Fc N p q r d (fun i f=>(cond (((e:Nat):Int) != ((f:Nat):Int)) (cond (decide (((e:Nat):Int)<((f:Nat):Int))) (r0 (-1)) (r0 1)) (q0 g e i f (wrap .i64 (((e:Nat):Int) - 1))))))))
def Nm:=(Ai (fun (N:Nat) (l:LA) (m:Nat) (o c:Bool) (p:LA) (q:Nat) (r d:Bool) (r0:Int→O R)=>(T1 N r0 (fun g e i f b=>(Fv N r0 g e c i f d N b)) l m o c p q r d))).1
theorem GR (l m o c p q r d r0):(@Nm R N l m o c p q r d r0)=(T1 N r0 (fun g e i f b=>(Fv N r0 g e c i f d N b)) l m o c p q r d):=by rw[Nm,(Ai _).2]
def ST:Gm:=[(214,PU N)]
def pc (F:KF R):=Ki Tryz.f131 Awp (ST N) [] N F
def Ky (F:KF R):Int→O R:=(fun w=>F (iv w) [])
def pd (g:LA) (e:Nat) (c:Bool) (i:LA) (f:Nat) (d:Bool) (b:Int):St:=⟨[(0,(.imm g e 1 false c)),(1,(.imm i f 1 false d)),(5,(iv b))],[]⟩
def pe (F:KF R):=pc N F [1,1,1,0,1,0] []
theorem AF (F:KF R) (g:LA) (e:Nat) (c:Bool) (i:LA) (f:Nat) (d:Bool):∀ (n:Nat) (b:Int),Ak (pe N F) n (pd g e c i f d b)=(Fv N (Ky F) g e c i f d n b)
 | 0,_=>by kernel_rfl
 | n+1,b=>Eq.trans (by kernel_rfl) (Bv (N1 N (Ky F) g e c i f d · b) (funext fun b=>(AF F g e c i f d n b)):_)
theorem LU (l:LA) (m:Nat) (o c:Bool) (p:LA) (q:Nat) (r d:Bool) (F:KF R):C7 (ST N) Awp N 131 [(.imm l m 1 o c),(.imm p q 1 r d)] [] F=(Nm N l m o c p q r d (Ky F)):=by
 rw[GR]
 exact Eq.trans (by kernel_rfl) (Bv (T1 N (Ky F) · l m o c p q r d) (funext fun g=>funext fun e=>funext fun i=>funext fun f=>funext fun b=>(Ac ..).trans (AF N F g e c i f d N b)):_)
def GS (a:LA) (h:Aj) (k:KF R):O R :=
 match a,h with
 | [(.imm l m 1 o c),(.imm p q 1 r d)],[]=>(Nm N l m o c p q r d (Ky k))
 | _,_=>none
theorem LV:An N 131 @GS:=by
 intro R Q a h k j;unfold GS;split;exact A3 (LU ..) (LU ..) ⟨PV N,trivial⟩;exact A5
def pf:=A4 (LV N)
def pg:=C8 (LV N)
def EG (r0:Nat→Bool→LA→O R) (l:LA) (g:Nat) (d:Bool) (b:Nat) (m:LA) (e:Bool) (k0:Int→Int→Int→LA→O R) (i o c:Int) (f:LA):O R :=
 (cond (decide (c<o)) (cond (Ah c b) (At .u32 (m.drop ((c.toNat)*1)) fun v=>(cond (decide (c<((g:Nat):Int))) (cond (Ah c g) (At .u32 (l.drop ((c.toNat)*1)) fun w=>(cond (Ah c b) (cond ((Nat.beq 1 1)&&((Nat.ble ((0+((c.toNat)*1))+1) (f.length))&&(!false))) (k0 (Int.fdiv (wrap .u64 ((wrap .u64 ((wrap .u64 v) - i)) - (wrap .u64 w))) (2 ^ 63)) o (wrap .i64 (c+1)) (f.set (0+((c.toNat)*1)) (.int .u32 (wrap .u32 (wrap .u64 ((wrap .u64 ((wrap .u64 v) - i)) - (wrap .u64 w))))))) none) none)) none) (cond (Ah c b) (cond ((Nat.beq 1 1)&&((Nat.ble ((0+((c.toNat)*1))+1) (f.length))&&(!false))) (k0 (Int.fdiv (wrap .u64 ((wrap .u64 v) - i)) (2 ^ 63)) o (wrap .i64 (c+1)) (f.set (0+((c.toNat)*1)) (.int .u32 (wrap .u32 (wrap .u64 ((wrap .u64 v) - i)))))) none) none))) none) (JW N b f (fun x=>(r0 x true f))))
def S5 (r0:Nat→Bool→LA→O R) (l:LA) (g:Nat) (d:Bool) (b:Nat) (m:LA) (e:Bool):Nat→Int→Int→Int→LA→O R
 | 0,_,_,_,_=>none
 | n+1,i,o,c,f=>(EG N r0 l g d b m e (S5 r0 l g d b m e n) i o c f)
def kp (r0:Nat→Bool→LA→O R) (q0:LA→Nat→Nat→LA→Int→Int→Int→LA→O R) (p:LA) (q:Nat) (r e:Bool) (s:LA) (t:Nat) (u d:Bool):O R :=
 (Fc N p q r e (fun m b=>(Fc N s t u d (fun l g=>(Nm N m b false e l g false d (fun y=>(cond (decide (y<0)) (r0 0 false []) (cond ((decide (0≤((b:Nat):Int)))&&((decide (((b:Nat):Int)≤((b:Nat):Int)))&&((decide (((b:Nat):Int)≤140737488355328))&&(decide ((((b:Nat):Int)*((4:Nat):Int))≤140737488355328))))) (q0 l g b m 0 ((b:Nat):Int) 0 (List.replicate b (.int .u32 0))) none))))))))
def YD:=(Ai (fun (N:Nat) (p:LA) (q:Nat) (r e:Bool) (s:LA) (t:Nat) (u d:Bool) (r0:Nat→Bool→LA→O R)=>(kp N r0 (fun l g b m i o c f=>(S5 N r0 l g d b m e N i o c f)) p q r e s t u d))).1
theorem j7 (p q r e s t u d r0):(@YD R N p q r e s t u d r0)=(kp N r0 (fun l g b m i o c f=>(S5 N r0 l g d b m e N i o c f)) p q r e s t u d):=by rw[YD,(Ai _).2]
def Afx:Hints:={ H:=(hS hL (hS hL (hS hL (hS hL (hS hL (hS (hS hL (hS (hP [1,6,7,22,23,24] hL) hL)) hL)))))),nils:=[(4,1)],modes:=[(2,1),(0,0)] }
def Ant:Gm:=[(214,Kw N),(131,pf N)]
def Aye (F:KF R):=Ki Tryz.f136 Afx (Ant N) [] N F
def LW (F:KF R):Nat→Bool→LA→O R:=(fun z aa ab=>F (.tup [(.own 300000 0 z),(.bool aa)]) (hq [(bQ 1 ab)]))
def Ayf (l:LA) (g:Nat) (d:Bool) (b:Nat) (m:LA) (e:Bool) (i o c:Int) (f:LA):St:=⟨[(1,(.imm l g 1 false d)),(6,(.own 300000 0 b)),(7,(.int .u64 i)),(22,(.imm m b 1 false e)),(23,(iv o)),(24,(iv c))],(hq [(bQ 1 f)])⟩
def Ayg (F:KF R):=Aye N F [1,1,1,1,1,0,1,0] []
theorem kq (F:KF R) (l:LA) (g:Nat) (d:Bool) (b:Nat) (m:LA) (e:Bool):∀ (n:Nat) (i o c:Int) (f:LA),Ak (Ayg N F) n (Ayf l g d b m e i o c f)=(S5 N (LW F) l g d b m e n i o c f)
 | 0,_,_,_,_=>by kernel_rfl
 | n+1,i,o,c,f=>Eq.trans (by kernel_rfl) (Bv (EG N (LW F) l g d b m e · i o c f) (funext fun i=>funext fun o=>funext fun c=>funext fun f=>(kq F l g d b m e n i o c f)):_)
theorem Afy (p:LA) (q:Nat) (r e:Bool) (s:LA) (t:Nat) (u d:Bool) (F:KF R):C7 (Ant N) Afx N 136 [(.imm p q 1 r e),(.imm s t 1 u d)] [] F=(YD N p q r e s t u d (LW F)):=by
 rw[j7]
 exact Eq.trans (by kernel_rfl) (Bv (kp N (LW F) · p q r e s t u d) (funext fun l=>funext fun g=>funext fun b=>funext fun m=>funext fun i=>funext fun o=>funext fun c=>funext fun f=>(Ac ..).trans (kq N F l g d b m e N i o c f)):_)
def xM (a:LA) (h:Aj) (k:KF R):O R :=
 match a,h with
 | [(.imm p q 1 r e),(.imm s t 1 u d)],[]=>(YD N p q r e s t u d (LW k))
 | _,_=>none
theorem Afz:An N 136 @xM:=by
 intro R Q a h k j;unfold xM;split;exact A3 (Afy ..) (Afy ..) ⟨Kx N,pg N,trivial⟩;exact A5
def Ayh:=A4 (Afz N)
def Ayi:=C8 (Afz N)
def ku (b:LA) (d:Bool) (c:LA) (e:Bool) (r0:Bool→Nat→LA→O R):O R :=
 (XY b fun o=>(XY c fun p=>(cond (o==p) (XY b fun q=>(Bw 1 (b.drop 1) fun r s=>(Bw 1 (c.drop 1) fun t u=>(pb N r s false d t u false e (fun f g=>(Kv N q f g (fun v=>(r0 v f g)))))))) (Bw 1 (b.drop 1) fun w x=>(Bw 1 (c.drop 1) fun y z=>(YD N w x false d y z false e (fun i aa l=>(cond aa (XY b fun ab=>(Kv N ab i l (fun ac=>(r0 ac i l)))) (Bw 1 (c.drop 1) fun ad ae=>(Bw 1 (b.drop 1) fun af ag=>(YD N ad ae false e af ag false d (fun m am n=>(XY c fun ah=>(Kv N ah m n (fun ai=>(r0 ai m n))))))))))))))))
def xN:=(Ai (@ku R)).1
theorem PZ:@xN R=@ku R:=(Ai _).2
def A08:Gm:=[(135,Ayc N),(132,BU N),(136,Ayh N)]
def Af0 (F:KF R):Bool→Nat→LA→O R:=(fun aj ak al=>F (.agg [(.bool aj),(.own 300000 0 ak)]) (hq [(bQ 1 al)]))
theorem Af1 (b:LA) (d:Bool) (c:LA) (e:Bool) (F:KF R):C7 (A08 N) Dx N 144 [(.pagg b d),(.pagg c e)] [] F=(xN N b d c e (Af0 F)):=by
 rw[PZ]
 kernel_rfl
def xO (a:LA) (h:Aj) (k:KF R):O R :=
 match a,h with
 | [(.pagg b d),(.pagg c e)],[]=>(xN N b d c e (Af0 k))
 | _,_=>none
theorem Af2:An N 144 @xO:=by
 intro R Q a h k j;unfold xO;split;exact A3 (Af1 ..) (Af1 ..) ⟨Ayd N,BV N,Ayi N,trivial⟩;exact A5
def Ayj:=A4 (Af2 N)
def Ayk:=C8 (Af2 N)
def Lp (N:Nat) (r0:Int→O R) (c:LA) (b:Nat) (d e:Bool) (k0:Int→Int→Int→O R) (g i f:Int):O R :=
 (cond (decide (f<i)) (cond (Ah f b) (At .u32 (c.drop ((f.toNat)*1)) fun l=>(cond (decide ((wrap .i64 (32*f))<0)) none (k0 (rL .u64 g (wrap .u64 ((wrap .u64 l)*2 ^ (min ((wrap .i64 (32*f)).toNat) 64)))) i (wrap .i64 (f+1))))) none) (r0 g))
def Ka (r0:Int→O R) (c:LA) (b:Nat) (d e:Bool):Nat→Int→Int→Int→O R
 | 0,_,_,_=>none
 | n+1,g,i,f=>(Lp N r0 c b d e (Ka r0 c b d e n) g i f)
def kv (N:Nat) (r0:Int→O R) (q0:Int→Int→Int→O R) (c:LA) (b:Nat) (d e:Bool):O R :=
 (q0 0 ((b:Nat):Int) 0)
def d4:=(Ai (fun (N:Nat) (c:LA) (b:Nat) (d e:Bool) (r0:Int→O R)=>(kv N r0 (fun g i f=>(Ka N r0 c b d e N g i f)) c b d e))).1
theorem rP (c b d e r0):(@d4 R N c b d e r0)=(kv N r0 (fun g i f=>(Ka N r0 c b d e N g i f)) c b d e):=by rw[d4,(Ai _).2]
def xP:Hints:={ H:=(hS hL (hS hL (hS (hS hL (hS (hP [3,6,7,8] hL) hL)) hL))) }
def As9 (F:KF R):=Ki Tryz.f215 xP [] [] N F
def EH (F:KF R):Int→O R:=(fun m=>F (.int .u64 m) [])
def Ata (c:LA) (b:Nat) (d e:Bool) (g i f:Int):St:=⟨[(3,(.int .u64 g)),(6,(.imm c b 1 d e)),(7,(iv i)),(8,(iv f))],[]⟩
def Atb (F:KF R):=As9 N F [1,1,0,1,0] []
theorem fi (F:KF R) (c:LA) (b:Nat) (d e:Bool):∀ (n:Nat) (g i f:Int),Ak (Atb N F) n (Ata c b d e g i f)=(Ka N (EH F) c b d e n g i f)
 | 0,_,_,_=>by kernel_rfl
 | n+1,g,i,f=>Eq.trans (by kernel_rfl) (Bv (Lp N (EH F) c b d e · g i f) (funext fun g=>funext fun i=>funext fun f=>(fi F c b d e n g i f)):_)
theorem xQ (c:LA) (b:Nat) (d e:Bool) (F:KF R):C7 [] xP N 215 [(.imm c b 1 d e)] [] F=(d4 N c b d e (EH F)):=by
 rw[rP]
 exact Eq.trans (by kernel_rfl) (Bv (kv N (EH F) · c b d e) (funext fun g=>funext fun i=>funext fun f=>(Ac ..).trans (fi N F c b d e N g i f)):_)
def rQ (a:LA) (h:Aj) (k:KF R):O R :=
 match a,h with
 | [(.imm c b 1 d e)],[]=>(d4 N c b d e (EH k))
 | _,_=>none
theorem xR:An N 215 @rQ:=by
 intro R Q a h k j;unfold rQ;split;exact A3 (xQ ..) (xQ ..) trivial;exact A5
def Atc:=A4 (xR N)
def Atd:=C8 (xR N)
def j8 (c:LA) (d:Nat) (e b:Bool) (r0:Int→Bool→O R):O R :=
 (Fc N c d e b (fun g f=>(cond (decide (((f:Nat):Int)>2)) (r0 0 false) (d4 N g f false b (fun i=>(r0 i true))))))
def DI:=(Ai (@j8 R)).1
theorem fj:@DI R=@j8 R:=(Ai _).2
def Anu:Gm:=[(214,PU N),(215,Atc N)]
def kw (F:KF R):Int→Bool→O R:=(fun l m=>F (.tup [(.int .u64 l),(.bool m)]) [])
theorem ky (c:LA) (d:Nat) (e b:Bool) (F:KF R):C7 (Anu N) Dx N 210 [(.imm c d 1 e b)] [] F=(DI N c d e b (kw F)):=by
 rw[fj]
 kernel_rfl
def fk (a:LA) (h:Aj) (k:KF R):O R :=
 match a,h with
 | [(.imm c d 1 e b)],[]=>(DI N c d e b (kw k))
 | _,_=>none
theorem kz:An N 210 @fk:=by
 intro R Q a h k j;unfold fk;split;exact A3 (ky ..) (ky ..) ⟨PV N,Atd N,trivial⟩;exact A5
def Aiw:=A4 (kz N)
def Aix:=C8 (kz N)
end
end Gx

namespace Gx
open Go Go.Proofs
open IntKind (wrap)
set_option maxRecDepth 100000
noncomputable section
variable {R:Type} (N:Nat)
def BX (N:Nat) (r0:Nat→LA→O R) (d:LA) (c:Nat) (f e:Bool) (k0:Int→O R) (b:Int):O R :=
 (cond ((decide (b>0))==true) (cond (Ah (wrap .i64 (b - 1)) c) (At .u32 (d.drop (((wrap .i64 (b - 1)).toNat)*1)) fun g=>(cond (cond true (g==0) false) (k0 (wrap .i64 (b - 1))) (cond ((decide ((0:Int)≤(0:Int)))&&((decide (0≤b))&&((decide (b≤((c:Nat):Int)))&&(decide (((c:Nat):Int)≤((c:Nat):Int)))))) (cond ((!e)||(A0 (d.take ((b.toNat)*1)))) (cond ((Nat.ble (0+(b.toNat)) 140737488355328)&&(Nat.ble ((0+(b.toNat))*4) 140737488355328)) (r0 (0+(b.toNat)) (d.take ((b.toNat)*1))) none) none) none))) none) (cond ((decide ((0:Int)≤(0:Int)))&&((decide (0≤b))&&((decide (b≤((c:Nat):Int)))&&(decide (((c:Nat):Int)≤((c:Nat):Int)))))) (cond ((!e)||(A0 (d.take ((b.toNat)*1)))) (cond ((Nat.ble (0+(b.toNat)) 140737488355328)&&(Nat.ble ((0+(b.toNat))*4) 140737488355328)) (r0 (0+(b.toNat)) (d.take ((b.toNat)*1))) none) none) none))
def Oo (r0:Nat→LA→O R) (d:LA) (c:Nat) (f e:Bool):Nat→Int→O R
 | 0,_=>none
 | n+1,b=>(BX N r0 d c f e (Oo r0 d c f e n) b)
def LX (N:Nat) (r0:Nat→LA→O R) (q0:Int→O R) (d:LA) (c:Nat) (f e:Bool):O R :=
 (q0 ((c:Nat):Int))
def Em:=(Ai (fun (N:Nat) (d:LA) (c:Nat) (f e:Bool) (r0:Nat→LA→O R)=>(LX N r0 (fun b=>(Oo N r0 d c f e N b)) d c f e))).1
theorem P_ (d c f e r0):(@Em R N d c f e r0)=(LX N r0 (fun b=>(Oo N r0 d c f e N b)) d c f e):=by rw[Em,(Ai _).2]
def Anv (F:KF R):=Ki Tryz.f150 Afc [] [] N F
def Yi (F:KF R):Nat→LA→O R:=(fun i l=>F (.own 300000 0 i) (hq [(bQ 1 l)]))
def Anw (d:LA) (c:Nat) (f e:Bool) (b:Int):St:=⟨[(0,(.imm d c 1 f e)),(3,(iv b))],[]⟩
def Anx (F:KF R):=Anv N F [1,1,0,0] []
theorem YE (F:KF R) (d:LA) (c:Nat) (f e:Bool):∀ (n:Nat) (b:Int),Ak (Anx N F) n (Anw d c f e b)=(Oo N (Yi F) d c f e n b)
 | 0,_=>by kernel_rfl
 | n+1,b=>Eq.trans (by kernel_rfl) (Bv (BX N (Yi F) d c f e · b) (funext fun b=>(YE F d c f e n b)):_)
theorem rR (d:LA) (c:Nat) (f e:Bool) (F:KF R):C7 [] Afc N 150 [(.imm d c 1 f e)] [] F=(Em N d c f e (Yi F)):=by
 rw[P_]
 exact Eq.trans (by kernel_rfl) (Bv (LX N (Yi F) · d c f e) (funext fun b=>(Ac ..).trans (YE N F d c f e N b)):_)
def lA (a:LA) (h:Aj) (k:KF R):O R :=
 match a,h with
 | [(.imm d c 1 f e)],[]=>(Em N d c f e (Yi k))
 | _,_=>none
theorem rS:An N 150 @lA:=by
 intro R Q a h k j;unfold lA;split;exact A3 (rR ..) (rR ..) trivial;exact A5
def Jh:=A4 (rS N)
def Ji:=C8 (rS N)
def Z4 (b:Int) (r0:Nat→LA→O R):O R :=
 (Em N [(.int .u32 (wrap .u32 b)),(.int .u32 (wrap .u32 (Int.fdiv b (2 ^ 32))))] 2 false true (fun c d=>(r0 c d)))
def Gc:=(Ai (@Z4 R)).1
theorem EI:@Gc R=@Z4 R:=(Ai _).2
def ph:Gm:=[(150,Jh N)]
def GT (F:KF R):Nat→LA→O R:=(fun e f=>F (.own 300000 0 e) (hq [(bQ 1 f)]))
theorem GU (b:Int) (F:KF R):C7 (ph N) Awo N 88 [(.int .u64 b)] [] F=(Gc N b (GT F)):=by
 rw[EI]
 kernel_rfl
def EJ (a:LA) (h:Aj) (k:KF R):O R :=
 match a,h with
 | [(.int .u64 b)],[]=>(Gc N b (GT k))
 | _,_=>none
theorem GV:An N 88 @EJ:=by
 intro R Q a h k j;unfold EJ;split;exact A3 (GU ..) (GU ..) ⟨Ji N,trivial⟩;exact A5
def GW:=A4 (GV N)
def GX:=C8 (GV N)
def pi (b:Bool) (c:LA) (d:Nat) (f e:Bool) (r0:LA→O R):O R :=
 (Em N c d false e (fun g i=>(cond (b==true) (r0 [(.bool (cond true (decide (((g:Nat):Int)>0)) false)),(.imm (i.take (g*1)) g 1 false false)]) (r0 [(.bool false),(.imm (i.take (g*1)) g 1 false false)]))))
def H7:=(Ai (@pi R)).1
theorem lB:@H7 R=@pi R:=(Ai _).2
def Ate:Gm:=[(150,Jh N)]
def rT (F:KF R):LA→O R:=(fun l=>F (.pagg l false) [])
theorem rU (b:Bool) (c:LA) (d:Nat) (f e:Bool) (F:KF R):C7 (Ate N) f6 N 83 [(.bool b),(.imm c d 1 f e)] [] F=(H7 N b c d f e (rT F)):=by
 rw[lB]
 kernel_rfl
def lC (a:LA) (h:Aj) (k:KF R):O R :=
 match a,h with
 | [(.bool b),(.imm c d 1 f e)],[]=>(H7 N b c d f e (rT k))
 | _,_=>none
theorem rV:An N 83 @lC:=by
 intro R Q a h k j;unfold lC;split;exact A3 (rU ..) (rU ..) ⟨Ji N,trivial⟩;exact A5
def Oq:=A4 (rV N)
def Ot:=C8 (rV N)
def P' (b:Int) (r0:LA→O R):O R :=
 (cond (decide (b<0)) (Gc N (wrap .u64 ((wrap .u64 (wrap .i64 ((0:Int) - (wrap .i64 (b+1)))))+1)) (fun e g=>(H7 N true (g.take (e*1)) e false true (fun c=>(cond ((Nat.beq 0 0)&&((Nat.beq (c.length) 2)&&(Nat.beq 2 2))) (cond (Nat.ble 2 (c.length)) (r0 (c.take 2)) none) none))))) (Gc N (wrap .u64 b) (fun f i=>(H7 N false (i.take (f*1)) f false true (fun d=>(cond ((Nat.beq 0 0)&&((Nat.beq (d.length) 2)&&(Nat.beq 2 2))) (cond (Nat.ble 2 (d.length)) (r0 (d.take 2)) none) none))))))
def Lq:=(Ai (@P' R)).1
theorem SU:@Lq R=@P' R:=(Ai _).2
def Ab3:Gm:=[(88,GW N),(83,Oq N)]
def YF (F:KF R):LA→O R:=(fun l=>F (.pagg l false) [])
theorem YG (b:Int) (F:KF R):C7 (Ab3 N) f6 N 32 [(iv b)] [] F=(Lq N b (YF F)):=by
 rw[SU]
 kernel_rfl
def SV (a:LA) (h:Aj) (k:KF R):O R :=
 match a,h with
 | [(.int .i64 b)],[]=>(Lq N b (YF k))
 | _,_=>none
theorem YH:An N 32 @SV:=by
 intro R Q a h k j;unfold SV;split;exact A3 (YG ..) (YG ..) ⟨GX N,Ot N,trivial⟩;exact A5
def YI:=A4 (YH N)
def YJ:=C8 (YH N)
def pj (b:LA) (c:Bool) (r0:LA→O R):O R :=
 (XY b fun e=>(Bw 1 (b.drop 1) fun f g=>(H7 N e f g false c (fun d=>(cond ((Nat.beq 0 0)&&((Nat.beq (d.length) 2)&&(Nat.beq 2 2))) (cond (Nat.ble 2 (d.length)) (r0 (d.take 2)) none) none)))))
def EK:=(Ai (@pj R)).1
theorem lD:@EK R=@pj R:=(Ai _).2
def Atf:Gm:=[(83,Oq N)]
def rW (F:KF R):LA→O R:=(fun i=>F (.pagg i false) [])
theorem rX (b:LA) (c:Bool) (F:KF R):C7 (Atf N) f6 N 26 [(.pagg b c)] [] F=(EK N b c (rW F)):=by
 rw[lD]
 kernel_rfl
def lE (a:LA) (h:Aj) (k:KF R):O R :=
 match a,h with
 | [(.pagg b c)],[]=>(EK N b c (rW k))
 | _,_=>none
theorem rY:An N 26 @lE:=by
 intro R Q a h k j;unfold lE;split;exact A3 (rX ..) (rX ..) ⟨Ot N,trivial⟩;exact A5
def rZ:=A4 (rY N)
def r5:=C8 (rY N)
def pk (b:LA) (c:Bool) (r0:Int→O R):O R :=
 (cond (Nat.ble 2 (b.length)) (EK N (b.take 2) c (fun d=>(cond ((Nat.beq (d.length) 2)&&((Nat.ble 2 (b.length))&&(!false))) (XY (setCells b 0 d) fun e=>(cond e (r0 (-1)) (Bw 1 ((setCells b 0 d).drop 1) fun i f=>(cond (((f:Nat):Int)==0) (r0 0) (r0 1))))) none))) none)
def YK:=(Ai (@pk R)).1
theorem lF:@YK R=@pk R:=(Ai _).2
def Atg:Gm:=[(26,rZ N)]
def r6 (F:KF R):Int→O R:=(fun g=>F (iv g) [])
theorem r7 (b:LA) (c:Bool) (F:KF R):C7 (Atg N) Dx N 138 [(.pagg b c)] [] F=(YK N b c (r6 F)):=by
 rw[lF]
 kernel_rfl
def lG (a:LA) (h:Aj) (k:KF R):O R :=
 match a,h with
 | [(.pagg b c)],[]=>(YK N b c (r6 k))
 | _,_=>none
theorem r8:An N 138 @lG:=by
 intro R Q a h k j;unfold lG;split;exact A3 (r7 ..) (r7 ..) ⟨r5 N,trivial⟩;exact A5
def Anz:=A4 (r8 N)
def An0:=C8 (r8 N)
def pm (N:Nat) (r0:LA→O R):O R :=
 (r0 [(.bool false),(.imm [] 0 1 false false),(.imm [(.int .u32 1)] 1 1 false false)])
def Yj:=(Ai (@pm R)).1
theorem lH:@Yj R=@pm R:=(Ai _).2
def r9 (F:KF R):LA→O R:=(fun b=>F (.pagg b false) [])
theorem r_ (F:KF R):C7 [] f6 N 151 [] [] F=(Yj N (r9 F)):=by
 rw[lH]
 kernel_rfl
def lI (a:LA) (h:Aj) (k:KF R):O R :=
 match a,h with
 | [],[]=>(Yj N (r9 k))
 | _,_=>none
theorem ra:An N 151 @lI:=by
 intro R Q a h k j;unfold lI;split;exact A3 (r_ ..) (r_ ..) trivial;exact A5
def YL:=A4 (ra N)
def YM:=C8 (ra N)
def Xl (N:Nat) (r0:Bool→O R) (d:LA) (b:Nat) (f g:Bool) (e:LA) (c:Nat) (i l:Bool) (k0:Int→O R) (m:Int):O R :=
 (cond (decide (m<((b:Nat):Int))) (cond (Ah m b) (At .u32 (d.drop ((m.toNat)*1)) fun o=>(cond (Ah m c) (At .u32 (e.drop ((m.toNat)*1)) fun p=>(cond (o != p) (r0 false) (k0 (wrap .i64 (m+1))))) none)) none) (r0 true))
def L3 (r0:Bool→O R) (d:LA) (b:Nat) (f g:Bool) (e:LA) (c:Nat) (i l:Bool):Nat→Int→O R
 | 0,_=>none
 | n+1,m=>(Xl N r0 d b f g e c i l (L3 r0 d b f g e c i l n) m)
def QA (N:Nat) (r0:Bool→O R) (q0:Int→O R) (d:LA) (b:Nat) (f g:Bool) (e:LA) (c:Nat) (i l:Bool):O R :=
 (cond (((b:Nat):Int) != ((c:Nat):Int)) (r0 false) (q0 0))
def DJ:=(Ai (fun (N:Nat) (d:LA) (b:Nat) (f g:Bool) (e:LA) (c:Nat) (i l:Bool) (r0:Bool→O R)=>(QA N r0 (fun m=>(L3 N r0 d b f g e c i l N m)) d b f g e c i l))).1
theorem fm (d b f g e c i l r0):(@DJ R N d b f g e c i l r0)=(QA N r0 (fun m=>(L3 N r0 d b f g e c i l N m)) d b f g e c i l):=by rw[DJ,(Ai _).2]
def lJ:Hints:={ H:=(hS hL (hS hL (hS (hS hL (hS (hP [0,1,5] hL) hL)) hL))) }
def Aiy (F:KF R):=Ki Tryz.f65 lJ [] [] N F
def T2 (F:KF R):Bool→O R:=(fun q=>F (.bool q) [])
def Aiz (d:LA) (b:Nat) (f g:Bool) (e:LA) (c:Nat) (i l:Bool) (m:Int):St:=⟨[(0,(.imm d b 1 f g)),(1,(.imm e c 1 i l)),(5,(iv m))],[]⟩
def Ai0 (F:KF R):=Aiy N F [1,1,0,1,0] []
theorem SW (F:KF R) (d:LA) (b:Nat) (f g:Bool) (e:LA) (c:Nat) (i l:Bool):∀ (n:Nat) (m:Int),Ak (Ai0 N F) n (Aiz d b f g e c i l m)=(L3 N (T2 F) d b f g e c i l n m)
 | 0,_=>by kernel_rfl
 | n+1,m=>Eq.trans (by kernel_rfl) (Bv (Xl N (T2 F) d b f g e c i l · m) (funext fun m=>(SW F d b f g e c i l n m)):_)
theorem lK (d:LA) (b:Nat) (f g:Bool) (e:LA) (c:Nat) (i l:Bool) (F:KF R):C7 [] lJ N 65 [(.imm d b 1 f g),(.imm e c 1 i l)] [] F=(DJ N d b f g e c i l (T2 F)):=by
 rw[fm]
 exact Eq.trans (by kernel_rfl) (Bv (QA N (T2 F) · d b f g e c i l) (funext fun m=>(Ac ..).trans (SW N F d b f g e c i l N m)):_)
def fq (a:LA) (h:Aj) (k:KF R):O R :=
 match a,h with
 | [(.imm d b 1 f g),(.imm e c 1 i l)],[]=>(DJ N d b f g e c i l (T2 k))
 | _,_=>none
theorem lL:An N 65 @fq:=by
 intro R Q a h k j;unfold fq;split;exact A3 (lK ..) (lK ..) trivial;exact A5
def Ai1:=A4 (lL N)
def Ai2:=C8 (lL N)
def Gd (N:Nat) (r0:Int→Bool→O R) (b:Nat) (d:LA) (k0:Int→Int→O R) (e c:Int):O R :=
 (cond (decide (c≥0)) (cond (Ah c b) (At .u32 (d.drop (0+((c.toNat)*1))) fun m=>(k0 (rL .u64 (wrap .u64 (e*2 ^ 32)) (wrap .u64 m)) (wrap .i64 (c - 1)))) none) (r0 e true))
def Et (r0:Int→Bool→O R) (b:Nat) (d:LA):Nat→Int→Int→O R
 | 0,_,_=>none
 | n+1,e,c=>(Gd N r0 b d (Et r0 b d n) e c)
def GY (r0:Int→Bool→O R) (q0:Nat→LA→Int→Int→O R) (f:LA) (g:Nat) (l i:Bool):O R :=
 (Em N f g false i (fun b d=>(cond (decide (((b:Nat):Int)>2)) (r0 0 false) (q0 b d 0 (wrap .i64 (((b:Nat):Int) - 1))))))
def Se:=(Ai (fun (N:Nat) (f:LA) (g:Nat) (l i:Bool) (r0:Int→Bool→O R)=>(GY N r0 (fun b d e c=>(Et N r0 b d N e c)) f g l i))).1
theorem YN (f g l i r0):(@Se R N f g l i r0)=(GY N r0 (fun b d e c=>(Et N r0 b d N e c)) f g l i):=by rw[Se,(Ai _).2]
def ft:Hints:={ H:=(hS hL (hS hL (hS hL (hS hL (hS (hS hL (hS (hP [0,4,5] hL) hL)) hL))))) }
def lM:Gm:=[(150,Jh N)]
def Ab4 (F:KF R):=Ki Tryz.f89 ft (lM N) [] N F
def Qz (F:KF R):Int→Bool→O R:=(fun o p=>F (.tup [(.int .u64 o),(.bool p)]) [])
def Ab5 (b:Nat) (d:LA) (e c:Int):St:=⟨[(0,(.own 300000 0 b)),(4,(.int .u64 e)),(5,(iv c))],(hq [(bQ 1 d)])⟩
def Ab6 (F:KF R):=Ab4 N F [1,1,1,1,0,1,0] []
theorem LY (F:KF R) (b:Nat) (d:LA):∀ (n:Nat) (e c:Int),Ak (Ab6 N F) n (Ab5 b d e c)=(Et N (Qz F) b d n e c)
 | 0,_,_=>by kernel_rfl
 | n+1,e,c=>Eq.trans (by kernel_rfl) (Bv (Gd N (Qz F) b d · e c) (funext fun e=>funext fun c=>(LY F b d n e c)):_)
theorem fu (f:LA) (g:Nat) (l i:Bool) (F:KF R):C7 (lM N) ft N 89 [(.imm f g 1 l i)] [] F=(Se N f g l i (Qz F)):=by
 rw[YN]
 exact Eq.trans (by kernel_rfl) (Bv (GY N (Qz F) · f g l i) (funext fun b=>funext fun d=>funext fun e=>funext fun c=>(Ac ..).trans (LY N F b d N e c)):_)
def YO (a:LA) (h:Aj) (k:KF R):O R :=
 match a,h with
 | [(.imm f g 1 l i)],[]=>(Se N f g l i (Qz k))
 | _,_=>none
theorem fv:An N 89 @YO:=by
 intro R Q a h k j;unfold YO;split;exact A3 (fu ..) (fu ..) ⟨Ji N,trivial⟩;exact A5
def Ab7:=A4 (fv N)
def Ab8:=C8 (fv N)
def T3 (N:Nat) (r0:Int→O R) (k0:Int→Int→O R) (b c:Int):O R :=
 (cond (decide (c>0)) (k0 (wrap .i64 (b+1)) (Int.fdiv c (2 ^ 1))) (r0 b))
def Lr (r0:Int→O R):Nat→Int→Int→O R
 | 0,_,_=>none
 | n+1,b,c=>(T3 N r0 (Lr r0 n) b c)
def LZ (r0:Int→O R) (q0:Int→Int→O R) (d:LA) (e:Nat) (g f:Bool):O R :=
 (Em N d e false f (fun i l=>(cond (((i:Nat):Int)==0) (r0 0) (cond (Ah (wrap .i64 (((i:Nat):Int) - 1)) i) (At .u32 (l.drop (0+(((wrap .i64 (((i:Nat):Int) - 1)).toNat)*1))) fun m=>(q0 (wrap .i64 (32*(wrap .i64 (((i:Nat):Int) - 1)))) m)) none))))
def L_:=(Ai (fun (N:Nat) (d:LA) (e:Nat) (g f:Bool) (r0:Int→O R)=>(LZ N r0 (fun b c=>(Lr N r0 N b c)) d e g f))).1
theorem QB (d e g f r0):(@L_ R N d e g f r0)=(LZ N r0 (fun b c=>(Lr N r0 N b c)) d e g f):=by rw[L_,(Ai _).2]
def rc:Hints:={ H:=(hS hL (hS hL (hS hL (hS hL (hS (hS hL (hS (hP [3,4] hL) hL)) hL))))) }
def xS:Gm:=[(150,Jh N)]
def An1 (F:KF R):=Ki Tryz.f206 rc (xS N) [] N F
def Yk (F:KF R):Int→O R:=(fun o=>F (iv o) [])
def An2 (b c:Int):St:=⟨[(3,(iv b)),(4,(.int .u32 c))],[]⟩
def An3 (F:KF R):=An1 N F [1,1,1,1,0,1,0] []
theorem YP (F:KF R):∀ (n:Nat) (b c:Int),Ak (An3 N F) n (An2 b c)=(Lr N (Yk F) n b c)
 | 0,_,_=>by kernel_rfl
 | n+1,b,c=>Eq.trans (by kernel_rfl) (Bv (T3 N (Yk F) · b c) (funext fun b=>funext fun c=>(YP F n b c)):_)
theorem rf (d:LA) (e:Nat) (g f:Bool) (F:KF R):C7 (xS N) rc N 206 [(.imm d e 1 g f)] [] F=(L_ N d e g f (Yk F)):=by
 rw[QB]
 exact Eq.trans (by kernel_rfl) (Bv (LZ N (Yk F) · d e g f) (funext fun b=>funext fun c=>(Ac ..).trans (YP N F N b c)):_)
def lN (a:LA) (h:Aj) (k:KF R):O R :=
 match a,h with
 | [(.imm d e 1 g f)],[]=>(L_ N d e g f (Yk k))
 | _,_=>none
theorem rg:An N 206 @lN:=by
 intro R Q a h k j;unfold lN;split;exact A3 (rf ..) (rf ..) ⟨Ji N,trivial⟩;exact A5
def An4:=A4 (rg N)
def An5:=C8 (rg N)
def EL (N:Nat) (k0:Nat→Int→Int→LA→O R) (r0:Nat→LA→O R) (d:LA) (b:Nat) (f g:Bool) (e:LA) (c:Nat) (i l:Bool) (m:Nat) (o:LA) (s q:Int):O R :=
 (cond (decide (q<((c:Nat):Int))) (cond (Ah q c) (At .u32 (e.drop ((q.toNat)*1)) fun t=>(cond (Ah q m) (cond ((Nat.beq 1 1)&&((Nat.ble ((0+((q.toNat)*1))+1) (o.length))&&(!false))) (k0 m (Int.fdiv (wrap .u64 (s+(wrap .u64 t))) (2 ^ 32)) (wrap .i64 (q+1)) (o.set (0+((q.toNat)*1)) (.int .u32 (wrap .u32 (wrap .u64 (s+(wrap .u64 t))))))) none) none)) none) (cond (Ah q m) (cond ((Nat.beq 1 1)&&((Nat.ble ((0+((q.toNat)*1))+1) (o.length))&&(!false))) (k0 m (Int.fdiv s (2 ^ 32)) (wrap .i64 (q+1)) (o.set (0+((q.toNat)*1)) (.int .u32 (wrap .u32 s)))) none) none))
def GZ (r0:Nat→LA→O R) (d:LA) (b:Nat) (f g:Bool) (e:LA) (c:Nat) (i l:Bool) (k0:Nat→Int→Int→LA→O R) (q1:Int→Int→O R) (m:Nat) (r p:Int) (o:LA):O R :=
 (cond (decide (p<((m:Nat):Int))) (cond (decide (p<((b:Nat):Int))) (cond (Ah p b) (At .u32 (d.drop ((p.toNat)*1)) fun u=>(q1 (wrap .u64 (r+(wrap .u64 u))) p)) none) (q1 r p)) (Em N (o.take (m*1)) m false true (fun v w=>(r0 v w))))
def Kb (r0:Nat→LA→O R) (d:LA) (b:Nat) (f g:Bool) (e:LA) (c:Nat) (i l:Bool):Nat→Nat→Int→Int→LA→O R
 | 0,_,_,_,_=>none
 | n+1,m,r,p,o=>(GZ N r0 d b f g e c i l (Kb r0 d b f g e c i l n) (fun s q=>(EL N (Kb r0 d b f g e c i l n) r0 d b f g e c i l m o s q)) m r p o)
def lO (N:Nat) (r0:Nat→LA→O R) (q0:Nat→Int→Int→LA→O R) (d:LA) (b:Nat) (f g:Bool) (e:LA) (c:Nat) (i l:Bool):O R :=
 (cond ((decide (0≤(wrap .i64 ((jP ((b:Nat):Int) ((c:Nat):Int))+1))))&&((decide ((wrap .i64 ((jP ((b:Nat):Int) ((c:Nat):Int))+1))≤(wrap .i64 ((jP ((b:Nat):Int) ((c:Nat):Int))+1))))&&((decide ((wrap .i64 ((jP ((b:Nat):Int) ((c:Nat):Int))+1))≤140737488355328))&&(decide (((wrap .i64 ((jP ((b:Nat):Int) ((c:Nat):Int))+1))*((4:Nat):Int))≤140737488355328))))) (q0 ((wrap .i64 ((jP ((b:Nat):Int) ((c:Nat):Int))+1)).toNat) 0 0 (List.replicate ((wrap .i64 ((jP ((b:Nat):Int) ((c:Nat):Int))+1)).toNat) (.int .u32 0))) none)
def G_:=(Ai (fun (N:Nat) (d:LA) (b:Nat) (f g:Bool) (e:LA) (c:Nat) (i l:Bool) (r0:Nat→LA→O R)=>(lO N r0 (fun m r p o=>(Kb N r0 d b f g e c i l N m r p o)) d b f g e c i l))).1
theorem ri (d b f g e c i l r0):(@G_ R N d b f g e c i l r0)=(lO N r0 (fun m r p o=>(Kb N r0 d b f g e c i l N m r p o)) d b f g e c i l):=by rw[G_,(Ai _).2]
def xT:Hints:={ H:=(hS hL (hS hL (hS hL (hS (hS hL (hS (hP [0,1,5,6,7] (hS hL (hS (hS (hJ [0,1,5,6,7] hL hL) hL) hL))) hL)) hL)))),nils:=[(4,1)],modes:=[(2,1)] }
def Af3:Gm:=[(150,Jh N)]
def xU (F:KF R):=Ki Tryz.f207 xT (Af3 N) [] N F
def Sf (F:KF R):Nat→LA→O R:=(fun x y=>F (.own 300000 0 x) (hq [(bQ 1 y)]))
def Ath (d:LA) (b:Nat) (f g:Bool) (e:LA) (c:Nat) (i l:Bool) (m:Nat) (o:LA) (s q:Int):St:=⟨[(0,(.imm d b 1 f g)),(1,(.imm e c 1 i l)),(5,(.own 300000 0 m)),(6,(.int .u64 s)),(7,(iv q))],(hq [(bQ 1 o)])⟩
def Ati (F:KF R) (Q0:St→O R):=xU N F [1,1,1,0,1,0,0,1,0,0,1] [Q0]
def xV (d:LA) (b:Nat) (f g:Bool) (e:LA) (c:Nat) (i l:Bool) (m:Nat) (r p:Int) (o:LA):St:=⟨[(0,(.imm d b 1 f g)),(1,(.imm e c 1 i l)),(5,(.own 300000 0 m)),(6,(.int .u64 r)),(7,(iv p))],(hq [(bQ 1 o)])⟩
def xW (F:KF R):=xU N F [1,1,1,0,1,0] []
theorem Ab9 (Q0:St→O R) (F:KF R) (d:LA) (b:Nat) (f g:Bool) (e:LA) (c:Nat) (i l:Bool) (m:Nat) (o:LA):∀ (s q:Int),B8 (Ati N F Q0) (Ath d b f g e c i l m o s q)=(EL N (fun m r p o=>Q0 (xV d b f g e c i l m r p o)) (Sf F) d b f g e c i l m o s q):=by
 intro s q
 kernel_rfl
theorem fw (F:KF R) (d:LA) (b:Nat) (f g:Bool) (e:LA) (c:Nat) (i l:Bool):∀ (n m:Nat) (r p:Int) (o:LA),Ak (xW N F) n (xV d b f g e c i l m r p o)=(Kb N (Sf F) d b f g e c i l n m r p o)
 | 0,_,_,_,_=>by kernel_rfl
 | n+1,m,r,p,o=>have e0:=(funext fun m=>funext fun r=>funext fun p=>funext fun o=>(fw F d b f g e c i l n m r p o))
  Eq.trans (by kernel_rfl) (PQ (GZ N (Sf F) d b f g e c i l · · m r p o) e0 (funext fun s=>funext fun q=>(A2 ..).trans ((Ab9 N (Ak (xW N F) n) F d b f g e c i l m o s q).trans (Bv (EL N · (Sf F) d b f g e c i l m o s q) e0))):_)
theorem xX (d:LA) (b:Nat) (f g:Bool) (e:LA) (c:Nat) (i l:Bool) (F:KF R):C7 (Af3 N) xT N 207 [(.imm d b 1 f g),(.imm e c 1 i l)] [] F=(G_ N d b f g e c i l (Sf F)):=by
 rw[ri]
 exact Eq.trans (by kernel_rfl) (Bv (lO N (Sf F) · d b f g e c i l) (funext fun m=>funext fun r=>funext fun p=>funext fun o=>(Ac ..).trans (fw N F d b f g e c i l N m r p o)):_)
def rj (a:LA) (h:Aj) (k:KF R):O R :=
 match a,h with
 | [(.imm d b 1 f g),(.imm e c 1 i l)],[]=>(G_ N d b f g e c i l (Sf k))
 | _,_=>none
theorem xY:An N 207 @rj:=by
 intro R Q a h k j;unfold rj;split;exact A3 (xX ..) (xX ..) ⟨Ji N,trivial⟩;exact A5
def xZ:=A4 (xY N)
def x8:=C8 (xY N)
def x9 (N:Nat) (d:LA) (c:Nat) (e f:Bool) (b:Int) (r0:Int→O R):O R :=
 (cond (decide ((wrap .i64 (Int.tdiv b 32))≥((c:Nat):Int))) (r0 0) (cond (Ah (wrap .i64 (Int.tdiv b 32)) c) (At .u32 (d.drop (((wrap .i64 (Int.tdiv b 32)).toNat)*1)) fun g=>(cond (decide ((wrap .u64 (Int.tmod b 32))<0)) none (r0 (Asy .u32 (Int.fdiv g (2 ^ (min ((wrap .u64 (Int.tmod b 32)).toNat) 32))) 1)))) none))
def lP:=(Ai (@x9 R)).1
theorem rk:@lP R=@x9 R:=(Ai _).2
def x_ (F:KF R):Int→O R:=(fun i=>F (.int .u32 i) [])
theorem xa (d:LA) (c:Nat) (e f:Bool) (b:Int) (F:KF R):C7 [] Dx N 208 [(.imm d c 1 e f),(iv b)] [] F=(lP N d c e f b (x_ F)):=by
 rw[rk]
 kernel_rfl
def rm (a:LA) (h:Aj) (k:KF R):O R :=
 match a,h with
 | [(.imm d c 1 e f),(.int .i64 b)],[]=>(lP N d c e f b (x_ k))
 | _,_=>none
theorem xb:An N 208 @rm:=by
 intro R Q a h k j;unfold rm;split;exact A3 (xa ..) (xa ..) trivial;exact A5
def Atj:=A4 (xb N)
def Atk:=C8 (xb N)
def Ry (N:Nat) (r0:Int→O R) (c d:Nat) (e f:LA) (k0:Int→O R) (b:Int):O R :=
 (cond (decide (b≥0)) (cond (Ah b c) (At .u32 (e.drop (0+((b.toNat)*1))) fun s=>(cond (Ah b d) (At .u32 (f.drop (0+((b.toNat)*1))) fun t=>(cond (decide (s<t)) (r0 (-1)) (cond (Ah b c) (At .u32 (e.drop (0+((b.toNat)*1))) fun u=>(cond (Ah b d) (At .u32 (f.drop (0+((b.toNat)*1))) fun v=>(cond (decide (u>v)) (r0 1) (k0 (wrap .i64 (b - 1))))) none)) none))) none)) none) (r0 0))
def H8 (r0:Int→O R) (c d:Nat) (e f:LA):Nat→Int→O R
 | 0,_=>none
 | n+1,b=>(Ry N r0 c d e f (H8 r0 c d e f n) b)
def BY (r0:Int→O R) (q0:Nat→Nat→LA→LA→Int→O R) (g:LA) (i:Nat) (q l:Bool) (m:LA) (o:Nat) (r p:Bool):O R :=
 (Em N g i false l (fun c e=>(Em N m o false p (fun d f=>(cond (((c:Nat):Int) != ((d:Nat):Int)) (cond (decide (((c:Nat):Int)<((d:Nat):Int))) (r0 (-1)) (r0 1)) (q0 c d e f (wrap .i64 (((c:Nat):Int) - 1))))))))
def S6:=(Ai (fun (N:Nat) (g:LA) (i:Nat) (q l:Bool) (m:LA) (o:Nat) (r p:Bool) (r0:Int→O R)=>(BY N r0 (fun c d e f b=>(H8 N r0 c d e f N b)) g i q l m o r p))).1
theorem SX (g i q l m o r p r0):(@S6 R N g i q l m o r p r0)=(BY N r0 (fun c d e f b=>(H8 N r0 c d e f N b)) g i q l m o r p):=by rw[S6,(Ai _).2]
def fx:Gm:=[(150,Jh N)]
def xc (F:KF R):=Ki Tryz.f272 Awp (fx N) [] N F
def Ou (F:KF R):Int→O R:=(fun w=>F (iv w) [])
def xd (c d:Nat) (e f:LA) (b:Int):St:=⟨[(0,(.own 300000 0 c)),(1,(.own 300001 0 d)),(5,(iv b))],(hq [(bQ 1 e),(bQ 1 f)])⟩
def xe (F:KF R):=xc N F [1,1,1,0,1,0] []
theorem G' (F:KF R) (c d:Nat) (e f:LA):∀ (n:Nat) (b:Int),Ak (xe N F) n (xd c d e f b)=(H8 N (Ou F) c d e f n b)
 | 0,_=>by kernel_rfl
 | n+1,b=>Eq.trans (by kernel_rfl) (Bv (Ry N (Ou F) c d e f · b) (funext fun b=>(G' F c d e f n b)):_)
theorem YQ (g:LA) (i:Nat) (q l:Bool) (m:LA) (o:Nat) (r p:Bool) (F:KF R):C7 (fx N) Awp N 272 [(.imm g i 1 q l),(.imm m o 1 r p)] [] F=(S6 N g i q l m o r p (Ou F)):=by
 rw[SX]
 exact Eq.trans (by kernel_rfl) (Bv (BY N (Ou F) · g i q l m o r p) (funext fun c=>funext fun d=>funext fun e=>funext fun f=>funext fun b=>(Ac ..).trans (G' N F c d e f N b)):_)
def SY (a:LA) (h:Aj) (k:KF R):O R :=
 match a,h with
 | [(.imm g i 1 q l),(.imm m o 1 r p)],[]=>(S6 N g i q l m o r p (Ou k))
 | _,_=>none
theorem YR:An N 272 @SY:=by
 intro R Q a h k j;unfold SY;split;exact A3 (YQ ..) (YQ ..) ⟨Ji N,trivial⟩;exact A5
def xg:=A4 (YR N)
def xh:=C8 (YR N)
def EM (N:Nat) (k0:Int→Int→LA→O R) (r0:Nat→Bool→LA→O R) (b d:Nat) (e f c:LA) (i m:Int):O R :=
 (cond (Ah i b) (At .u32 (e.drop (0+((i.toNat)*1))) fun w=>(cond (decide ((wrap .u64 w)<m)) (cond (Ah i b) (cond ((Nat.beq 1 1)&&((Nat.ble ((0+((i.toNat)*1))+1) (c.length))&&(!false))) (k0 1 (wrap .i64 (i+1)) (c.set (0+((i.toNat)*1)) (.int .u32 (wrap .u32 (wrap .u64 ((wrap .u64 ((wrap .u64 w)+4294967296)) - m)))))) none) none) (cond (Ah i b) (cond ((Nat.beq 1 1)&&((Nat.ble ((0+((i.toNat)*1))+1) (c.length))&&(!false))) (k0 0 (wrap .i64 (i+1)) (c.set (0+((i.toNat)*1)) (.int .u32 (wrap .u32 (wrap .u64 ((wrap .u64 w) - m)))))) none) none))) none)
def HA (r0:Nat→Bool→LA→O R) (b d:Nat) (e f:LA) (k0:Int→Int→LA→O R) (q1:Int→Int→O R) (l g:Int) (c:LA):O R :=
 (cond (decide (g<((b:Nat):Int))) (cond (decide (g<((d:Nat):Int))) (cond (Ah g d) (At .u32 (f.drop (0+((g.toNat)*1))) fun x=>(q1 g (wrap .u64 (l+(wrap .u64 x))))) none) (q1 g l)) (Em N (c.take (b*1)) b false true (fun y z=>(r0 y true z))))
def Kc (r0:Nat→Bool→LA→O R) (b d:Nat) (e f:LA):Nat→Int→Int→LA→O R
 | 0,_,_,_=>none
 | n+1,l,g,c=>(HA N r0 b d e f (Kc r0 b d e f n) (fun i m=>(EM N (Kc r0 b d e f n) r0 b d e f c i m)) l g c)
def lR (r0:Nat→Bool→LA→O R) (q0:Nat→Nat→LA→LA→Int→Int→LA→O R) (o:LA) (p:Nat) (u q:Bool) (r:LA) (s:Nat) (v t:Bool):O R :=
 (S6 N o p false q r s false t (fun aa=>(cond (decide (aa<0)) (r0 0 false []) (Em N o p false q (fun b e=>(Em N r s false t (fun d f=>(cond ((decide (0≤((b:Nat):Int)))&&((decide (((b:Nat):Int)≤((b:Nat):Int)))&&((decide (((b:Nat):Int)≤140737488355328))&&(decide ((((b:Nat):Int)*((4:Nat):Int))≤140737488355328))))) (q0 b d e f 0 0 (List.replicate b (.int .u32 0))) none))))))))
def HB:=(Ai (fun (N:Nat) (o:LA) (p:Nat) (u q:Bool) (r:LA) (s:Nat) (v t:Bool) (r0:Nat→Bool→LA→O R)=>(lR N r0 (fun b d e f l g c=>(Kc N r0 b d e f N l g c)) o p u q r s v t))).1
theorem rn (o p u q r s v t r0):(@HB R N o p u q r s v t r0)=(lR N r0 (fun b d e f l g c=>(Kc N r0 b d e f N l g c)) o p u q r s v t):=by rw[HB,(Ai _).2]
def xi:Hints:={ H:=(hS hL (hS hL (hS hL (hS hL (hS hL (hS (hS hL (hS (hP [0,1,6,7,8] (hS hL (hS (hS (hS hL (hJ [0,1,6,8,9] hL hL)) hL) hL))) hL)) hL)))))),nils:=[(4,1)],modes:=[(2,1),(0,0)] }
def Af4:Gm:=[(272,xg N),(150,Jh N)]
def xj (F:KF R):=Ki Tryz.f209 xi (Af4 N) [] N F
def Sg (F:KF R):Nat→Bool→LA→O R:=(fun ab ac ad=>F (.tup [(.own 300000 0 ab),(.bool ac)]) (hq [(bQ 1 ad)]))
def Atl (b d:Nat) (e f c:LA) (i m:Int):St:=⟨[(0,(.own 300000 0 b)),(1,(.own 300001 0 d)),(6,(.own 300002 0 b)),(8,(iv i)),(9,(.int .u64 m))],(hq [(bQ 1 e),(bQ 1 f),(bQ 1 c)])⟩
def Atm (F:KF R) (Q0:St→O R):=xj N F [1,1,1,1,1,0,1,0,0,1,0,0,1,1] [Q0]
def xk (b d:Nat) (e f:LA) (l g:Int) (c:LA):St:=⟨[(0,(.own 300000 0 b)),(1,(.own 300001 0 d)),(6,(.own 300002 0 b)),(7,(.int .u64 l)),(8,(iv g))],(hq [(bQ 1 e),(bQ 1 f),(bQ 1 c)])⟩
def xl (F:KF R):=xj N F [1,1,1,1,1,0,1,0] []
theorem Aca (Q0:St→O R) (F:KF R) (b d:Nat) (e f c:LA):∀ (i m:Int),B8 (Atm N F Q0) (Atl b d e f c i m)=(EM N (fun l g c=>Q0 (xk b d e f l g c)) (Sg F) b d e f c i m):=by
 intro i m
 kernel_rfl
theorem fy (F:KF R) (b d:Nat) (e f:LA):∀ (n:Nat) (l g:Int) (c:LA),Ak (xl N F) n (xk b d e f l g c)=(Kc N (Sg F) b d e f n l g c)
 | 0,_,_,_=>by kernel_rfl
 | n+1,l,g,c=>have e0:=(funext fun l=>funext fun g=>funext fun c=>(fy F b d e f n l g c))
  Eq.trans (by kernel_rfl) (PQ (HA N (Sg F) b d e f · · l g c) e0 (funext fun i=>funext fun m=>(A2 ..).trans ((Aca N (Ak (xl N F) n) F b d e f c i m).trans (Bv (EM N · (Sg F) b d e f c i m) e0))):_)
theorem xm (o:LA) (p:Nat) (u q:Bool) (r:LA) (s:Nat) (v t:Bool) (F:KF R):C7 (Af4 N) xi N 209 [(.imm o p 1 u q),(.imm r s 1 v t)] [] F=(HB N o p u q r s v t (Sg F)):=by
 rw[rn]
 exact Eq.trans (by kernel_rfl) (Bv (lR N (Sg F) · o p u q r s v t) (funext fun b=>funext fun d=>funext fun e=>funext fun f=>funext fun l=>funext fun g=>funext fun c=>(Ac ..).trans (fy N F b d e f N l g c)):_)
def ro (a:LA) (h:Aj) (k:KF R):O R :=
 match a,h with
 | [(.imm o p 1 u q),(.imm r s 1 v t)],[]=>(HB N o p u q r s v t (Sg k))
 | _,_=>none
theorem xn:An N 209 @ro:=by
 intro R Q a h k j;unfold ro;split;exact A3 (xm ..) (xm ..) ⟨xh N,Ji N,trivial⟩;exact A5
def xo:=A4 (xn N)
def xp:=C8 (xn N)
def Nn (k1:Nat→Int→LA→LA→O R) (r0:Nat→Nat→Bool→LA→LA→O R) (c:LA) (b:Nat) (e d:Bool) (f:Nat) (i:Int) (g l:LA) (p:Nat) (q:LA):O R :=
 (HB N (q.take (p*1)) p false true (g.take (f*1)) f false true (fun z aa ab=>(cond aa (cond (Ah (wrap .i64 (Int.tdiv i 32)) b) (At .u32 (l.drop (0+(((wrap .i64 (Int.tdiv i 32)).toNat)*1))) fun ac=>(cond (decide ((wrap .u64 (Int.tmod i 32))<0)) none (cond (Ah (wrap .i64 (Int.tdiv i 32)) b) (cond ((Nat.beq 1 1)&&((Nat.ble ((0+(((wrap .i64 (Int.tdiv i 32)).toNat)*1))+1) (l.length))&&(!false))) (k1 z (wrap .i64 (i - 1)) (l.set (0+(((wrap .i64 (Int.tdiv i 32)).toNat)*1)) (.int .u32 (rL .u32 ac (wrap .u32 ((1:Int)*2 ^ (min ((wrap .u64 (Int.tmod i 32)).toNat) 32)))))) ab) none) none))) none) (k1 p (wrap .i64 (i - 1)) l q))))
def T4 (r0:Nat→Nat→Bool→LA→LA→O R) (c:LA) (b:Nat) (e d:Bool) (f:Nat) (g:LA) (k1:Nat→Int→LA→LA→O R) (q2:Nat→LA→O R) (m:Nat) (i:Int) (l o:LA):O R :=
 (cond (decide (i≥0)) (G_ N (o.take (m*1)) m false true (o.take (m*1)) m false true (fun w x=>(lP N c b false d i (fun ad=>(cond (ad==1) (G_ N (x.take (w*1)) w false true [(.int .u32 1)] 1 false true (fun ae af=>(q2 ae af))) (q2 w x)))))) (Em N (l.take (b*1)) b false true (fun ag ah=>(Em N (o.take (m*1)) m false true (fun ai aj=>(r0 ag ai true ah aj))))))
def F8 (r0:Nat→Nat→Bool→LA→LA→O R) (c:LA) (b:Nat) (e d:Bool) (f:Nat) (g:LA):Nat→Nat→Int→LA→LA→O R
 | 0,_,_,_,_=>none
 | n+1,m,i,l,o=>(T4 N r0 c b e d f g (F8 r0 c b e d f g n) (fun p q=>(Nn N (F8 r0 c b e d f g n) r0 c b e d f i g l p q)) m i l o)
def EN (r0:Nat→Nat→Bool→LA→LA→O R) (c:LA) (b:Nat) (e d:Bool) (f:Nat) (g:LA) (q1:Nat→Int→LA→LA→O R):O R :=
 (cond ((decide (0≤((b:Nat):Int)))&&((decide (((b:Nat):Int)≤((b:Nat):Int)))&&((decide (((b:Nat):Int)≤140737488355328))&&(decide ((((b:Nat):Int)*((4:Nat):Int))≤140737488355328))))) (L_ N c b false d (fun ak=>(q1 0 (wrap .i64 (ak - 1)) (List.replicate b (.int .u32 0)) []))) none)
def Q3 (r0:Nat→Nat→Bool→LA→LA→O R) (c:LA) (b:Nat) (e d:Bool) (f:Nat) (g:LA):O R:=(EN N r0 c b e d f g (fun m i l o=>(F8 N r0 c b e d f g N m i l o)))
def HC (r0:Nat→Nat→Bool→LA→LA→O R) (q0:Nat→LA→O R) (c:LA) (b:Nat) (e d:Bool) (r:LA) (s:Nat) (u t:Bool):O R :=
 (Em N r s false t (fun f g=>(cond (((f:Nat):Int)==0) (r0 0 0 false [] []) (Se N c b false d (fun y al=>(Se N (g.take (f*1)) f false true (fun v am=>(cond (al==true) (cond (cond true am false) (cond (v==0) none (Gc N (wrap .u64 (Int.tdiv y v)) (fun an ao=>(cond (v==0) none (Gc N (Int.tmod y v) (fun ap aq=>(r0 an ap true ao aq))))))) (q0 f g)) (q0 f g)))))))))
def Sh:=(Ai (fun (N:Nat) (c:LA) (b:Nat) (e d:Bool) (r:LA) (s:Nat) (u t:Bool) (r0:Nat→Nat→Bool→LA→LA→O R)=>(HC N r0 (fun f g=>(Q3 N r0 c b e d f g)) c b e d r s u t))).1
theorem YS (c b e d r s u t r0):(@Sh R N c b e d r s u t r0)=(HC N r0 (fun f g=>(Q3 N r0 c b e d f g)) c b e d r s u t):=by rw[Sh,(Ai _).2]
def gA:Hints:={ H:=(hS hL (hS hL (hS hL (hS hL (hJ [0,1,5] hL (hS hL (hS (hS hL (hS (hP [0,1,4,5,11] (hS hL (hS (hS (hS hL (hJ [0,1,4,5,11] hL hL)) hL) hL))) hL)) hL))))))),nils:=[(4,1),(5,1)],modes:=[(2,1),(2,1),(0,0)] }
def lS:Gm:=[(150,Jh N),(89,Ab7 N),(88,GW N),(206,An4 N),(207,xZ N),(208,Atj N),(209,xo N)]
def JX (F:KF R):=Ki Tryz.f126 gA (lS N) [] N F
def F9 (F:KF R):Nat→Nat→Bool→LA→LA→O R:=(fun ar au av aw ax=>F (.tup [(.own 300000 0 ar),(.own 300001 0 au),(.bool av)]) (hq [(bQ 1 aw),(bQ 1 ax)]))
def Acb (c:LA) (b:Nat) (e d:Bool) (f:Nat) (i:Int) (g l:LA) (p:Nat) (q:LA):St:=⟨[(0,(.imm c b 1 e d)),(1,(.own 300000 0 f)),(4,(.own 300001 0 b)),(5,(.own 300002 0 p)),(11,(iv i))],(hq [(bQ 1 g),(bQ 1 l),(bQ 1 q)])⟩
def Acc (F:KF R) (Q1:St→O R):=JX N F [1,1,1,1,1,1,0,1,0,0,1,0,0,1,1] [Q1]
def gB (c:LA) (b:Nat) (e d:Bool) (f:Nat) (g:LA) (m:Nat) (i:Int) (l o:LA):St:=⟨[(0,(.imm c b 1 e d)),(1,(.own 300000 0 f)),(4,(.own 300001 0 b)),(5,(.own 300002 0 m)),(11,(iv i))],(hq [(bQ 1 g),(bQ 1 l),(bQ 1 o)])⟩
def gC (F:KF R):=JX N F [1,1,1,1,1,1,0,1,0] []
def Acd (c:LA) (b:Nat) (e d:Bool) (f:Nat) (g:LA):St:=⟨[(0,(.imm c b 1 e d)),(1,(.own 300000 0 f)),(5,(.own 300001 0 0))],(hq [(bQ 1 g),(bQ 1 [])])⟩
def Ace (F:KF R):=JX N F [1,1,1,1,1] []
theorem pn (Q1:St→O R) (F:KF R) (c:LA) (b:Nat) (e d:Bool) (f:Nat) (i:Int) (g l:LA):∀ (p:Nat) (q:LA),B8 (Acc N F Q1) (Acb c b e d f i g l p q)=(Nn N (fun m i l o=>Q1 (gB c b e d f g m i l o)) (F9 F) c b e d f i g l p q):=by
 intro p q
 kernel_rfl
theorem MA (F:KF R) (c:LA) (b:Nat) (e d:Bool) (f:Nat) (g:LA):∀ (n m:Nat) (i:Int) (l o:LA),Ak (gC N F) n (gB c b e d f g m i l o)=(F8 N (F9 F) c b e d f g n m i l o)
 | 0,_,_,_,_=>by kernel_rfl
 | n+1,m,i,l,o=>have e0:=(funext fun m=>funext fun i=>funext fun l=>funext fun o=>(MA F c b e d f g n m i l o))
  Eq.trans (by kernel_rfl) (PQ (T4 N (F9 F) c b e d f g · · m i l o) e0 (funext fun p=>funext fun q=>(A2 ..).trans ((pn N (Ak (gC N F) n) F c b e d f i g l p q).trans (Bv (Nn N · (F9 F) c b e d f i g l p q) e0))):_)
theorem po (F:KF R) (c:LA) (b:Nat) (e d:Bool) (f:Nat) (g:LA):B8 (Ace N F) (Acd c b e d f g)=(Q3 N (F9 F) c b e d f g):=by
 exact Eq.trans (by kernel_rfl) (Bv (EN N (F9 F) c b e d f g ·) (funext fun m=>funext fun i=>funext fun l=>funext fun o=>(Ac ..).trans (MA N F c b e d f g N m i l o)):_)
theorem gD (c:LA) (b:Nat) (e d:Bool) (r:LA) (s:Nat) (u t:Bool) (F:KF R):C7 (lS N) gA N 126 [(.imm c b 1 e d),(.imm r s 1 u t)] [] F=(Sh N c b e d r s u t (F9 F)):=by
 rw[YS]
 exact Eq.trans (by kernel_rfl) (Bv (HC N (F9 F) · c b e d r s u t) (funext fun f=>funext fun g=>(A2 ..).trans (po N F c b e d f g)):_)
def YT (a:LA) (h:Aj) (k:KF R):O R :=
 match a,h with
 | [(.imm c b 1 e d),(.imm r s 1 u t)],[]=>(Sh N c b e d r s u t (F9 k))
 | _,_=>none
theorem gE:An N 126 @YT:=by
 intro R Q a h k j;unfold YT;split;exact A3 (gD ..) (gD ..) ⟨Ji N,Ab8 N,GX N,An5 N,x8 N,Atk N,xp N,trivial⟩;exact A5
def gF:=A4 (gE N)
def gG:=C8 (gE N)
def S7 (r0:Nat→LA→O R) (k0:Nat→Nat→LA→LA→O R) (c b:Nat) (d e:LA):O R :=
 (cond (decide (((b:Nat):Int)>0)) (Sh N (d.take (c*1)) c false true (e.take (b*1)) b false true (fun z r aa ab s=>(k0 b r e s))) (r0 c d))
def E1 (r0:Nat→LA→O R):Nat→Nat→Nat→LA→LA→O R
 | 0,_,_,_,_=>none
 | n+1,c,b,d,e=>(S7 N r0 (E1 r0 n) c b d e)
def lT (r0:Nat→LA→O R) (q0:Nat→Nat→LA→LA→O R) (f:LA) (g:Nat) (p i:Bool) (l:LA) (m:Nat) (q o:Bool):O R :=
 (Em N f g false i (fun t u=>(Em N l m false o (fun v w=>(q0 t v u w)))))
def d5:=(Ai (fun (N:Nat) (f:LA) (g:Nat) (p i:Bool) (l:LA) (m:Nat) (q o:Bool) (r0:Nat→LA→O R)=>(lT N r0 (fun c b d e=>(E1 N r0 N c b d e)) f g p i l m q o))).1
theorem rp (f g p i l m q o r0):(@d5 R N f g p i l m q o r0)=(lT N r0 (fun c b d e=>(E1 N r0 N c b d e)) f g p i l m q o):=by rw[d5,(Ai _).2]
def xq:Hints:={ H:=(hS hL (hS hL (hS (hS (hP [0,1] hL) hL) hL))),nils:=[(4,1)],modes:=[(2,1)] }
def Af5:Gm:=[(150,Jh N),(126,gF N)]
def Atn (F:KF R):=Ki Tryz.f221 xq (Af5 N) [] N F
def EO (F:KF R):Nat→LA→O R:=(fun x y=>F (.own 300000 0 x) (hq [(bQ 1 y)]))
def Ato (c b:Nat) (d e:LA):St:=⟨[(0,(.own 300000 0 c)),(1,(.own 300001 0 b))],(hq [(bQ 1 d),(bQ 1 e)])⟩
def Atp (F:KF R):=Atn N F [1,1,0,0] []
theorem gH (F:KF R):∀ (n:Nat) (c b:Nat) (d e:LA),Ak (Atp N F) n (Ato c b d e)=(E1 N (EO F) n c b d e)
 | 0,_,_,_,_=>by kernel_rfl
 | n+1,c,b,d,e=>Eq.trans (by kernel_rfl) (Bv (S7 N (EO F) · c b d e) (funext fun c=>funext fun b=>funext fun d=>funext fun e=>(gH F n c b d e)):_)
theorem xr (f:LA) (g:Nat) (p i:Bool) (l:LA) (m:Nat) (q o:Bool) (F:KF R):C7 (Af5 N) xq N 221 [(.imm f g 1 p i),(.imm l m 1 q o)] [] F=(d5 N f g p i l m q o (EO F)):=by
 rw[rp]
 exact Eq.trans (by kernel_rfl) (Bv (lT N (EO F) · f g p i l m q o) (funext fun c=>funext fun b=>funext fun d=>funext fun e=>(Ac ..).trans (gH N F N c b d e)):_)
def rq (a:LA) (h:Aj) (k:KF R):O R :=
 match a,h with
 | [(.imm f g 1 p i),(.imm l m 1 q o)],[]=>(d5 N f g p i l m q o (EO k))
 | _,_=>none
theorem xt:An N 221 @rq:=by
 intro R Q a h k j;unfold rq;split;exact A3 (xr ..) (xr ..) ⟨Ji N,gG N,trivial⟩;exact A5
def Atq:=A4 (xt N)
def Atr:=C8 (xt N)
def xu (b:LA) (c:Bool) (d:LA) (e:Bool) (r0:LA→O R):O R :=
 (Bw 1 (b.drop 1) fun i l=>(Bw 1 (d.drop 1) fun m n=>(d5 N i l false c m n false e (fun g o=>(H7 N false (o.take (g*1)) g false true (fun f=>(cond ((Nat.beq 0 0)&&((Nat.beq (f.length) 2)&&(Nat.beq 2 2))) (cond (Nat.ble 2 (f.length)) (r0 (f.take 2)) none) none)))))))
def lU:=(Ai (@xu R)).1
theorem rs:@lU R=@xu R:=(Ai _).2
def Ayl:Gm:=[(221,Atq N),(83,Oq N)]
def xv (F:KF R):LA→O R:=(fun p=>F (.pagg p false) [])
theorem xw (b:LA) (c:Bool) (d:LA) (e:Bool) (F:KF R):C7 (Ayl N) f6 N 152 [(.pagg b c),(.pagg d e)] [] F=(lU N b c d e (xv F)):=by
 rw[rs]
 kernel_rfl
def rt (a:LA) (h:Aj) (k:KF R):O R :=
 match a,h with
 | [(.pagg b c),(.pagg d e)],[]=>(lU N b c d e (xv k))
 | _,_=>none
theorem xx:An N 152 @rt:=by
 intro R Q a h k j;unfold rt;split;exact A3 (xw ..) (xw ..) ⟨Atr N,Ot N,trivial⟩;exact A5
def Ats:=A4 (xx N)
def Att:=C8 (xx N)
def An6 (b:LA) (c:Bool) (r0:LA→O R):O R :=
 (Bw 1 (b.drop 1) fun e f=>(H7 N false e f false c (fun d=>(cond ((Nat.beq 0 0)&&((Nat.beq (d.length) 2)&&(Nat.beq 2 2))) (cond (Nat.ble 2 (d.length)) (r0 (d.take 2)) none) none))))
def v8:=(Ai (@An6 R)).1
theorem An7:@v8 R=@An6 R:=(Ai _).2
def Aym:Gm:=[(83,Oq N)]
def xy (F:KF R):LA→O R:=(fun g=>F (.pagg g false) [])
theorem xz (b:LA) (c:Bool) (F:KF R):C7 (Aym N) f6 N 140 [(.pagg b c)] [] F=(v8 N b c (xy F)):=by
 rw[An7]
 kernel_rfl
def rx (a:LA) (h:Aj) (k:KF R):O R :=
 match a,h with
 | [(.pagg b c)],[]=>(v8 N b c (xy k))
 | _,_=>none
theorem yA:An N 140 @rx:=by
 intro R Q a h k j;unfold rx;split;exact A3 (xz ..) (xz ..) ⟨Ot N,trivial⟩;exact A5
def Atu:=A4 (yA N)
def Atv:=C8 (yA N)
def An8 (b:LA) (d:Bool) (c:LA) (e:Bool) (r0:LA→O R):O R :=
 (XY b fun o=>(XY c fun p=>(cond (o==p) (XY b fun q=>(Bw 1 (b.drop 1) fun r s=>(Bw 1 (c.drop 1) fun t u=>(G_ N r s false d t u false e (fun l v=>(H7 N q (v.take (l*1)) l false true (fun f=>(cond ((Nat.beq 0 0)&&((Nat.beq (f.length) 2)&&(Nat.beq 2 2))) (cond (Nat.ble 2 (f.length)) (r0 (f.take 2)) none) none)))))))) (Bw 1 (b.drop 1) fun w x=>(Bw 1 (c.drop 1) fun y z=>(HB N w x false d y z false e (fun m aa ab=>(cond aa (XY b fun ac=>(H7 N ac (ab.take (m*1)) m false true (fun g=>(cond ((Nat.beq 0 0)&&((Nat.beq (g.length) 2)&&(Nat.beq 2 2))) (cond (Nat.ble 2 (g.length)) (r0 (g.take 2)) none) none)))) (Bw 1 (c.drop 1) fun ad ae=>(Bw 1 (b.drop 1) fun af ag=>(HB N ad ae false e af ag false d (fun n ak ah=>(XY c fun ai=>(H7 N ai (ah.take (n*1)) n false true (fun i=>(cond ((Nat.beq 0 0)&&((Nat.beq (i.length) 2)&&(Nat.beq 2 2))) (cond (Nat.ble 2 (i.length)) (r0 (i.take 2)) none) none))))))))))))))))
def d6:=(Ai (@An8 R)).1
theorem An9:@d6 R=@An8 R:=(Ai _).2
def Ayn:Gm:=[(207,xZ N),(83,Oq N),(209,xo N)]
def yB (F:KF R):LA→O R:=(fun aj=>F (.pagg aj false) [])
theorem yC (b:LA) (d:Bool) (c:LA) (e:Bool) (F:KF R):C7 (Ayn N) f6 N 139 [(.pagg b d),(.pagg c e)] [] F=(d6 N b d c e (yB F)):=by
 rw[An9]
 kernel_rfl
def ry (a:LA) (h:Aj) (k:KF R):O R :=
 match a,h with
 | [(.pagg b d),(.pagg c e)],[]=>(d6 N b d c e (yB k))
 | _,_=>none
theorem yD:An N 139 @ry:=by
 intro R Q a h k j;unfold ry;split;exact A3 (yC ..) (yC ..) ⟨x8 N,Ot N,xp N,trivial⟩;exact A5
def yE:=A4 (yD N)
def yF:=C8 (yD N)
def Aoa (b:LA) (c:Bool) (r0:LA→O R):O R :=
 (XY b fun e=>(Bw 1 (b.drop 1) fun f g=>(H7 N (!e) f g false c (fun d=>(cond ((Nat.beq 0 0)&&((Nat.beq (d.length) 2)&&(Nat.beq 2 2))) (cond (Nat.ble 2 (d.length)) (r0 (d.take 2)) none) none)))))
def d7:=(Ai (@Aoa R)).1
theorem Aob:@d7 R=@Aoa R:=(Ai _).2
def Ayo:Gm:=[(83,Oq N)]
def yG (F:KF R):LA→O R:=(fun i=>F (.pagg i false) [])
theorem yH (b:LA) (c:Bool) (F:KF R):C7 (Ayo N) f6 N 153 [(.pagg b c)] [] F=(d7 N b c (yG F)):=by
 rw[Aob]
 kernel_rfl
def rz (a:LA) (h:Aj) (k:KF R):O R :=
 match a,h with
 | [(.pagg b c)],[]=>(d7 N b c (yG k))
 | _,_=>none
theorem yI:An N 153 @rz:=by
 intro R Q a h k j;unfold rz;split;exact A3 (yH ..) (yH ..) ⟨Ot N,trivial⟩;exact A5
def yJ:=A4 (yI N)
def yK:=C8 (yI N)
def Aoc (b:LA) (d:Bool) (c:LA) (e:Bool) (r0:LA→O R):O R :=
 (cond (Nat.ble 2 (b.length)) (cond (Nat.ble 2 (c.length)) (d7 N (c.take 2) e (fun g=>(d6 N (b.take 2) d g false (fun f=>(cond ((Nat.beq 0 0)&&((Nat.beq (f.length) 2)&&(Nat.beq 2 2))) (cond (Nat.ble 2 (f.length)) (r0 (f.take 2)) none) none))))) none) none)
def v_:=(Ai (@Aoc R)).1
theorem Aod:@v_ R=@Aoc R:=(Ai _).2
def Ayp:Gm:=[(153,yJ N),(139,yE N)]
def yL (F:KF R):LA→O R:=(fun i=>F (.pagg i false) [])
theorem yM (b:LA) (d:Bool) (c:LA) (e:Bool) (F:KF R):C7 (Ayp N) f6 N 141 [(.pagg b d),(.pagg c e)] [] F=(v_ N b d c e (yL F)):=by
 rw[Aod]
 kernel_rfl
def sA (a:LA) (h:Aj) (k:KF R):O R :=
 match a,h with
 | [(.pagg b d),(.pagg c e)],[]=>(v_ N b d c e (yL k))
 | _,_=>none
theorem yN:An N 141 @sA:=by
 intro R Q a h k j;unfold sA;split;exact A3 (yM ..) (yM ..) ⟨yK N,yF N,trivial⟩;exact A5
def Atw:=A4 (yN N)
def Atx:=C8 (yN N)
end
end Gx

namespace Gx
open Go Go.Proofs
open IntKind (wrap)
set_option maxRecDepth 100000
noncomputable section
variable {R:Type} (N:Nat)
def YU (f:LA) (m:Bool) (e:LA) (l:Bool) (r0:LA→LA→Bool→O R):O R :=
 (Bw 1 (f.drop 1) fun p q=>(Bw 1 (e.drop 1) fun r s=>(Sh N p q false m r s false l (fun n o t u v=>(cond (!t) (r0 [(.bool false),.nsl] [(.bool false),.nsl] false) (XY f fun w=>(XY e fun x=>(H7 N (!(w==x)) (u.take (n*1)) n false true (fun b=>(XY f fun y=>(H7 N y (v.take (o*1)) o false true (fun c=>(cond ((Nat.beq 0 0)&&((Nat.beq (b.length) 2)&&(Nat.beq 2 2))) (cond ((Nat.beq 0 0)&&((Nat.beq (c.length) 2)&&(Nat.beq 2 2))) (XY c fun z=>(cond z (cond (Nat.ble 2 (c.length)) (cond (Nat.ble 2 (e.length)) (v8 N (e.take 2) l (fun aa=>(d6 N (c.take 2) false aa false (fun d=>(cond ((Nat.beq (d.length) 2)&&((Nat.ble 2 (c.length))&&(!false))) (XY e fun ab=>(cond ab (cond (Nat.ble 2 (b.length)) (Lq N 1 (fun ac=>(d6 N (b.take 2) false ac false (fun g=>(cond ((Nat.beq (g.length) 2)&&((Nat.ble 2 (b.length))&&(!false))) (cond (Nat.ble 2 ((setCells b 0 g).length)) (cond (Nat.ble 2 ((setCells c 0 d).length)) (cond ((Nat.beq (((setCells b 0 g).take 2).length) 2)&&((Nat.ble 2 ((setCells b 0 g).length))&&(!false))) (cond ((Nat.beq (((setCells c 0 d).take 2).length) 2)&&((Nat.ble 2 ((setCells c 0 d).length))&&(!false))) (cond (Nat.ble 2 ((setCells (setCells b 0 g) 0 ((setCells b 0 g).take 2)).length)) (cond (Nat.ble 2 ((setCells (setCells c 0 d) 0 ((setCells c 0 d).take 2)).length)) (r0 ((setCells (setCells b 0 g) 0 ((setCells b 0 g).take 2)).take 2) ((setCells (setCells c 0 d) 0 ((setCells c 0 d).take 2)).take 2) true) none) none) none) none) none) none) none))))) none) (cond (Nat.ble 2 (b.length)) (Lq N 1 (fun ad=>(v_ N (b.take 2) false ad false (fun i=>(cond ((Nat.beq (i.length) 2)&&((Nat.ble 2 (b.length))&&(!false))) (cond (Nat.ble 2 ((setCells b 0 i).length)) (cond (Nat.ble 2 ((setCells c 0 d).length)) (cond ((Nat.beq (((setCells b 0 i).take 2).length) 2)&&((Nat.ble 2 ((setCells b 0 i).length))&&(!false))) (cond ((Nat.beq (((setCells c 0 d).take 2).length) 2)&&((Nat.ble 2 ((setCells c 0 d).length))&&(!false))) (cond (Nat.ble 2 ((setCells (setCells b 0 i) 0 ((setCells b 0 i).take 2)).length)) (cond (Nat.ble 2 ((setCells (setCells c 0 d) 0 ((setCells c 0 d).take 2)).length)) (r0 ((setCells (setCells b 0 i) 0 ((setCells b 0 i).take 2)).take 2) ((setCells (setCells c 0 d) 0 ((setCells c 0 d).take 2)).take 2) true) none) none) none) none) none) none) none))))) none))) none))))) none) none) (cond (Nat.ble 2 (b.length)) (cond (Nat.ble 2 (c.length)) (cond ((Nat.beq ((b.take 2).length) 2)&&((Nat.ble 2 (b.length))&&(!false))) (cond ((Nat.beq ((c.take 2).length) 2)&&((Nat.ble 2 (c.length))&&(!false))) (cond (Nat.ble 2 ((setCells b 0 (b.take 2)).length)) (cond (Nat.ble 2 ((setCells c 0 (c.take 2)).length)) (r0 ((setCells b 0 (b.take 2)).take 2) ((setCells c 0 (c.take 2)).take 2) true) none) none) none) none) none) none))) none) none)))))))))))))
def Wc:=(Ai (@YU R)).1
theorem YV:@Wc R=@YU R:=(Ai _).2
def Ai3:Gm:=[(126,gF N),(83,Oq N),(140,Atu N),(139,yE N),(32,YI N),(141,Atw N)]
def gI (F:KF R):LA→LA→Bool→O R:=(fun ae af ag=>F (.tup [(.pagg ae false),(.pagg af false),(.bool ag)]) [])
theorem gJ (f:LA) (m:Bool) (e:LA) (l:Bool) (F:KF R):C7 (Ai3 N) A40 N 71 [(.pagg f m),(.pagg e l)] [] F=(Wc N f m e l (gI F)):=by
 rw[YV]
 kernel_rfl
def YW (a:LA) (h:Aj) (k:KF R):O R :=
 match a,h with
 | [(.pagg f m),(.pagg e l)],[]=>(Wc N f m e l (gI k))
 | _,_=>none
theorem gK:An N 71 @YW:=by
 intro R Q a h k j;unfold YW;split;exact A3 (gJ ..) (gJ ..) ⟨gG N,Ot N,Atv N,yF N,YJ N,Atx N,trivial⟩;exact A5
def Acf:=A4 (gK N)
def Acg:=C8 (gK N)
def HD (r0:LA→O R) (e:Bool) (c:LA) (d:Bool) (b:LA):O R :=
 (cond (Nat.ble 2 (c.length)) (cond (Nat.ble 2 (b.length)) (lU N (c.take 2) e (b.take 2) d (fun l=>(cond ((Nat.beq 0 0)&&((Nat.beq (l.length) 2)&&(Nat.beq 2 2))) (cond (Nat.ble 2 (c.length)) (cond (Nat.ble 2 (l.length)) (Wc N (c.take 2) e (l.take 2) false (fun f w af=>(cond ((Nat.beq 0 0)&&((Nat.beq (f.length) 2)&&(Nat.beq 2 2))) (cond ((Nat.beq 0 0)&&((Nat.beq (w.length) 2)&&(Nat.beq 2 2))) (cond (Nat.ble 2 (b.length)) (cond (Nat.ble 2 (l.length)) (Wc N (b.take 2) d (l.take 2) false (fun g x ag=>(cond ((Nat.beq 0 0)&&((Nat.beq (g.length) 2)&&(Nat.beq 2 2))) (cond ((Nat.beq 0 0)&&((Nat.beq (x.length) 2)&&(Nat.beq 2 2))) (XY g fun y=>(cond y (cond (Nat.ble 2 (f.length)) (d7 N (f.take 2) false (fun i=>(cond (Nat.ble 2 (g.length)) (d7 N (g.take 2) false (fun v=>(cond ((Nat.beq (i.length) 2)&&((Nat.ble 2 (f.length))&&(!false))) (cond ((Nat.beq (v.length) 2)&&((Nat.ble 2 (g.length))&&(!false))) (cond (Nat.ble 2 ((setCells f 0 i).length)) (Bw 1 ((setCells g 0 v).drop 1) fun o p=>(cond ((Nat.beq (((setCells f 0 i).take 2).length) 2)&&(Nat.ble 2 3)) (cond ((Nat.beq 1 1)&&(Nat.ble 3 ((setCells [(.bool false),.nsl,.nsl] 0 ((setCells f 0 i).take 2)).length))) (cond ((Nat.beq 0 0)&&((Nat.beq (((setCells [(.bool false),.nsl,.nsl] 0 ((setCells f 0 i).take 2)).set 2 (.imm o p 1 false false)).length) 3)&&(Nat.beq 3 3))) (cond (Nat.ble 3 (((setCells [(.bool false),.nsl,.nsl] 0 ((setCells f 0 i).take 2)).set 2 (.imm o p 1 false false)).length)) (r0 (((setCells [(.bool false),.nsl,.nsl] 0 ((setCells f 0 i).take 2)).set 2 (.imm o p 1 false false)).take 3)) none) none) none) none)) none) none) none))) none))) none) (cond (Nat.ble 2 (f.length)) (Bw 1 (g.drop 1) fun q r=>(cond ((Nat.beq ((f.take 2).length) 2)&&(Nat.ble 2 3)) (cond ((Nat.beq 1 1)&&(Nat.ble 3 ((setCells [(.bool false),.nsl,.nsl] 0 (f.take 2)).length))) (cond ((Nat.beq 0 0)&&((Nat.beq (((setCells [(.bool false),.nsl,.nsl] 0 (f.take 2)).set 2 (.imm q r 1 false false)).length) 3)&&(Nat.beq 3 3))) (cond (Nat.ble 3 (((setCells [(.bool false),.nsl,.nsl] 0 (f.take 2)).set 2 (.imm q r 1 false false)).length)) (r0 (((setCells [(.bool false),.nsl,.nsl] 0 (f.take 2)).set 2 (.imm q r 1 false false)).take 3)) none) none) none) none)) none))) none) none))) none) none) none) none))) none) none) none))) none) none)
def d8 (r0:LA→O R) (q0:O R) (c:LA) (e:Bool) (b:LA) (d:Bool):O R :=
 (cond (Nat.ble 2 (b.length)) (YK N (b.take 2) d (fun z=>(cond (z==0) (Yj N (fun s=>(cond ((Nat.beq 0 0)&&((Nat.beq (s.length) 3)&&(Nat.beq 3 3))) (cond (Nat.ble 3 (s.length)) (r0 (s.take 3)) none) none))) (cond (Nat.ble 2 (b.length)) (EK N (b.take 2) d (fun n=>(cond ((Nat.beq 0 0)&&((Nat.beq (n.length) 2)&&(Nat.beq 2 2))) (XY n fun aa=>(cond ((!aa)==true) (Bw 1 (n.drop 1) fun ab ac=>(DJ N ab ac false false [(.int .u32 1)] 1 false true (fun ad=>(cond (cond true ad false) (cond (Nat.ble 2 (c.length)) (EK N (c.take 2) e (fun m=>(Bw 1 (n.drop 1) fun t u=>(cond ((Nat.beq (m.length) 2)&&(Nat.ble 2 3)) (cond ((Nat.beq 1 1)&&(Nat.ble 3 ((setCells [(.bool false),.nsl,.nsl] 0 m).length))) (cond ((Nat.beq 0 0)&&((Nat.beq (((setCells [(.bool false),.nsl,.nsl] 0 m).set 2 (.imm t u 1 false false)).length) 3)&&(Nat.beq 3 3))) (cond (Nat.ble 3 (((setCells [(.bool false),.nsl,.nsl] 0 m).set 2 (.imm t u 1 false false)).length)) (r0 (((setCells [(.bool false),.nsl,.nsl] 0 m).set 2 (.imm t u 1 false false)).take 3)) none) none) none) none)))) none) q0)))) q0)) none))) none)))) none)
def EP:=(Ai (fun (N:Nat) (c:LA) (e:Bool) (b:LA) (d:Bool) (r0:LA→O R)=>(d8 N r0 (HD N r0 e c d b) c e b d))).1
theorem lV (c e b d r0):(@EP R N c e b d r0)=(d8 N r0 (HD N r0 e c d b) c e b d):=by rw[EP,(Ai _).2]
def sB:Hints:={ H:=(hS hL (hS hL (hJ [2,3,4] hL hL))),modes:=[(3,0)] }
def yO:Gm:=[(138,Anz N),(151,YL N),(26,rZ N),(65,Ai1 N),(152,Ats N),(71,Acf N),(153,yJ N)]
def Aoe (F:KF R):=Ki Tryz.f84 sB (yO N) [] N F
def HE (F:KF R):LA→O R:=(fun ae=>F (.pagg ae false) [])
def Aof (e:Bool) (c:LA) (d:Bool) (b:LA):St:=⟨[(2,(op 0)),(3,(op 1)),(4,(op 2))],(hq [(bP e 0 c),(bP d 0 b),(bN 0 [(.bool false),.nsl,.nsl])])⟩
def Aog (F:KF R):=Aoe N F [1,1,1] []
theorem yP (F:KF R) (e:Bool) (c:LA) (d:Bool) (b:LA):B8 (Aog N F) (Aof e c d b)=(HD N (HE F) e c d b):=by
 kernel_rfl
theorem sC (c:LA) (e:Bool) (b:LA) (d:Bool) (F:KF R):C7 (yO N) sB N 84 [(.pagg c e),(.pagg b d)] [] F=(EP N c e b d (HE F)):=by
 rw[lV]
 exact Eq.trans (by kernel_rfl) (Bv (d8 N (HE F) · c e b d) ((A2 ..).trans (yP N F e c d b)):_)
def lW (a:LA) (h:Aj) (k:KF R):O R :=
 match a,h with
 | [(.pagg c e),(.pagg b d)],[]=>(EP N c e b d (HE k))
 | _,_=>none
theorem sD:An N 84 @lW:=by
 intro R Q a h k j;unfold lW;split;exact A3 (sC ..) (sC ..) ⟨An0 N,YM N,r5 N,Ai2 N,Att N,Acg N,yK N,trivial⟩;exact A5
def Aoh:=A4 (sD N)
def Aoi:=C8 (sD N)
def Ov (N:Nat) (r0:Int→Bool→O R) (d:Int) (c:Bool) (b:LA) (e:Bool):O R :=
 (cond e (r0 (wrap .i64 (wrap .u64 ((0:Int) - d))) true) (XY b fun f=>(cond ((!f)==true) (cond (cond true (decide (d<9223372036854775808)) false) (r0 (wrap .i64 d) true) (r0 0 false)) (r0 0 false))))
def MB (r0:Int→Bool→O R) (q0:Int→Bool→O R) (b:LA) (c:Bool):O R :=
 (Bw 1 (b.drop 1) fun g i=>(DI N g i false c (fun d l=>(cond (!l) (r0 0 false) (XY b fun m=>(cond (m==true) (q0 d (cond true (decide (d≤9223372036854775808)) false)) (q0 d false)))))))
def Yl:=(Ai (fun (N:Nat) (b:LA) (c:Bool) (r0:Int→Bool→O R)=>(MB N r0 (fun d e=>(Ov N r0 d c b e)) b c))).1
theorem QC (b c r0):(@Yl R N b c r0)=(MB N r0 (fun d e=>(Ov N r0 d c b e)) b c):=by rw[Yl,(Ai _).2]
def sE:Hints:={ H:=(hS hL (hS hL (hS (hS (hS hL (hS hL (hJ [1,4,15] hL hL))) hL) hL))) }
def yQ:Gm:=[(210,Aiw N)]
def Aoj (F:KF R):=Ki Tryz.f201 sE (yQ N) [] N F
def HF (F:KF R):Int→Bool→O R:=(fun n o=>F (.tup [(iv n),(.bool o)]) [])
def Aok (d:Int) (c:Bool) (b:LA) (e:Bool):St:=⟨[(1,(op 0)),(4,(.int .u64 d)),(15,(.bool e))],(hq [(bP c 0 b)])⟩
def Aol (F:KF R):=Aoj N F [1,1,0,0,1,1,1] []
theorem yR (F:KF R) (d:Int) (c:Bool) (b:LA):∀ (e:Bool),B8 (Aol N F) (Aok d c b e)=(Ov N (HF F) d c b e):=by
 intro e
 kernel_rfl
theorem sF (b:LA) (c:Bool) (F:KF R):C7 (yQ N) sE N 201 [(.pagg b c)] [] F=(Yl N b c (HF F)):=by
 rw[QC]
 exact Eq.trans (by kernel_rfl) (Bv (MB N (HF F) · b c) (funext fun d=>funext fun e=>(A2 ..).trans (yR N F d c b e)):_)
def lX (a:LA) (h:Aj) (k:KF R):O R :=
 match a,h with
 | [(.pagg b c)],[]=>(Yl N b c (HF k))
 | _,_=>none
theorem sG:An N 201 @lX:=by
 intro R Q a h k j;unfold lX;split;exact A3 (sF ..) (sF ..) ⟨Aix N,trivial⟩;exact A5
def Aom:=A4 (sG N)
def Aon:=C8 (sG N)
def QD (b:Int) (r0:LA→O R):O R :=
 (Lq N b (fun d=>(Lq N 1 (fun e=>(EP N d false e false (fun c=>(cond ((Nat.beq 0 0)&&((Nat.beq (c.length) 3)&&(Nat.beq 3 3))) (cond (Nat.ble 3 (c.length)) (r0 (c.take 3)) none) none)))))))
def Ym:=(Ai (@QD R)).1
theorem SZ:@Ym R=@QD R:=(Ai _).2
def Ach:Gm:=[(32,YI N),(84,Aoh N)]
def YX (F:KF R):LA→O R:=(fun f=>F (.pagg f false) [])
theorem YY (b:Int) (F:KF R):C7 (Ach N) f6 N 94 [(iv b)] [] F=(Ym N b (YX F)):=by
 rw[SZ]
 kernel_rfl
def S_ (a:LA) (h:Aj) (k:KF R):O R :=
 match a,h with
 | [(.int .i64 b)],[]=>(Ym N b (YX k))
 | _,_=>none
theorem YZ:An N 94 @S_:=by
 intro R Q a h k j;unfold S_;split;exact A3 (YY ..) (YY ..) ⟨YJ N,Aoi N,trivial⟩;exact A5
def yS:=A4 (YZ N)
def yT:=C8 (YZ N)
end
end Gx

namespace Go.Proofs
open Go.Shelf Go.RowKit
open Go.RowKit
def Tryz.laysC172_ren : Go.Shelf.Ren := ⟨fun | 172 => 147 | 244 => 219 | 245 => 220 | 247 => 279 | 279 => 280 | 280 => 281 | 281 => 282 | 282 => 283 | 287 => 300 | 316 => 301 | 171 => 114 | 205 => 302 | 321 => 315 | 322 => 316 | 243 => 192 | 246 => 257 | 283 => 293 | 284 => 294 | 285 => 295 | 286 => 296 | 129 => 310 | 317 => 309 | 318 => 311 | 319 => 312 | 320 => 313 | 337 => 318 | 338 => 319 | n => n, fun | 9 => 9 | 3 => 3 | 75 => 175 | 76 => 176 | 4 => 4 | 5 => 5 | 167 => 308 | 37 => 56 | 0 => 0 | 85 => 309 | 2 => 2 | 168 => 311 | 53 => 114 | 175 => 322 | 46 => 204 | 210 => 326 | 127 => 246 | 145 => 340 | 143 => 338 | 21 => 21 | 171 => 315 | 173 => 318 | 212 => 333 | 51 => 97 | 20 => 20 | 213 => 334 | 232 => 345 | 233 => 346 | 80 => 181 | n => n, fun | 15 => 1 | 16 => 2 | 17 => 3 | 18 => 6 | 19 => 7 | n => n⟩
theorem Tryz.laysC172 : Go.Proofs.LaysC.n172 Tryz.prog Tryz.laysC172_ren := {
  mixed := by kernel_rfl
  f129 := Tryz.func310.trans (congrArg some (by kernel_rfl))
  f171 := Tryz.func114.trans (congrArg some (by kernel_rfl))
  f172 := Tryz.func147.trans (congrArg some (by kernel_rfl))
  f205 := Tryz.func302.trans (congrArg some (by kernel_rfl))
  f243 := Tryz.func192.trans (congrArg some (by kernel_rfl))
  f244 := Tryz.func219.trans (congrArg some (by kernel_rfl))
  f245 := Tryz.func220.trans (congrArg some (by kernel_rfl))
  f246 := Tryz.func257.trans (congrArg some (by kernel_rfl))
  f247 := Tryz.func279.trans (congrArg some (by kernel_rfl))
  f279 := Tryz.func280.trans (congrArg some (by kernel_rfl))
  f280 := Tryz.func281.trans (congrArg some (by kernel_rfl))
  f281 := Tryz.func282.trans (congrArg some (by kernel_rfl))
  f282 := Tryz.func283.trans (congrArg some (by kernel_rfl))
  f283 := Tryz.func293.trans (congrArg some (by kernel_rfl))
  f284 := Tryz.func294.trans (congrArg some (by kernel_rfl))
  f285 := Tryz.func295.trans (congrArg some (by kernel_rfl))
  f286 := Tryz.func296.trans (congrArg some (by kernel_rfl))
  f287 := Tryz.func300.trans (congrArg some (by kernel_rfl))
  f316 := Tryz.func301.trans (congrArg some (by kernel_rfl))
  f317 := Tryz.func309.trans (congrArg some (by kernel_rfl))
  f318 := Tryz.func311.trans (congrArg some (by kernel_rfl))
  f319 := Tryz.func312.trans (congrArg some (by kernel_rfl))
  f320 := Tryz.func313.trans (congrArg some (by kernel_rfl))
  f321 := Tryz.func315.trans (congrArg some (by kernel_rfl))
  f322 := Tryz.func316.trans (congrArg some (by kernel_rfl))
  f337 := Tryz.func318.trans (congrArg some (by kernel_rfl))
  f338 := Tryz.func319.trans (congrArg some (by kernel_rfl))
  t0 := Tryz.underlying0
  a0 := Tryz.isAgg0
  z0 := Tryz.sizeOf0
  v0 := Tryz.zeroValue0
  t2 := Tryz.underlying2
  a2 := Tryz.isAgg2
  z2 := Tryz.sizeOf2
  v2 := Tryz.zeroValue2
  t3 := Tryz.underlying3
  a3 := Tryz.isAgg3
  z3 := Tryz.sizeOf3
  v3 := Tryz.zeroValue3
  t4 := Tryz.underlying4
  a4 := Tryz.isAgg4
  z4 := Tryz.sizeOf4
  v4 := Tryz.zeroValue4
  t5 := Tryz.underlying5
  a5 := Tryz.isAgg5
  z5 := Tryz.sizeOf5
  v5 := Tryz.zeroValue5
  t9 := Tryz.underlying9
  a9 := Tryz.isAgg9
  z9 := Tryz.sizeOf9
  v9 := Tryz.zeroValue9
  t20 := Tryz.underlying20
  a20 := Tryz.isAgg20
  z20 := Tryz.sizeOf20
  v20 := Tryz.zeroValue20
  t21 := Tryz.underlying21
  a21 := Tryz.isAgg21
  z21 := Tryz.sizeOf21
  v21 := Tryz.zeroValue21
  t37 := Tryz.underlying56
  a37 := Tryz.isAgg56
  z37 := Tryz.sizeOf56
  v37 := Tryz.zeroValue56
  t46 := Tryz.underlying204
  a46 := Tryz.isAgg204
  z46 := Tryz.sizeOf204
  v46 := Tryz.zeroValue204
  t51 := Tryz.underlying97
  a51 := Tryz.isAgg97
  z51 := Tryz.sizeOf97
  v51 := Tryz.zeroValue97
  t53 := Tryz.underlying114
  a53 := Tryz.isAgg114
  z53 := Tryz.sizeOf114
  v53 := Tryz.zeroValue114
  t75 := Tryz.underlying175
  a75 := Tryz.isAgg175
  z75 := Tryz.sizeOf175
  v75 := Tryz.zeroValue175
  t76 := Tryz.underlying176
  a76 := Tryz.isAgg176
  z76 := Tryz.sizeOf176
  v76 := Tryz.zeroValue176
  t85 := Tryz.underlying309
  a85 := Tryz.isAgg309
  z85 := Tryz.sizeOf309
  v85 := Tryz.zeroValue309
  t127 := Tryz.underlying246
  a127 := Tryz.isAgg246
  z127 := Tryz.sizeOf246
  v127 := Tryz.zeroValue246
  t143 := Tryz.underlying338
  a143 := Tryz.isAgg338
  z143 := Tryz.sizeOf338
  v143 := Tryz.zeroValue338
  t145 := Tryz.underlying340
  a145 := Tryz.isAgg340
  z145 := Tryz.sizeOf340
  v145 := Tryz.zeroValue340
  t167 := Tryz.underlying308
  a167 := Tryz.isAgg308
  z167 := Tryz.sizeOf308
  v167 := Tryz.zeroValue308
  t168 := Tryz.underlying311
  a168 := Tryz.isAgg311
  z168 := Tryz.sizeOf311
  v168 := Tryz.zeroValue311
  t171 := Tryz.underlying315
  a171 := Tryz.isAgg315
  z171 := Tryz.sizeOf315
  v171 := Tryz.zeroValue315
  t173 := Tryz.underlying318
  a173 := Tryz.isAgg318
  z173 := Tryz.sizeOf318
  v173 := Tryz.zeroValue318
  t175 := Tryz.underlying322
  a175 := Tryz.isAgg322
  z175 := Tryz.sizeOf322
  v175 := Tryz.zeroValue322
  t210 := Tryz.underlying326
  a210 := Tryz.isAgg326
  z210 := Tryz.sizeOf326
  v210 := Tryz.zeroValue326
  t212 := Tryz.underlying333
  a212 := Tryz.isAgg333
  z212 := Tryz.sizeOf333
  v212 := Tryz.zeroValue333
  t213 := Tryz.underlying334
  a213 := Tryz.isAgg334
  z213 := Tryz.sizeOf334
  t232 := Tryz.underlying345
  a232 := Tryz.isAgg345
  z232 := Tryz.sizeOf345
  v232 := Tryz.zeroValue345
  t233 := Tryz.underlying346
  a233 := Tryz.isAgg346
  z233 := Tryz.sizeOf346
  v233 := Tryz.zeroValue346
  g15 := by kernel_rfl
  g16 := by kernel_rfl
  g17 := by kernel_rfl
  g18 := by kernel_rfl
  g19 := by kernel_rfl
  t80 := Tryz.underlying181
  a80 := Tryz.isAgg181
  z80 := Tryz.sizeOf181
  v80 := Tryz.zeroValue181
  i0 := by kernel_rfl
  i2 := by kernel_rfl
  i3 := by kernel_rfl
  i4 := by kernel_rfl
  i5 := by kernel_rfl
  i9 := by kernel_rfl
  i20 := by kernel_rfl
  i21 := by kernel_rfl
  i37 := by kernel_rfl
  i46 := by kernel_rfl
  i51 := by kernel_rfl
  i53 := by kernel_rfl
  i75 := by kernel_rfl
  i76 := by kernel_rfl
  i80 := by kernel_rfl
  i85 := by kernel_rfl
  i127 := by kernel_rfl
  i143 := by kernel_rfl
  i145 := by kernel_rfl
  i167 := by kernel_rfl
  i168 := by kernel_rfl
  i171 := by kernel_rfl
  i173 := by kernel_rfl
  i175 := by kernel_rfl
  i210 := by kernel_rfl
  i212 := by kernel_rfl
  i232 := by kernel_rfl
  i233 := by kernel_rfl
  m15 := by kernel_rfl
  m16 := by kernel_rfl
  m17 := by kernel_rfl
  m18 := by kernel_rfl
  m19 := by kernel_rfl
  c0 := by kernel_rfl
  c2 := by kernel_rfl
  c3 := by kernel_rfl
  c4 := by kernel_rfl
  c5 := by kernel_rfl
  c9 := by kernel_rfl
  c20 := by kernel_rfl
  c21 := by kernel_rfl
  c37 := by kernel_rfl
  c46 := by kernel_rfl
  c51 := by kernel_rfl
  c53 := by kernel_rfl
  c75 := by kernel_rfl
  c76 := by kernel_rfl
  c80 := by kernel_rfl
  c85 := by kernel_rfl
  c127 := by kernel_rfl
  c143 := by kernel_rfl
  c145 := by kernel_rfl
  c167 := by kernel_rfl
  c168 := by kernel_rfl
  c171 := by kernel_rfl
  c173 := by kernel_rfl
  c175 := by kernel_rfl
  c210 := by kernel_rfl
  c212 := by kernel_rfl
  c213 := by kernel_rfl
  c232 := by kernel_rfl
  c233 := by kernel_rfl }
def Tryz.lays145_ren : Go.Shelf.Ren := ⟨fun | 145 => 105 | 220 => 179 | 219 => 252 | 217 => 286 | 225 => 287 | 224 => 288 | 267 => 289 | 266 => 304 | 314 => 305 | n => n, fun | 9 => 9 | 4 => 4 | 59 => 106 | 3 => 3 | 5 => 5 | 46 => 204 | 146 => 296 | 51 => 97 | n => n, fun | 1 => 0 | n => n⟩
theorem Tryz.lays145 : Go.Proofs.Lays.n145 Tryz.prog Tryz.lays145_ren := {
  mixed := by kernel_rfl
  f145 := Tryz.func105.trans (congrArg some (by kernel_rfl))
  f217 := Tryz.func286.trans (congrArg some (by kernel_rfl))
  f219 := Tryz.func252.trans (congrArg some (by kernel_rfl))
  f220 := Tryz.func179.trans (congrArg some (by kernel_rfl))
  f224 := Tryz.func288.trans (congrArg some (by kernel_rfl))
  f225 := Tryz.func287.trans (congrArg some (by kernel_rfl))
  f266 := Tryz.func304.trans (congrArg some (by kernel_rfl))
  f267 := Tryz.func289.trans (congrArg some (by kernel_rfl))
  f314 := Tryz.func305.trans (congrArg some (by kernel_rfl))
  t3 := Tryz.underlying3
  a3 := Tryz.isAgg3
  z3 := Tryz.sizeOf3
  v3 := Tryz.zeroValue3
  t4 := Tryz.underlying4
  a4 := Tryz.isAgg4
  z4 := Tryz.sizeOf4
  v4 := Tryz.zeroValue4
  t5 := Tryz.underlying5
  a5 := Tryz.isAgg5
  z5 := Tryz.sizeOf5
  v5 := Tryz.zeroValue5
  t9 := Tryz.underlying9
  a9 := Tryz.isAgg9
  z9 := Tryz.sizeOf9
  v9 := Tryz.zeroValue9
  t46 := Tryz.underlying204
  a46 := Tryz.isAgg204
  z46 := Tryz.sizeOf204
  v46 := Tryz.zeroValue204
  t51 := Tryz.underlying97
  a51 := Tryz.isAgg97
  z51 := Tryz.sizeOf97
  v51 := Tryz.zeroValue97
  t59 := Tryz.underlying106
  a59 := Tryz.isAgg106
  z59 := Tryz.sizeOf106
  v59 := Tryz.zeroValue106
  t146 := Tryz.underlying296
  a146 := Tryz.isAgg296
  z146 := Tryz.sizeOf296
  v146 := Tryz.zeroValue296
  g1 := by kernel_rfl }
def Tryz.lays146_ren : Go.Shelf.Ren := ⟨fun | 146 => 180 | 221 => 253 | 268 => 290 | 138 => 291 | 143 => 292 | 195 => 306 | 197 => 307 | 218 => 308 | 219 => 252 | 260 => 317 | 217 => 286 | 225 => 287 | 224 => 288 | 267 => 289 | 266 => 304 | 314 => 305 | n => n, fun | 9 => 9 | 31 => 117 | 3 => 3 | 4 => 4 | 0 => 0 | 105 => 330 | 21 => 21 | 5 => 5 | 46 => 204 | 119 => 341 | 139 => 344 | 138 => 343 | 146 => 296 | 51 => 97 | n => n, fun | 1 => 0 | 3 => 4 | 4 => 5 | n => n⟩
theorem Tryz.lays146 : Go.Proofs.Lays.n146 Tryz.prog Tryz.lays146_ren := {
  mixed := by kernel_rfl
  f138 := Tryz.func291.trans (congrArg some (by kernel_rfl))
  f143 := Tryz.func292.trans (congrArg some (by kernel_rfl))
  f146 := Tryz.func180.trans (congrArg some (by kernel_rfl))
  f195 := Tryz.func306.trans (congrArg some (by kernel_rfl))
  f197 := Tryz.func307.trans (congrArg some (by kernel_rfl))
  f217 := Tryz.func286.trans (congrArg some (by kernel_rfl))
  f218 := Tryz.func308.trans (congrArg some (by kernel_rfl))
  f219 := Tryz.func252.trans (congrArg some (by kernel_rfl))
  f221 := Tryz.func253.trans (congrArg some (by kernel_rfl))
  f224 := Tryz.func288.trans (congrArg some (by kernel_rfl))
  f225 := Tryz.func287.trans (congrArg some (by kernel_rfl))
  f260 := Tryz.func317.trans (congrArg some (by kernel_rfl))
  f266 := Tryz.func304.trans (congrArg some (by kernel_rfl))
  f267 := Tryz.func289.trans (congrArg some (by kernel_rfl))
  f268 := Tryz.func290.trans (congrArg some (by kernel_rfl))
  f314 := Tryz.func305.trans (congrArg some (by kernel_rfl))
  t0 := Tryz.underlying0
  a0 := Tryz.isAgg0
  z0 := Tryz.sizeOf0
  v0 := Tryz.zeroValue0
  t3 := Tryz.underlying3
  a3 := Tryz.isAgg3
  z3 := Tryz.sizeOf3
  v3 := Tryz.zeroValue3
  t4 := Tryz.underlying4
  a4 := Tryz.isAgg4
  z4 := Tryz.sizeOf4
  v4 := Tryz.zeroValue4
  t5 := Tryz.underlying5
  a5 := Tryz.isAgg5
  z5 := Tryz.sizeOf5
  v5 := Tryz.zeroValue5
  t9 := Tryz.underlying9
  a9 := Tryz.isAgg9
  z9 := Tryz.sizeOf9
  v9 := Tryz.zeroValue9
  t21 := Tryz.underlying21
  a21 := Tryz.isAgg21
  z21 := Tryz.sizeOf21
  v21 := Tryz.zeroValue21
  t31 := Tryz.underlying117
  a31 := Tryz.isAgg117
  z31 := Tryz.sizeOf117
  v31 := Tryz.zeroValue117
  t46 := Tryz.underlying204
  a46 := Tryz.isAgg204
  z46 := Tryz.sizeOf204
  v46 := Tryz.zeroValue204
  t51 := Tryz.underlying97
  a51 := Tryz.isAgg97
  z51 := Tryz.sizeOf97
  v51 := Tryz.zeroValue97
  t105 := Tryz.underlying330
  a105 := Tryz.isAgg330
  z105 := Tryz.sizeOf330
  v105 := Tryz.zeroValue330
  t119 := Tryz.underlying341
  a119 := Tryz.isAgg341
  z119 := Tryz.sizeOf341
  t138 := Tryz.underlying343
  a138 := Tryz.isAgg343
  z138 := Tryz.sizeOf343
  v138 := Tryz.zeroValue343
  t139 := Tryz.underlying344
  a139 := Tryz.isAgg344
  z139 := Tryz.sizeOf344
  v139 := Tryz.zeroValue344
  t146 := Tryz.underlying296
  a146 := Tryz.isAgg296
  z146 := Tryz.sizeOf296
  v146 := Tryz.zeroValue296
  g1 := by kernel_rfl
  g3 := by kernel_rfl
  g4 := by kernel_rfl }
end Go.Proofs

namespace Gx
open Go Go.Proofs Go.RowKit
noncomputable section
variable {R:Type} (N:Nat)
def T5 (_N:Nat) (s t:List UInt8) (r0:List UInt8→List UInt8→Bool→O R):O R:=cond (Nat.ble s.length 4294967280) (r0 (Lib.cut s t).1 (Lib.cut s t).2.1 (Lib.cut s t).2.2) none
def strings_Cut:=(Ai (@T5 R)).1
theorem Rz:@strings_Cut R=@T5 R:=(Ai _).2
def R2 (a:LA) (h:Aj) (k:KF R):O R :=
 match a,h with
 | [.str s,.str t],[]=>strings_Cut N s t fun x y b=>k (.tup [.str x,.str y,.bool b]) []
 | _,_=>none
def EQ:Tw:=⟨fun {R} a h k=>@R2 R N a h k,fun {R} a h k=>by
 unfold R2
 split
 ·rw[Rz,Rz];unfold T5;cases Nat.ble _ 4294967280<;>rfl
 ·rfl⟩
def Q4 (_N:Nat) (s:List UInt8) (r0:Int→O R):O R:=cond (Nat.ble s.length 9223372036854775806) (match Lib.atoiAll s with | .ok v=>r0 v | _=>none) none
def BZ:=(Ai (@Q4 R)).1
theorem P9:@BZ R=@Q4 R:=(Ai _).2
def Qa (a:LA) (h:Aj) (k:KF R):O R :=
 match a,h with
 | [.str s],[]=>BZ N s fun x=>k (.tup [.int .i64 x,.undef]) []
 | _,_=>none
def TA:Tw:=⟨fun {R} a h k=>@Qa R N a h k,fun {R} a h k=>by
 unfold Qa
 split
 ·rw[P9,P9];unfold Q4;cases Nat.ble _ 9223372036854775806
  ·rfl
  ·cases Lib.atoiAll _<;>rfl
 ·rfl⟩
end
theorem Aoo (w:World) (n:Nat):Below w.heap.size w (w.drewN n):=⟨rfl,rfl,rfl,Nat.le_refl _,fun _ _=>rfl⟩
theorem Y_ (N:Nat):Asq Tryz.prog 105 (EQ N):=by
 intro b h d h' f
 have c:R2 N b h (fun v h'=>some (v,h'))=some (d,h'):=f
 unfold R2 at c
 split at c
 ·rename_i s t
  rw[Rz,T5] at c
  obtain⟨k,i⟩:=uc c
  simp at k i
  obtain⟨rfl,rfl⟩:=i
  refine Afa fun J β w vs G hr=>?_
  obtain⟨u,v,rfl,e1,j⟩:=Anl hr
  simp only[Rep] at e1 j;subst e1 j
  obtain⟨m,l⟩:=G.int (g:=0) (by decide)
  refine(Any.strings_Cut Tryz.lays145 ⟨⟨s⟩⟩ ⟨⟨t⟩⟩ m w (show s.length<4294967281 by omega) l).mono ?_
  rintro e w' ⟨rfl,n,rfl⟩
  refine⟨_,rfl,Aoo w n,fun J β w=>?_⟩
  rw[Rep]
  exact⟨_,rfl,by simp[Reps,Rep]⟩
 ·cases c
theorem strconv_Atoi_ok (N:Nat):Asq Tryz.prog 147 (TA N):=by
 intro b h f h' i
 have c:Qa N b h (fun v h'=>some (v,h'))=some (f,h'):=i
 unfold Qa at c
 split at c
 ·rename_i s
  rw[P9,Q4] at c
  obtain⟨j,d⟩:=uc c
  simp at j
  split at d
  ·rename_i v k
   simp at d
   obtain⟨rfl,rfl⟩:=d
   refine Afa fun J β w vs G hr=>?_
   obtain⟨u,rfl,e1⟩:=Ank hr
   rw[Rep] at e1;subst e1
   refine(Any.strconv_Atoi_ok Tryz.laysC172 ⟨⟨s⟩⟩ j v k w).mono ?_
   rintro e w' ⟨rfl,l⟩
   refine⟨_,rfl,?_,fun J β w=>by rw[Rep];exact⟨_,rfl,by rw[Reps];exact⟨_,_,rfl,by rw[Rep],by rw[Reps];exact⟨_,_,rfl,by rw[Rep];trivial,by rw[Reps]⟩⟩⟩⟩
   rcases l with rfl | ⟨t,rfl⟩
   ·exact Below.refl _ _
   ·exact Lib.bytesWorld_below _ _ _
  ·cases d
 ·cases c
end Gx

namespace Gx
open Go Go.Proofs
open IntKind (wrap)
set_option maxRecDepth 100000
noncomputable section
variable {R:Type} (N:Nat)
def Dj (N:Nat) (b c:List UInt8) (r0:Bool→O R):O R :=
 (cond ((decide ((((b.length):Nat):Int)≥(((c.length):Nat):Int)))==true) (cond ((decide ((0:Int)≤(0:Int)))&&((decide (0≤(((c.length):Nat):Int)))&&((decide ((((c.length):Nat):Int)≤(((b.length):Nat):Int)))&&(decide ((((b.length):Nat):Int)≤(((b.length):Nat):Int)))))) (r0 (cond true ((List.take (c.length) b)==c) false)) none) (r0 false))
def Dt:=(Ai (@Dj R)).1
theorem Eg:@Dt R=@Dj R:=(Ai _).2
def Iv (F:KF R):Bool→O R:=(fun d=>F (.bool d) [])
theorem Iw (b c:List UInt8) (F:KF R):C7 [] Dx N 270 [(.str b),(.str c)] [] F=(Dt N b c (Iv F)):=by
 rw[Eg]
 kernel_rfl
def H9 (a:LA) (h:Aj) (k:KF R):O R :=
 match a,h with
 | [(.str b),(.str c)],[]=>(Dt N b c (Iv k))
 | _,_=>none
theorem Ix:An N 270 @H9:=by
 intro R Q a h k j;unfold H9;split;exact A3 (Iw ..) (Iw ..) trivial;exact A5
def Tp:=A4 (Ix N)
def Tq:=C8 (Ix N)
def Dk (b c:List UInt8) (r0:List UInt8→Bool→O R):O R :=
 (Dt N b c (fun d=>(cond (!d) (r0 b false) (cond ((decide (0≤(((c.length):Nat):Int)))&&((decide ((((c.length):Nat):Int)≤(((b.length):Nat):Int)))&&((decide ((((b.length):Nat):Int)≤(((b.length):Nat):Int)))&&(decide ((((b.length):Nat):Int)≤(((b.length):Nat):Int)))))) (r0 (List.take ((b.length) - (c.length)) (List.drop (c.length) b)) true) none))))
def Du:=(Ai (@Dk R)).1
theorem Eh:@Du R=@Dk R:=(Ai _).2
def T6:Gm:=[(270,Tp N)]
def Iy (F:KF R):List UInt8→Bool→O R:=(fun e f=>F (.tup [(.str e),(.bool f)]) [])
theorem Iz (b c:List UInt8) (F:KF R):C7 (T6 N) Dx N 218 [(.str b),(.str c)] [] F=(Du N b c (Iy F)):=by
 rw[Eh]
 kernel_rfl
def Ia (a:LA) (h:Aj) (k:KF R):O R :=
 match a,h with
 | [(.str b),(.str c)],[]=>(Du N b c (Iy k))
 | _,_=>none
theorem I0:An N 218 @Ia:=by
 intro R Q a h k j;unfold Ia;split;exact A3 (Iz ..) (Iz ..) ⟨Tq N,trivial⟩;exact A5
def Tr:=A4 (I0 N)
def Ts:=C8 (I0 N)
def L4 (b c:List UInt8) (r0:List UInt8→Bool→O R):O R :=
 (Du N b c (fun d e=>(r0 d e)))
def E2:=(Ai (@L4 R)).1
theorem Nv:@E2 R=@L4 R:=(Ai _).2
def eh:Gm:=[(218,Tr N)]
def Yn (F:KF R):List UInt8→Bool→O R:=(fun f g=>F (.tup [(.str f),(.bool g)]) [])
theorem Yo (b c:List UInt8) (F:KF R):C7 (eh N) Dx N 145 [(.str b),(.str c)] [] F=(E2 N b c (Yn F)):=by
 rw[Nv]
 kernel_rfl
def Vg (a:LA) (h:Aj) (k:KF R):O R :=
 match a,h with
 | [(.str b),(.str c)],[]=>(E2 N b c (Yn k))
 | _,_=>none
theorem Yp:An N 145 @Vg:=by
 intro R Q a h k j;unfold Vg;split;exact A3 (Yo ..) (Yo ..) ⟨Ts N,trivial⟩;exact A5
def Yq:=A4 (Yp N)
def Yr:=C8 (Yp N)
def R3 (N:Nat) (r0:Bool→O R) (b:List UInt8) (k0:Int→O R) (c:Int):O R :=
 (cond (decide (c<(((b.length):Nat):Int))) (cond ((decide ((((K' b c).1:Nat):Int)<48))==false) (cond (cond false true (decide ((((K' b c).1:Nat):Int)>57))) (r0 false) (k0 (c+(((K' b c).2:Nat):Int)))) (r0 false)) (r0 (!(b==([]:List UInt8)))))
def Ib (r0:Bool→O R) (b:List UInt8):Nat→Int→O R
 | 0,_=>none
 | n+1,c=>(R3 N r0 b (Ib r0 b n) c)
def B_ (N:Nat) (r0:Bool→O R) (q0:Int→O R) (b:List UInt8):O R :=
 (q0 0)
def S8:=(Ai (fun (N:Nat) (b:List UInt8) (r0:Bool→O R)=>(B_ N r0 (fun c=>(Ib N r0 b N c)) b))).1
theorem TB (b r0):(@S8 R N b r0)=(B_ N r0 (fun c=>(Ib N r0 b N c)) b):=by rw[S8,(Ai _).2]
def Y':Hints:={ H:=(hS hL (hS (hS hL (hS (hP [0,6] hL) hL)) hL)) }
def yU (F:KF R):=Ki Tryz.f149 Y' [] [] N F
def Ow (F:KF R):Bool→O R:=(fun d=>F (.bool d) [])
def yV (b:List UInt8) (c:Int):St:=⟨[(0,(.str b)),(6,(.omap 300000))],(hq [⟨false,false,true,false,1,[(.str b),(iv c)],true,none⟩])⟩
def yW (F:KF R):=yU N F [1,0,1,0] []
theorem HG (F:KF R) (b:List UInt8):∀ (n:Nat) (c:Int),Ak (yW N F) n (yV b c)=(Ib N (Ow F) b n c)
 | 0,_=>by kernel_rfl
 | n+1,c=>Eq.trans (by kernel_rfl) (Bv (R3 N (Ow F) b · c) (funext fun c=>(HG F b n c)):_)
theorem ZA (b:List UInt8) (F:KF R):C7 [] Y' N 149 [(.str b)] [] F=(S8 N b (Ow F)):=by
 rw[TB]
 exact Eq.trans (by kernel_rfl) (Bv (B_ N (Ow F) · b) (funext fun c=>(Ac ..).trans (HG N F b N c)):_)
def TC (a:LA) (h:Aj) (k:KF R):O R :=
 match a,h with
 | [(.str b)],[]=>(S8 N b (Ow k))
 | _,_=>none
theorem ZB:An N 149 @TC:=by
 intro R Q a h k j;unfold TC;split;exact A3 (ZA ..) (ZA ..) trivial;exact A5
def yX:=A4 (ZB N)
def yY:=C8 (ZB N)
def ZC (b:List UInt8) (r0:Bool→O R):O R :=
 (S8 N b (fun c=>(cond (c==true) (cond ((b==([48]:List UInt8))==false) (cond (Ah 0 (b.length)) (r0 (cond true (cond false true (((UInt8.toNat (List.getD b 0 0):Nat):Int) != 48)) false)) none) (r0 true)) (r0 false))))
def ER:=(Ai (@ZC R)).1
theorem ZD:@ER R=@ZC R:=(Ai _).2
def Ai4:Gm:=[(149,yX N)]
def gL (F:KF R):Bool→O R:=(fun d=>F (.bool d) [])
theorem gM (b:List UInt8) (F:KF R):C7 (Ai4 N) Dx N 146 [(.str b)] [] F=(ER N b (gL F)):=by
 rw[ZD]
 kernel_rfl
def ZE (a:LA) (h:Aj) (k:KF R):O R :=
 match a,h with
 | [(.str b)],[]=>(ER N b (gL k))
 | _,_=>none
theorem gN:An N 146 @ZE:=by
 intro R Q a h k j;unfold ZE;split;exact A3 (gM ..) (gM ..) ⟨yY N,trivial⟩;exact A5
def Aci:=A4 (gN N)
def Acj:=C8 (gN N)
def QE (b:List UInt8) (r0:Bool→O R):O R :=
 (E2 N b ([45]:List UInt8) (fun c d=>(ER N c (fun e=>(cond (e==true) (cond (d==true) (r0 (cond true (!(cond true (c==([48]:List UInt8)) false)) false)) (r0 true)) (r0 false))))))
def Ys:=(Ai (@QE R)).1
theorem TD:@Ys R=@QE R:=(Ai _).2
def Ack:Gm:=[(145,Yq N),(146,Aci N)]
def ZF (F:KF R):Bool→O R:=(fun f=>F (.bool f) [])
theorem ZG (b:List UInt8) (F:KF R):C7 (Ack N) Dx N 78 [(.str b)] [] F=(Ys N b (ZF F)):=by
 rw[TD]
 kernel_rfl
def TE (a:LA) (h:Aj) (k:KF R):O R :=
 match a,h with
 | [(.str b)],[]=>(Ys N b (ZF k))
 | _,_=>none
theorem ZH:An N 78 @TE:=by
 intro R Q a h k j;unfold TE;split;exact A3 (ZG ..) (ZG ..) ⟨Yr N,Acj N,trivial⟩;exact A5
def yZ:=A4 (ZH N)
def y3:=C8 (ZH N)
def T7 (N:Nat) (r0:Bool→O R) (b:List UInt8) (k0:Int→Int→O R) (d c:Int):O R :=
 (cond (decide (c<(((b.length):Nat):Int))) (cond ((decide ((((K' b c).1:Nat):Int)≥48))==true) (cond (cond true (decide ((((K' b c).1:Nat):Int)≤57)) false) (k0 (wrap .i64 (d+1)) (c+(((K' b c).2:Nat):Int))) (k0 d (c+(((K' b c).2:Nat):Int)))) (k0 d (c+(((K' b c).2:Nat):Int)))) (r0 (decide (d>4096))))
def Kd (r0:Bool→O R) (b:List UInt8):Nat→Int→Int→O R
 | 0,_,_=>none
 | n+1,d,c=>(T7 N r0 b (Kd r0 b n) d c)
def HH (N:Nat) (r0:Bool→O R) (q0:Int→Int→O R) (b:List UInt8):O R :=
 (q0 0 0)
def Wd:=(Ai (fun (N:Nat) (b:List UInt8) (r0:Bool→O R)=>(HH N r0 (fun d c=>(Kd N r0 b N d c)) b))).1
theorem ZI (b r0):(@Wd R N b r0)=(HH N r0 (fun d c=>(Kd N r0 b N d c)) b):=by rw[Wd,(Ai _).2]
def gO:Hints:={ H:=(hS hL (hS hL (hS (hS hL (hS (hP [3,7] hL) hL)) hL))) }
def Acl (F:KF R):=Ki Tryz.f79 gO [] [] N F
def Q5 (F:KF R):Bool→O R:=(fun e=>F (.bool e) [])
def Acm (b:List UInt8) (d c:Int):St:=⟨[(3,(iv d)),(7,(.omap 300000))],(hq [⟨false,false,true,false,1,[(.str b),(iv c)],true,none⟩])⟩
def Acn (F:KF R):=Acl N F [1,1,0,1,0] []
theorem MC (F:KF R) (b:List UInt8):∀ (n:Nat) (d c:Int),Ak (Acn N F) n (Acm b d c)=(Kd N (Q5 F) b n d c)
 | 0,_,_=>by kernel_rfl
 | n+1,d,c=>Eq.trans (by kernel_rfl) (Bv (T7 N (Q5 F) b · d c) (funext fun d=>funext fun c=>(MC F b n d c)):_)
theorem gP (b:List UInt8) (F:KF R):C7 [] gO N 79 [(.str b)] [] F=(Wd N b (Q5 F)):=by
 rw[ZI]
 exact Eq.trans (by kernel_rfl) (Bv (HH N (Q5 F) · b) (funext fun d=>funext fun c=>(Ac ..).trans (MC N F b N d c)):_)
def ZJ (a:LA) (h:Aj) (k:KF R):O R :=
 match a,h with
 | [(.str b)],[]=>(Wd N b (Q5 k))
 | _,_=>none
theorem gQ:An N 79 @ZJ:=by
 intro R Q a h k j;unfold ZJ;split;exact A3 (gP ..) (gP ..) trivial;exact A5
def Aco:=A4 (gQ N)
def Acp:=C8 (gQ N)
def Qb (r0:Bool→Nat→LA→O R) (k0:Int→Bool→LA→Bool→Nat→LA→O R) (d:Int) (c:Bool) (b:LA) (f:Bool) (e:Nat) (g:LA):O R :=
 (cond (decide (d>0)) (cond ((Int.tmod d 2)==1) (cond (Nat.ble 2 (b.length)) (PY N [(.bool f),(.imm (g.take (e*1)) e 1 false true)] true (b.take 2) c (fun o p q=>(cond (decide (d>1)) (cond (Nat.ble 2 (b.length)) (cond (Nat.ble 2 (b.length)) (PY N (b.take 2) c (b.take 2) c (fun t r u=>(cond ((Nat.beq 2 2)&&((Nat.ble 2 (b.length))&&(!false))) (k0 (wrap .i64 (Int.tdiv d 2)) (c||false) (Cy b 0 [(.bool t),(.imm (u.take (r*1)) r 1 false false)]) o p q) none))) none) none) (k0 (wrap .i64 (Int.tdiv d 2)) c b o p q)))) none) (cond (decide (d>1)) (cond (Nat.ble 2 (b.length)) (cond (Nat.ble 2 (b.length)) (PY N (b.take 2) c (b.take 2) c (fun v s w=>(cond ((Nat.beq 2 2)&&((Nat.ble 2 (b.length))&&(!false))) (k0 (wrap .i64 (Int.tdiv d 2)) (c||false) (Cy b 0 [(.bool v),(.imm (w.take (s*1)) s 1 false false)]) f e g) none))) none) none) (k0 (wrap .i64 (Int.tdiv d 2)) c b f e g))) (r0 f e g))
def Jj (r0:Bool→Nat→LA→O R):Nat→Int→Bool→LA→Bool→Nat→LA→O R
 | 0,_,_,_,_,_,_=>none
 | n+1,d,c,b,f,e,g=>(Qb N r0 (Jj r0 n) d c b f e g)
def d9 (r0:Bool→Nat→LA→O R) (q0:Int→Bool→LA→Bool→Nat→LA→O R) (i:LA) (l:Bool) (m:Int):O R :=
 (L1 N 1 (fun x y z=>(q0 m l i x y z)))
def MD:=(Ai (fun (N:Nat) (i:LA) (l:Bool) (m:Int) (r0:Bool→Nat→LA→O R)=>(d9 N r0 (fun d c b f e g=>(Jj N r0 N d c b f e g)) i l m))).1
theorem lY (i l m r0):(@MD R N i l m r0)=(d9 N r0 (fun d c b f e g=>(Jj N r0 N d c b f e g)) i l m):=by rw[MD,(Ai _).2]
def sH:Hints:={ H:=(hS hL (hS hL (hS (hS (hP [1,2,4,5] hL) hL) hL))) }
def y5:Gm:=[(64,fe N),(68,Afo N)]
def Aop (F:KF R):=Ki Tryz.f69 sH (y5 N) [] N F
def Yt (F:KF R):Bool→Nat→LA→O R:=(fun aa ab ac=>F (.agg [(.bool aa),(.own 300000 0 ab)]) (hq [(bQ 1 ac)]))
def Aoq (d:Int) (c:Bool) (b:LA) (f:Bool) (e:Nat) (g:LA):St:=⟨[(1,(iv d)),(2,(op 0)),(4,(op 1)),(5,(op 2))],(hq [(bP c 0 b),(bN 0 [(.bool false),.nsl]),(bN 0 [(.bool f),(.own 300003 0 e)]),(bQ 1 g)])⟩
def Aor (F:KF R):=Aop N F [1,1,0,0] []
theorem ZK (F:KF R):∀ (n:Nat) (d:Int) (c:Bool) (b:LA) (f:Bool) (e:Nat) (g:LA),Ak (Aor N F) n (Aoq d c b f e g)=(Jj N (Yt F) n d c b f e g)
 | 0,_,_,_,_,_,_=>by kernel_rfl
 | n+1,d,c,b,f,e,g=>Eq.trans (by kernel_rfl) (Bv (Qb N (Yt F) · d c b f e g) (funext fun d=>funext fun c=>funext fun b=>funext fun f=>funext fun e=>funext fun g=>(ZK F n d c b f e g)):_)
theorem sI (i:LA) (l:Bool) (m:Int) (F:KF R):C7 (y5 N) sH N 69 [(.pagg i l),(iv m)] [] F=(MD N i l m (Yt F)):=by
 rw[lY]
 exact Eq.trans (by kernel_rfl) (Bv (d9 N (Yt F) · i l m) (funext fun d=>funext fun c=>funext fun b=>funext fun f=>funext fun e=>funext fun g=>(Ac ..).trans (ZK N F N d c b f e g)):_)
def lZ (a:LA) (h:Aj) (k:KF R):O R :=
 match a,h with
 | [(.pagg i l),(.int .i64 m)],[]=>(MD N i l m (Yt k))
 | _,_=>none
theorem sJ:An N 69 @lZ:=by
 intro R Q a h k j;unfold lZ;split;exact A3 (sI ..) (sI ..) ⟨ff N,Afp N,trivial⟩;exact A5
def Aos:=A4 (sJ N)
def Aot:=C8 (sJ N)
def T8 (k0:List UInt8→Bool→Nat→LA→O R) (r0:LA→O R) (c d:Bool) (b:Nat) (e:LA) (m:List UInt8) (o:Int) (q:Bool) (p:Nat) (r:LA):O R :=
 (cond ((decide ((0:Int)≤(0:Int)))&&((decide (0≤o))&&((decide (o≤(((m.length):Nat):Int)))&&(decide ((((m.length):Nat):Int)≤(((m.length):Nat):Int)))))) (BZ N (List.take (o.toNat) m) (fun x=>(PY N [(.bool q),(.imm (r.take (p*1)) p 1 false true)] true [(.bool d),(.imm (e.take (b*1)) b 1 false true)] true (fun y t z=>(L1 N x (fun aa u ab=>(xN N [(.bool y),(.imm (z.take (t*1)) t 1 false true)] true [(.bool aa),(.imm (ab.take (u*1)) u 1 false true)] true (fun ac ad ae=>(cond ((decide (0≤o))&&((decide (o≤(((m.length):Nat):Int)))&&((decide ((((m.length):Nat):Int)≤(((m.length):Nat):Int)))&&(decide ((((m.length):Nat):Int)≤(((m.length):Nat):Int)))))) (k0 (List.take ((m.length) - (o.toNat)) (List.drop (o.toNat) m)) ac ad ae) none))))))))) none)
def JY (r0:LA→O R) (c d:Bool) (b:Nat) (e:LA) (k0:List UInt8→Bool→Nat→LA→O R) (q1:List UInt8→Int→Bool→Nat→LA→O R) (g:List UInt8) (i:Bool) (f:Nat) (l:LA):O R :=
 (cond (!(g==([]:List UInt8))) (cond ((Int.tmod (((g.length):Nat):Int) 9)==0) (q1 g 9 i f l) (q1 g (Int.tmod (((g.length):Nat):Int) 9) i f l)) (cond c (xI N [(.bool i),(.imm (l.take (f*1)) f 1 false true)] true (fun af v ag=>(r0 [(.bool af),(.imm (ag.take (v*1)) v 1 false false)]))) (r0 [(.bool i),(.imm (l.take (f*1)) f 1 false false)])))
def Jk (r0:LA→O R) (c d:Bool) (b:Nat) (e:LA):Nat→List UInt8→Bool→Nat→LA→O R
 | 0,_,_,_,_=>none
 | n+1,g,i,f,l=>(JY N r0 c d b e (Jk r0 c d b e n) (fun m o q p r=>(T8 N (Jk r0 c d b e n) r0 c d b e m o q p r)) g i f l)
def QF (r0:LA→O R) (q0:Bool→Bool→Nat→LA→List UInt8→Bool→Nat→LA→O R) (s:List UInt8):O R :=
 (E2 N s ([45]:List UInt8) (fun ah c=>(L1 N 0 (fun ai aj ak=>(L1 N 10 (fun al w am=>(MD N [(.bool al),(.imm (am.take (w*1)) w 1 false true)] true 9 (fun d b e=>(q0 c d b e ah ai aj ak)))))))))
def DK:=(Ai (fun (N:Nat) (s:List UInt8) (r0:LA→O R)=>(QF N r0 (fun c d b e g i f l=>(Jk N r0 c d b e N g i f l)) s))).1
theorem gR (s r0):(@DK R N s r0)=(QF N r0 (fun c d b e g i f l=>(Jk N r0 c d b e N g i f l)) s):=by rw[DK,(Ai _).2]
def l7:Hints:={ H:=(hS hL (hS hL (hS hL (hS hL (hS (hS (hP [0,2,3,4,5] (hS hL (hS (hS hL (hJ [0,2,3,4,5,6] hL hL)) hL))) hL) hL))))),modes:=[(3,0)] }
def sK:Gm:=[(145,Yq N),(64,fe N),(69,Aos N),(148,Ax6 N),(147,TA N),(68,Afo N),(144,Ayj N)]
def l8 (F:KF R):=Ki Tryz.f80 l7 (sK N) [] N F
def L5 (F:KF R):LA→O R:=(fun an=>F (.pagg an false) [])
def Ai5 (c d:Bool) (b:Nat) (e:LA) (m:List UInt8) (o:Int) (q:Bool) (p:Nat) (r:LA):St:=⟨[(0,(.str m)),(2,(op 0)),(3,(.bool c)),(4,(op 1)),(5,(op 2)),(6,(iv o))],(hq [(bN 0 [(.bool false),.nsl]),(bN 0 [(.bool q),(.own 300003 0 p)]),(bN 0 [(.bool d),(.own 300004 0 b)]),(bQ 1 r),(bQ 1 e)])⟩
def Ai6 (F:KF R) (Q0:St→O R):=l8 N F [1,1,1,1,0,0,0,1,0,1,1] [Q0]
def l_ (c d:Bool) (b:Nat) (e:LA) (g:List UInt8) (i:Bool) (f:Nat) (l:LA):St:=⟨[(0,(.str g)),(2,(op 0)),(3,(.bool c)),(4,(op 1)),(5,(op 2))],(hq [(bN 0 [(.bool false),.nsl]),(bN 0 [(.bool i),(.own 300003 0 f)]),(bN 0 [(.bool d),(.own 300004 0 b)]),(bQ 1 l),(bQ 1 e)])⟩
def lc (F:KF R):=l8 N F [1,1,1,1,0,0] []
theorem uq (Q0:St→O R) (F:KF R) (c d:Bool) (b:Nat) (e:LA):∀ (m:List UInt8) (o:Int) (q:Bool) (p:Nat) (r:LA),B8 (Ai6 N F Q0) (Ai5 c d b e m o q p r)=(T8 N (fun g i f l=>Q0 (l_ c d b e g i f l)) (L5 F) c d b e m o q p r):=by
 intro m o q p r
 kernel_rfl
theorem TF (F:KF R) (c d:Bool) (b:Nat) (e:LA):∀ (n:Nat) (g:List UInt8) (i:Bool) (f:Nat) (l:LA),Ak (lc N F) n (l_ c d b e g i f l)=(Jk N (L5 F) c d b e n g i f l)
 | 0,_,_,_,_=>by kernel_rfl
 | n+1,g,i,f,l=>have e0:=(funext fun g=>funext fun i=>funext fun f=>funext fun l=>(TF F c d b e n g i f l))
  Eq.trans (by kernel_rfl) (PQ (JY N (L5 F) c d b e · · g i f l) e0 (funext fun m=>funext fun o=>funext fun q=>funext fun p=>funext fun r=>(A2 ..).trans ((uq N (Ak (lc N F) n) F c d b e m o q p r).trans (Bv (T8 N · (L5 F) c d b e m o q p r) e0))):_)
theorem ld (s:List UInt8) (F:KF R):C7 (sK N) l7 N 80 [(.str s)] [] F=(DK N s (L5 F)):=by
 rw[gR]
 exact Eq.trans (by kernel_rfl) (Bv (QF N (L5 F) · s) (funext fun c=>funext fun d=>funext fun b=>funext fun e=>funext fun g=>funext fun i=>funext fun f=>funext fun l=>(Ac ..).trans (TF N F c d b e N g i f l)):_)
def gS (a:LA) (h:Aj) (k:KF R):O R :=
 match a,h with
 | [(.str s)],[]=>(DK N s (L5 k))
 | _,_=>none
theorem lf:An N 80 @gS:=by
 intro R Q a h k j;unfold gS;split;exact A3 (ld ..) (ld ..) ⟨Yr N,ff N,Aot N,Ax7 N,strconv_Atoi_ok N,Afp N,Ayk N,trivial⟩;exact A5
def Ai7:=A4 (lf N)
def Ai8:=C8 (lf N)
end
end Gx

namespace Gx
open Go Go.Proofs
open IntKind (wrap)
set_option maxRecDepth 100000
noncomputable section
variable {R:Type} (N:Nat)
def B' (b:List UInt8) (r0:LA→Int→O R):O R :=
 (Ys N b (fun d=>(cond (!d) (r0 [(.bool false),.nsl] 2) (Wd N b (fun e=>(cond e (r0 [(.bool false),.nsl] 8) (DK N b (fun c=>(cond ((Nat.beq 0 0)&&((Nat.beq (c.length) 2)&&(Nat.beq 2 2))) (cond (Nat.ble 2 (c.length)) (r0 (c.take 2) 0) none) none)))))))))
def Ta:=(Ai (@B' R)).1
theorem Z5:@Ta R=@B' R:=(Ai _).2
def Acq:Gm:=[(78,yZ N),(79,Aco N),(80,Ai7 N)]
def ZL (F:KF R):LA→Int→O R:=(fun f g=>F (.tup [(.pagg f false),(iv g)]) [])
theorem ZM (b:List UInt8) (F:KF R):C7 (Acq N) A4z N 23 [(.str b)] [] F=(Ta N b (ZL F)):=by
 rw[Z5]
 kernel_rfl
def TG (a:LA) (h:Aj) (k:KF R):O R :=
 match a,h with
 | [(.str b)],[]=>(Ta N b (ZL k))
 | _,_=>none
theorem ZN:An N 23 @TG:=by
 intro R Q a h k j;unfold TG;split;exact A3 (ZM ..) (ZM ..) ⟨y3 N,Acp N,Ai8 N,trivial⟩;exact A5
def y7:=A4 (ZN N)
def y9:=C8 (ZN N)
end
end Gx
