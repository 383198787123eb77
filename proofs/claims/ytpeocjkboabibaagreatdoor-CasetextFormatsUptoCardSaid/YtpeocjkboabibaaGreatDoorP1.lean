/- A part of the proof; each theorem says what it holds. -/
import Derived.ProofKit
import Derived.OpenShut
import Derived.ChangeOld
import Derived.Below
import Derived.Lib.LaidTab
import Derived.Test.YtpeocjkboabibaaGreatDoorProg
import Derived.JoinedOf
import Derived.Test.YtpeocjkboabibaaGreatDoorCards
import Derived.Test.YtpeocjkboabibaaGreatDoorTie
import Derived.Deep.DeepHandedRow
import Derived.Deep.DeepWitnessRowRef
import Derived.LaidMore
import Derived.Shelf.Vars
import Derived.SevenTiedAt
import Derived.Lay
import Derived.IntWalk
import Derived.Lib.ItoaNum
import Derived.SizedLaws
import Derived.Test.YtpeocjkboabibaaGreatDoorP0
set_option linter.unusedVariables false
set_option linter.defProp false
set_option linter.unusedSimpArgs false
open Nat (ble beq)
open List (take drop replicate)
open Go.IntKind (wrap)
namespace Gx
open Go
structure Start where
 J:Bool→Nat→Prop
 β:Ch
 h:Aw
 w:World
structure Inv (Z:Start) (nt:Nat) (J:Bool→Nat→Prop) (β:Ch) (st:St) (a:Act) (w:World):Prop where
 sim:SimH J β st.h w
 ss:SimS J β st.h w st.s a.tmps
 tmps:a.tmps.size=nt
 defers:a.defers=[]
 os:w.os=Z.w.os
 tape:w.tape=Z.w.tape
 output:w.output=Z.w.output
 size:Z.w.heap.size≤w.heap.size
 frame:∀ k,k<Z.w.heap.size→¬ nT Z.β Z.h k→w.heap[k]?=Z.w.heap[k]?
 wr:∀ k,nT β st.h k→k<Z.w.heap.size→nT Z.β Z.h k
 jsub:∀ o k,Z.J o k→J o k
 jup:∀ o k,J o k→Z.J o k∨nT Z.β Z.h k∨Z.w.heap.size≤k
 sizes:∀ k,Ba Z.w k≤Ba w k
 zlt:∀ b x0,Al Z.h b=some x0→b<200000
 zge:∀ b x0,Al Z.h b=some x0→100000≤b
 outs:∀ b x0 x,Al Z.h b=some x0→Al st.h b=some x→x.dead=false→(β b=Z.β b∧x.mp=x0.mp)∧x.sz=x0.sz∧(x0.mp=false→x.cells.length=x0.cells.length)∧x0.dead=false
section
variable {R:Type} {r:R} {Z:Start} {nt:Nat} {J J':Bool→Nat→Prop} {β β':Ch} {st:St} {h':Aw} {a:Act} {w w':World} {ops:Array Oper} {o:Oper}
theorem Oh {s:Hf} {d:Option Nat} {v:AV} {i:Nat}:Gp (qV nt s d v) i=if d=some i∧i<nt then v else Gp s i:=by
 unfold qV
 cases d with
 | none=>simp
 | some d =>
  simp only[Af2]
  cases j:Nat.blt d nt with
  | true =>
   have f:d<nt:=by simpa using j
   simp only[cond_true]
   rw[Of]
   by_cases e:i=d
   ·subst e;simp[f]
   ·rw[if_neg e,if_neg (fun k=>e k.1.symm)]
  | false =>
   have f:¬ d<nt:=by intro l;rw[show Nat.blt d nt=true by simpa using l] at j;cases j
   simp only[cond_false]
   rw[if_neg (fun k=>by obtain⟨m,n⟩:=k;subst m;exact f n)]
theorem SimS.put {h:Aw} {s:Hf} {d:Option Nat} {v:AV} {vc:Value} (H:SimS J β h w s a.tmps) (hn:a.tmps.size=nt) (k:Rep J β h w v vc):SimS J β h w (qV nt s d v) (a.put d vc).tmps:=by
 refine⟨fun i u f=>?_,fun i hi=>?_⟩
 ·rw[Oh]
  cases d with
  | none=>simp;exact H.slot i u f
  | some d =>
   simp only[Act.put] at f
   rw[Ag3] at f
   by_cases e:d=i
   ·subst e
    simp only[if_true] at f
    by_cases j:d<a.tmps.size
    ·simp[j] at f;subst f
     rw[if_pos ⟨rfl,by omega⟩];exact k
    ·simp[j] at f
   ·rw[if_neg e] at f
    rw[if_neg (fun l=>e (by simpa using l.1))]
    exact H.slot i u f
 ·have hs:(a.put d vc).tmps.size=a.tmps.size:=by cases d<;>simp[Act.put]
  rw[hs] at hi
  rw[Oh,if_neg (by omega)]
  exact H.out i hi
theorem SimS.ext {h:Aw} {s:Hf} {t:Array Value} (E:Ext J β h w J' β' h' w') (H:SimS J β h w s t):SimS J' β' h' w' s t :=
 ⟨fun i v d=>Rep.ext E (H.slot i v d),H.out⟩
theorem Inv.step (I:Inv Z nt J β st a w) (A:Step J β st.h w J' β' h' w') (j:∀ b x,Al h' b=some x→Al st.h b=none→Hv≤b):Inv Z nt J' β' { s:=st.s,h:=h' } a w' where
 sim:=A.sim
 ss:=I.ss.ext A.ext
 tmps:=I.tmps
 defers:=I.defers
 os:=A.os.trans I.os
 tape:=A.tape.trans I.tape
 output:=A.output.trans I.output
 size:=Afi I.size A.size
 frame k d e:=(A.frame k (Afj d I.size) (fun n=>e (I.wr k n d))).trans (I.frame k d e)
 wr k e d:=I.wr k (A.wr k e (Afj d I.size)) d
 jsub o k q:=A.ext.jsub o k (I.jsub o k q)
 jup o k q:=by
  rcases A.jup o k q with l | l | l
  ·exact I.jup o k l
  ·by_cases d:k<Z.w.heap.size
   ·exact .inr (.inl (I.wr k l d))
   ·exact .inr (.inr (by omega))
  ·exact .inr (.inr (Afi I.size l))
 sizes k:=by
  refine Afi (I.sizes k) ?_
  by_cases e:∃ b o,β b=some (k,o)
  ·obtain⟨b,o,f⟩:=e;exact A.ext.size b k o f
  ·by_cases d:k<w.heap.size
   ·have:=A.frame k d (fun ⟨b,x,o,_,_,_,f⟩=>e ⟨b,o,f⟩)
    simp[Ba,this]
   ·simp[Ba,Aff (Ags d)]
 outs b x0 x u hx v:=by
  cases f:Al st.h b with
  | none=>have:=j b x hx f;have:=I.zlt b x0 u;unfold Hv at *;omega
  | some y =>
   obtain⟨x',⟨t,gm⟩,m⟩:=A.ext.blk b y f
   change Al h' b=some x at hx
   rw[hx] at t;simp at t;subst t
   rcases m with m | ⟨m,z,B,C⟩
   ·simp[v] at m
   ·obtain⟨⟨e1,em⟩,D,e3,e4⟩:=I.outs b x0 y u f m
    exact⟨⟨z.trans e1,gm.trans em⟩,B.trans D,fun h=>(C (em.trans h)).trans (e3 h),e4⟩
 zlt:=I.zlt
 zge:=I.zge
theorem Inv.put (I:Inv Z nt J β st a w) {d:Option Nat} {v:AV} {vc:Value} (e:Rep J β st.h w v vc):Inv Z nt J β { s:=qV nt st.s d v,h:=st.h } (a.put d vc) w where
 sim:=I.sim
 ss:=I.ss.put I.tmps e
 tmps:=by cases d<;>simp[Act.put,I.tmps]
 defers:=by cases d<;>simp[Act.put,I.defers]
 os:=I.os
 tape:=I.tape
 output:=I.output
 size:=I.size
 frame:=I.frame
 wr:=I.wr
 jsub:=I.jsub
 jup:=I.jup
 sizes:=I.sizes
 zlt:=I.zlt
 zge:=I.zge
 outs:=I.outs
theorem eH {d:Nat} {F:List Nat} {h:Aw}:∀ {ups:Eh},OV d F h ups=true→∀ b,A9 ups b=true→(DD d b=true∧Al h b=none)∨(DD d b=false∧H2 F b=true∧∃ x,Al h b=some x)
 | [],_,b,f=>by simp[A9] at f
 | (i,_)::r,e,b,f=>by
  rw[OV] at e
  simp at e
  rw[A9] at f
  cases hi:beq i b with
  | true =>
   have:i=b:=Ad8 hi
   subst this
   cases hn:DD d i with
   | true=>rw[hn] at e;simp at e;exact .inl ⟨rfl,e.1⟩
   | false =>
    rw[hn] at e;simp at e
    obtain⟨⟨j,k⟩,_⟩:=e
    exact .inr ⟨rfl,j,Ahh.1 k⟩
  | false=>rw[hi] at f;exact eH e.2 b (by simpa using f)
theorem vE {d b:Nat} (hn:DD d b=true):Hv≤b:=by
 unfold DD nid at hn
 simp at hn
 unfold Hv;omega
theorem lN {d:Nat} {F:List Nat} {h:Aw} {ups:Eh} (f:OV d F h ups=true) {b:Nat} {x:Blk} (hx:Al (Ak ups h) b=some x) (hn:Al h b=none):Hv≤b:=by
 cases hi:A9 ups b with
 | false=>rw[Co _ _ _ hi,hn] at hx;cases hx
 | true =>
  rcases eH f b hi with⟨j,_⟩ | ⟨_,_,y,e⟩
  ·exact vE j
  ·rw[hn] at e;cases e
theorem qg {h:Aw} {F:List Nat}:Looks (fun b=>cond (H2 F b) (Al h b) none) h:=fun b x d=>by
 cases e:H2 F b with
 | true=>simpa[e] using d
 | false=>simp[e] at d
theorem iP {h:Aw} {s:Hf} (H:SimS J β h w s a.tmps) {t:Bool} (d:FB ops s o=some t):Region.wanted o (yielded ops a.tmps)=t:=by
 unfold FB at d
 unfold Region.wanted
 split at d
 ·rename_i e;rw[e];simpa using d
 ·rename_i j want e
  rw[e]
  simp only
  unfold yielded
  split at d
  ·rename_i t' f
   rw[f]
   simp only[Ae4]
   cases l:a.tmps[t']? with
   | none =>
    have:=H.out t' (by simpa using l)
    rw[this] at d;simp at d
   | some v =>
    have hr:=H.slot t' v l
    split at d
    ·rename_i b k
     rw[k,Rep] at hr;subst hr
     simp at d;subst d
     simp
    ·rename_i k
     rw[k,Rep] at hr
     obtain⟨cs,rfl,m⟩:=hr
     rw[Reps] at m;subst m
     simp at d;subst d
     simp
    ·simp at d
  ·rename_i f
   rw[f]
   simp at d;subst d
   simp
theorem eI {E:Env} (hC:QK E) (I:Inv Z E.nt J β st a w) {k:St→Foot→O R} (e:nP E ops o st k=some r) {K:Act→World→Prop} {Q:Exit→Act→World→Prop} :
  ∃ st' f,k st' f=some r∧((∀ j w' J' β',Inv Z E.nt J' β' st' j w'→K j w')→if Region.wanted o (yielded ops a.tmps) then o.wp E.P a w K Q else K (a.put o.dst undef) w):=by
 unfold nP at e
 obtain⟨t,m,d⟩:=ub e
 rw[iP I.ss m]
 cases t with
 | false =>
  refine⟨_,_,d,fun hK=>?_⟩
  simp only[Agc,if_false]
  exact hK _ _ J β (I.put (by rw[Rep];exact⟨[],rfl,by rw[Reps]⟩))
 | true =>
  rw[cond_true] at d
  obtain⟨val,ups,n,q⟩:=qf (o:=o) (next:=K) (Q:=Q) hC I.sim I.ss qg d
  obtain⟨l,s⟩:=uc n
  refine⟨_,_,s,fun hK=>?_⟩
  simp only[if_true]
  refine q (fun b u hn=>?_) (fun vc w' v=>?_)
  ·rcases eH l b u with⟨_,g⟩ | ⟨g,_⟩
   ·exact g
   ·rw[hn] at g;cases g
  ·obtain⟨J',β',A,y⟩:=v
   exact hK _ _ J' β' ((I.step A (fun b x hx hn=>lN l hx hn)).put y)
def Eqv (a b:St):Prop:=(∀ t,Gp a.s t=Gp b.s t)∧(∀ b',Al a.h b'=Al b.h b')
theorem Eqv.refl (a:St):Eqv a a:=⟨fun _=>rfl,fun _=>rfl⟩
theorem Eqv.symm {a b:St} (h:Eqv a b):Eqv b a:=⟨fun t=>(h.1 t).symm,fun t=>(h.2 t).symm⟩
theorem Eqv.trans {a b c:St} (h:Eqv a b) (k:Eqv b c):Eqv a c:=⟨fun t=>(h.1 t).trans (k.1 t),fun t=>(h.2 t).trans (k.2 t)⟩
theorem Inv.eqv {nt:Nat} {J:Bool→Nat→Prop} {β:Ch} {st st2:St} {a:Act} {w:World} (I:Inv Z nt J β st a w) (h:Eqv st st2):Inv Z nt J β st2 a w:=by
 have hr:∀ {x v},Rep J β st.h w x v→Rep J β st2.h w x v:=fun hx=>Rep.ext ⟨fun _ _ f=>f,fun _ _ _=>rfl,fun b x d=>⟨x,⟨by rw[←h.2 b];exact d,rfl⟩,by cases e:x.dead<;>simp⟩,fun _ _ _ _=>Ad4 _⟩ hx
 refine⟨⟨I.sim.jlt,I.sim.jft,I.sim.gl,fun b x d e l=>?_,fun b x d e l=>I.sim.mblk b x (by rw[h.2];exact d) e l,fun b s x x' k o o' d m=>I.sim.sep b s x x' k o o' (by rw[h.2];exact d) (by rw[h.2];exact m)⟩,⟨fun i v t=>by rw[←h.1 i];exact hr (I.ss.slot i v t),fun i hi=>by rw[←h.1 i];exact I.ss.out i hi⟩,I.tmps,I.defers,I.os,I.tape,I.output,I.size,I.frame,?_,I.jsub,I.jup,I.sizes,I.zlt,I.zge,fun b x0 x y hx=>I.outs b x0 x y (by rw[h.2];exact hx)⟩
 ·rcases I.sim.blk b x (by rw[h.2];exact d) e l with n | ⟨k,o,cs,ty,fr,n,z,A,B,q,C⟩
  ·exact .inl n
  ·exact .inr ⟨k,o,cs,ty,fr,n,z,A,B,⟨q.1,fun D j c f=>by
    obtain⟨u,F,G,L⟩:=q.2 D j c f
    exact⟨u,F,hr G,L⟩⟩,C⟩
 ·rintro k ⟨b,x,o,d,e,hs,M⟩ S
  exact I.wr k ⟨b,x,o,by rw[h.2];exact d,e,hs,M⟩ S
theorem eJ {st:St} {k:St→O R} (d:VV ops o st k=some r):∃ st',Eqv st st'∧k st'=some r:=by
 unfold VV at d
 split at d
 ·exact⟨st,Eqv.refl _,d⟩
 ·rename_i j want n
  split at d
  ·exact⟨st,Eqv.refl _,d⟩
  ·rename_i t q
   split at d
   ·rename_i b l
    have key:∀ c:Bool,b=c→Eqv st { s:=QC st.s t (.bool c),h:=st.h }:=by
     intro c m
     refine⟨fun i=>?_,fun _=>rfl⟩
     simp only
     rw[Of]
     by_cases e:i=t
     ·subst e;rw[if_pos rfl,l,m]
     ·rw[if_neg e]
    cases f:(b==want) with
    | true =>
     rw[f] at d
     exact⟨_,key want (by simpa using f),d⟩
    | false =>
     rw[f] at d
     exact⟨_,key (!want) (by cases b<;>cases want<;>simp_all),d⟩
   ·exact⟨st,Eqv.refl _,d⟩
theorem eK {E:Env} (hC:QK E) {Q:Exit→Act→World→Prop}:∀ (l:List Oper) {st:St} {tr:List Foot} {k:St→List Foot→O R} {a:Act} {w:World} {J:Bool→Nat→Prop} {β:Ch},
  Inv Z E.nt J β st a w→dX E ops l st tr k=some r→(∀ st' e j w' J' β',Inv Z E.nt J' β' st' j w'→k st' e=some r→Q .normal j w')→wpList E.P ops Q l a w
 | [],st,tr,k,a,w,J,β,I,d,hQ=>hQ st tr a w J β I d
 | o::l,st,tr,k,a,w,J,β,I,d,hQ=>by
  rw[dX] at d
  obtain⟨x6,n,d⟩:=eJ d
  obtain⟨st',f,q,s⟩:=eI (K:=wpList E.P ops Q l) (Q:=Q) hC (I.eqv n) d
  have:=s (fun j w' J' β' I'=>eK hC l I' q hQ)
  rw[wpList]
  split
  ·rename_i m;rw[if_pos m] at this;exact .inl this
  ·rename_i m;rw[if_neg m] at this;exact this
end
end Gx
namespace Gx
open Go
theorem Lw:∀ {l:List Nat} {b:Nat},H2 l b=true↔b ∈ l
  | [],b=>by simp[H2]
  | i::r,b=>by
    rw[H2]
    cases hi:beq i b with
    | true=>have:=Ad8 hi;subst this;simp
    | false => have := Wq hi; simp only [cond_false, Ad6]; rw [Lw]; constructor
               · exact fun h=>.inr h
               · rintro(h | h)
                 · exact absurd h.symm this
                 · exact h
theorem Tf:∀ {l:List Nat},JQ l=true→l.Nodup
 | [],_=>Ahw
 | i::r,h=>by
  rw[JQ] at h;simp at h
  refine Ae5.2 ⟨fun d=>?_,Tf h.2⟩
  rw[Lw.2 d] at h;simp at h
theorem WC {g:Bg} {ids:List Nat}:∀ {l:List Nat},dZ g ids l=true→∀ b ∈ l,∀ x,Gm g b=some x→b ∈ ids
 | [],_,b,d,_,_=>by simp at d
 | i::r,h,b,d,x,hx=>by
  rw[dZ] at h;simp at h
  rcases Ad6.1 d with e | d
  ·subst e
   rcases h.1 with f | f
   ·exact Lw.1 f
   ·rw[hx] at f;simp at f
  ·exact WC h.2 b d x hx
theorem nr:∀ {l:List Nat},sV l=true→∀ b ∈ l,Hv≤b→Lv b<100000
 | [],_,b,d,_=>by simp at d
 | i::r,h,b,d,hn=>by
  rw[sV] at h;simp at h
  rcases Ad6.1 d with e | d
  ·subst e
   have:ble Hv b=true:=by simpa using hn
   rw[this] at h;simpa using h.1
  ·exact nr h.2 b d hn
theorem Y1 (g:Bg):∀ c:LA,(Kp g c).length=c.length
 | []=>rfl
 | x::r=>by rw[Kp,Adx,Adx,Y1 g r]
section
variable {R:Type} {r:R} {Z:Start} {nt:Nat} {J J':Bool→Nat→Prop} {β β':Ch} {st:St} {h h':Aw} {a:Act} {w w':World} {ids:List Nat}
def Nb (g:Bg) (x:Blk):Blk:={ x with cells:=cond x.pure x.cells (Kp g x.cells) }
theorem QM {g:Bg}:∀ {ids:List Nat},(ids.map Lv).Nodup→∀ c y,Al (Yw g ids) c=some y→∃ b x,b ∈ ids∧Lv b=c∧Gm g b=some x∧y=Nb g x
 | [],_,c,y,d=>by simp[Yw,Al] at d
 | b::r,hn,c,y,d=>by
  rw[Ad5,Ae5] at hn
  rw[Yw] at d
  split at d
  ·rename_i x hx
   rw[Af] at d
   by_cases e:c=Lv b
   ·rw[if_pos e] at d;simp at d
    exact⟨b,x,by simp,e.symm,hx,d.symm⟩
   ·rw[if_neg e] at d
    obtain⟨f,x',j,k,l,m⟩:=QM hn.2 c y d
    exact⟨f,x',by simp[j],k,l,m⟩
  ·obtain⟨f,x',j,k,l,m⟩:=QM hn.2 c y d
   exact⟨f,x',by simp[j],k,l,m⟩
theorem Y2 {g:Bg}:∀ {ids:List Nat},(ids.map Lv).Nodup→∀ b x,b ∈ ids→Gm g b=some x→Al (Yw g ids) (Lv b)=some (Nb g x)
 | [],_,b,x,d,_=>by simp at d
 | j::r,hn,b,x,d,hx=>by
  rw[Ad5,Ae5] at hn
  rw[Yw]
  by_cases e:b=j
  ·subst e
   rw[hx]
   simp only
   rw[Af,if_pos rfl];rfl
  ·have f:b ∈ r:=by simpa[e] using d
   have ne:Lv b≠Lv j:=fun h=>hn.1 (by rw[←h];exact Aef.2 ⟨b,f,rfl⟩)
   split
   ·rw[Af,if_neg ne];exact Y2 hn.2 b x f hx
   ·exact Y2 hn.2 b x f hx
def eL (ids:List Nat) (c:Nat):Option Nat:=ids.find? fun b=>beq (Lv b) c
theorem Ma (hn:(ids.map Lv).Nodup) {b:Nat} (d:b ∈ ids):eL ids (Lv b)=some b:=by
 induction ids with
 | nil=>simp at d
 | cons i r f =>
  rw[Ad5,Ae5] at hn
  unfold eL at f ⊢
  rw[List.find?_cons]
  by_cases e:b=i
  ·subst e;simp
  ·have j:b ∈ r:=by simpa[e] using d
   have ne:Lv i≠Lv b:=fun h=>hn.1 (by rw[h];exact Aef.2 ⟨b,j,rfl⟩)
   rw[IT ne];exact f hn.2 j
def x7 (g:Bg) (ids:List Nat) (l:List Nat):Prop:=∀ b ∈ l,∀ x,Gm g b=some x→b ∈ ids
theorem t_ {b:Nat}:Gm (Al h) b=(Al h b).bind fun x=>cond x.dead none (some x):=rfl
theorem QN {b:Nat} {x y:Blk} (hx:Al h b=some x) (d:Gm (Al h) b=some y):y=x∧x.dead=false:=by
 rw[t_,hx] at d
 cases e:x.dead with
 | true=>simp[e] at d
 | false=>simp[e] at d;exact⟨d.symm,rfl⟩
mutual
theorem Rep.clean (hn:(ids.map Lv).Nodup):∀ {x:AV} {v:Value},x7 (Al h) ids (Hg x)→Rep J β h w x v →
  Rep J (fun c=>(eL ids c).bind β) (Yw (Al h) ids) w (Yv (Al h) x) v
 | .own b off n,v,hm,hr=>by
  rw[Rep] at hr
  obtain⟨x,A,cap,⟨hx,hmp⟩,h1,h2,h3⟩:=hr
  rw[Yv]
  cases hv:Gm (Al h) b with
  | none=>simp only;rw[Rep];trivial
  | some y =>
   obtain⟨rfl,hd⟩:=QN hx hv
   have hb:=hm b (by simp[Hg]) _ hv
   simp only
   rw[Rep]
   refine⟨Nb (Al h) y,A,cap,⟨Y2 hn b y hb hv,hmp⟩,h1,h2,?_⟩
   rcases h3 with h3 | ⟨k,o,h4,h5⟩
   ·exact .inl h3
   ·refine .inr ⟨k,o,h4,?_⟩
    rcases h5 with h5 | ⟨h5,h6,h7⟩
    ·simp[hd] at h5
    ·refine .inr ⟨by rw[Ma hn hb];exact h5,h6,?_⟩
     have:(Nb (Al h) y).cells.length=y.cells.length:=by
      unfold Nb;cases y.pure
      ·simp;exact Y1 _ _
      ·rfl
     rw[this];exact h7
 | .optr b off,v,hm,hr=>by
  rw[Rep] at hr
  obtain⟨x,k,o,⟨hx,hmp⟩,h1,h2⟩:=hr
  rw[Yv]
  cases hv:Gm (Al h) b with
  | none=>simp only;rw[Rep];trivial
  | some y =>
   obtain⟨rfl,hd⟩:=QN hx hv
   have hb:=hm b (by simp[Hg]) _ hv
   simp only
   rw[Rep]
   refine⟨Nb (Al h) y,k,o,⟨Y2 hn b y hb hv,hmp⟩,h1,?_⟩
   rcases h2 with h2 | h2
   ·simp[hd] at h2
   ·exact .inr (by rw[Ma hn hb];exact h2)
 | .omap b,v,hm,hr=>by
  rw[Rep] at hr
  obtain⟨x,k,⟨hx,hmp⟩,h2⟩:=hr
  rw[Yv]
  cases hv:Gm (Al h) b with
  | none=>simp only;rw[Rep];trivial
  | some y =>
   obtain⟨rfl,hd⟩:=QN hx hv
   have hb:=hm b (by simp[Hg]) _ hv
   simp only
   rw[Rep]
   refine⟨Nb (Al h) y,k,⟨Y2 hn b y hb hv,hmp⟩,?_⟩
   rcases h2 with h2 | h2
   ·simp[hd] at h2
   ·exact .inr (by rw[Ma hn hb];exact h2)
 | .agg c,v,hm,hr=>by
  rw[Rep] at hr
  obtain⟨cs,h1,h2⟩:=hr
  rw[Yv,Rep]
  exact⟨cs,h1,Reps.clean hn (by simpa[Hg] using hm) h2⟩
 | .tup c,v,hm,hr=>by
  rw[Rep] at hr
  obtain⟨cs,h1,h2⟩:=hr
  rw[Yv,Rep]
  exact⟨cs,h1,Reps.clean hn (by simpa[Hg] using hm) h2⟩
 | .fn f c,v,hm,hr=>by
  rw[Rep] at hr
  obtain⟨cs,h1,h2⟩:=hr
  rw[Yv,Rep]
  exact⟨cs,h1,Reps.clean hn (by simpa[Hg] using hm) h2⟩
 | .pagg c o,v,hm,hr=>by show Rep J _ _ w (.pagg c o) v;rw[Rep] at hr ⊢;exact hr
 | .undef,v,hm,hr=>by show Rep J _ _ w (.undef) v;rw[Rep] at hr ⊢;exact hr
 | .imm c n sz t o,v,hm,hr=>by show Rep J _ _ w (.imm c n sz t o) v;rw[Rep] at hr ⊢;exact hr
 | .iptr c o,v,hm,hr=>by show Rep J _ _ w (.iptr c o) v;rw[Rep] at hr ⊢;exact hr
 | .int k n,v,hm,hr=>by show Rep J _ _ w (.int k n) v;rw[Rep] at hr ⊢;exact hr
 | .bool b,v,hm,hr=>by show Rep J _ _ w (.bool b) v;rw[Rep] at hr ⊢;exact hr
 | .str s,v,hm,hr=>by show Rep J _ _ w (.str s) v;rw[Rep] at hr ⊢;exact hr
 | .nsl,v,hm,hr=>by show Rep J _ _ w (.nsl) v;rw[Rep] at hr ⊢;exact hr
 | .nilptr,v,hm,hr=>by show Rep J _ _ w (.nilptr) v;rw[Rep] at hr ⊢;exact hr
 | .nilfn,v,hm,hr=>by show Rep J _ _ w (.nilfn) v;rw[Rep] at hr ⊢;exact hr
theorem Reps.clean (hn:(ids.map Lv).Nodup):∀ {c:List AV} {cs:List Value},x7 (Al h) ids (I5 c)→Reps J β h w c cs →
  Reps J (fun c=>(eL ids c).bind β) (Yw (Al h) ids) w (Kp (Al h) c) cs
 | [],cs,hm,hr=>by rw[Reps] at hr;rw[Kp,Reps];exact hr
 | x::r,cs,hm,hr=>by
  rw[Reps] at hr
  obtain⟨u,us,h1,h2,h3⟩:=hr
  rw[Kp,Reps]
  exact⟨u,us,h1,Rep.clean hn (fun b hb=>hm b (by simp[I5,hb])) h2,Reps.clean hn (fun b hb=>hm b (by simp[I5,hb])) h3⟩
end
theorem AQ {g:Bg} {K:List Nat}:∀ {s:Hf} {i:Nat},Gp (VW g K s) i=if H2 K i=true then Yv g (Gp s i) else .undef
 | [],i=>by
  simp only[VW,Gp]
  show AV.undef=if H2 K i=true then AV.undef else AV.undef
  split<;>rfl
 | (t,v)::r,i=>by
  rw[VW,Gp]
  cases d:H2 K t with
  | true =>
   simp only[cond_true,Gp]
   cases hi:beq t i with
   | true =>
    have:=Ad8 hi;subst this
    simp[d]
   | false=>simp only[cond_false];exact AQ
  | false =>
   simp only[cond_false]
   rw[AQ]
   cases hi:beq t i with
   | true =>
    have:=Ad8 hi;subst this
    simp[d]
   | false=>rfl
theorem eM {K:List Nat}:∀ {s:Hf} {i:Nat},H2 K i=true→∀ b ∈ Hg (Gp s i),b ∈ dY K s
 | [],i,_,b,d=>by simp[Gp,Hg] at d
 | (t,v)::r,i,e,b,d=>by
  rw[Gp] at d
  rw[dY]
  cases hi:beq t i with
  | true =>
   have:=Ad8 hi;subst this
   rw[hi] at d
   rw[e];simp at d ⊢;exact .inl d
  | false =>
   rw[hi] at d
   have:=eM e b d
   cases H2 K t
   ·exact this
   ·simp;exact .inr this
theorem WD {g:Bg}:∀ {ids:List Nat} {b:Nat} {x:Blk},b ∈ ids→g b=some x→x.pure=false→∀ c ∈ I5 x.cells,c ∈ Lt g ids
 | [],b,x,d,_,_,_,_=>by simp at d
 | i::r,b,x,d,hx,f,c,j=>by
  rw[Lt]
  by_cases e:b=i
  ·subst e;rw[hx];simp only[f,cond_false];exact Ad7.2 (.inl j)
  ·exact Ad7.2 (.inr (WD (by simpa[e] using d) hx f c j))
theorem WE:∀ {c:LA} {j:Nat} {x:AV},c[j]?=some x→∀ b ∈ Hg x,b ∈ I5 c
 | [],j,x,d,_,_=>by simp at d
 | y::r,j,x,d,b,e=>by
  rw[I5]
  cases j with
  | zero=>simp at d;subst d;exact Ad7.2 (.inl e)
  | succ j=>exact Ad7.2 (.inr (WE (by simpa using d) b e))
theorem YW {g:Bg}:∀ {c:LA} {j:Nat} {y:AV},(Kp g c)[j]?=some y→∃ x,c[j]?=some x∧y=Yv g x
 | [],j,y,d=>by simp[Kp] at d
 | x::r,j,y,d=>by
  rw[Kp] at d
  cases j with
  | zero=>simp at d;exact⟨x,by simp,d.symm⟩
  | succ j=>obtain⟨x',e,f⟩:=YW (c:=r) (j:=j) (by simpa using d);exact⟨x',by simpa using e,f⟩
theorem ta {b:Nat} (d:b<Hv):Lv b=b:=by
 unfold Lv
 have:ble Hv b=false:=by
  cases h:ble Hv b with
  | false=>rfl
  | true=>have:=Nat.le_of_ble_eq_true h;omega
 rw[this];rfl
theorem nv {K roots:List Nat} {st':St} (I:Inv Z nt J β st a w) (hh:clean K roots st=some st'):∃ β',Inv Z nt J β' st' a w:=by
 unfold clean at hh
 obtain⟨hc,h1⟩:_∧_:=uc hh
 simp only[Ad3] at hc
 obtain⟨c1,c2,c3,c4⟩:=hc
 generalize hids:AP (Al st.h) (Yu (Al st.h) (dY K st.s++roots))=ids at *
 simp at h1
 have hn:=Tf c1
 have blk:∀ c y,Al (Yw (Al st.h) ids) c=some y→∃ b x,b ∈ ids∧Lv b=c∧Al st.h b=some x∧x.dead=false∧y=Nb (Al st.h) x:=by
  intro c y l
  obtain⟨b,x,n,t,B,C⟩:=QM hn c y l
  have hx:Al st.h b=some x∧x.dead=false:=Do (fun _ _ h=>h) B
  exact⟨b,x,n,t,hx.1,hx.2,C⟩
 have m:∀ x:Blk,(Nb (Al st.h) x).cells.length=x.cells.length:=fun x=>by
  unfold Nb;cases x.pure
  ·simp;exact Y1 _ _
  ·rfl
 refine⟨fun c=>(eL ids c).bind β,?_⟩
 subst h1
 refine⟨⟨I.sim.jlt,I.sim.jft,I.sim.gl,fun c y l S V=>?_,fun c y l S V=>by
   obtain⟨b,x,e,rfl,hx,d,rfl⟩:=blk c y l
   obtain⟨n,t,k,ob,B,C,T,X⟩:=I.sim.mblk b x hx d V
   have:(Nb (Al st.h) x).cells=x.cells:=by unfold Nb;rw[n];rfl
   exact⟨n,t,k,ob,by simp only[Ma hn e,Ae4];exact B,C,by rw[ObjIs,show(Nb (Al st.h) x).sz=x.sz from rfl,this];exact T,X⟩,?_⟩,⟨fun i v hv=>?_,fun i hi=>?_⟩,I.tmps,I.defers,I.os,I.tape,I.output,I.size,I.frame,?_,I.jsub,I.jup,I.sizes,I.zlt,I.zge,?_⟩
 ·obtain⟨b,x,e,rfl,hx,d,rfl⟩:=blk c y l
  rcases I.sim.blk b x hx d V with⟨n,t⟩ | ⟨k,o,cs,ty,fr,n,t,B,C,T,X,g7⟩
  ·refine .inl ⟨by simp only[Ma hn e,Ae4];exact n,?_⟩
   have:=m x;rw[t] at this;simpa using this
  ·refine .inr ⟨k,o,cs,ty,fr,by simp only[Ma hn e,Ae4];exact n,t,B,by rw[m];exact C,⟨fun Y=>?_,fun Y j q hj=>?_⟩,X,g7⟩
   ·have f:x.pure=true:=Y
    have:(Nb (Al st.h) x).cells=x.cells:=by unfold Nb;rw[f];rfl
    rw[this];exact T.1 f
   ·have f:x.pure=false:=Y
    have:(Nb (Al st.h) x).cells=Kp (Al st.h) x.cells:=by unfold Nb;rw[f];rfl
    rw[this] at hj
    obtain⟨q',hq,rfl⟩:=YW hj
    obtain⟨u,hu,hr,ho⟩:=T.2 f j q' hq
    exact⟨u,hu,Rep.clean hn (fun D z x' A=>WC c3 D (WD e hx f D (WE hq D z)) x' A) hr,ho⟩
 ·intro c c' y y' k o o' l hy' S hd' hs F G
  obtain⟨b,x,e,rfl,hx,d,rfl⟩:=blk c y l
  obtain⟨D,x',z,rfl,A,L,rfl⟩:=blk c' y' hy'
  simp only[Ma hn e,Ae4] at F
  simp only[Ma hn z,Ae4] at G
  rw[I.sim.sep b D x x' k o o' hx A d L hs F G]
 ·rw[AQ]
  split
  ·rename_i hk
   exact Rep.clean hn (fun b e x hx=>WC c2 b (eM hk b e) x hx) (I.ss.slot i v hv)
  ·rw[Rep];trivial
 ·rw[AQ,I.ss.out i hi]
  split
  ·rfl
  ·rfl
 ·rintro k ⟨c,y,o,l,S,hs,F⟩ hk
  obtain⟨b,x,e,rfl,hx,d,rfl⟩:=blk c y l
  simp only[Ma hn e,Ae4] at F
  exact I.wr k ⟨b,x,o,hx,d,hs,F⟩ hk
 ·intro c x0 y U l S
  obtain⟨b,x,e,rfl,hx,d,rfl⟩:=blk c y l
  have hlt:=I.zlt _ _ U
  have hge:=I.zge _ _ U
  have M:Lv b=b:=by
   by_cases hnb:Hv≤b
   ·have:=nr c4 b e hnb;omega
   ·exact ta (by omega)
  rw[M] at U
  obtain⟨⟨e1,em⟩,e2,e3,e4⟩:=I.outs b x0 x U hx d
  refine⟨⟨?_,em⟩,e2,by rw[m];exact e3,e4⟩
  simp only[Ma hn e,Ae4];rw[M];exact e1
end
end Gx
namespace Gx
open Go
section
variable {R:Type}
theorem An {α β:Type} (b:Bool) (x y:Option α) (f:α→Option β):(cond b x y).bind f=cond b (x.bind f) (y.bind f):=by cases b<;>rfl
theorem Xg {R':Type} (P:Program) (t:TypeId) (c:LA) (o:Bool) (k:Bool→Option R') (f:R'→O R):(Xd P t c o k).bind f=Xd P t c o fun o=>(k o).bind f:=by
 unfold Xd;simp only[An,Agz]
theorem Tg (P:Program) (t:TypeId) (c:LA) (org:Bool) (k:AV→O R):JK P t c org k=(JK P t c org some).bind k:=by
 unfold JK
 split<;>simp[Adz,An,Xg]<;>rfl
theorem qh (P:Program) (t:TypeId) (c:LA) (k:AV→O R):YI P t c k=(YI P t c some).bind k:=by
 unfold YI
 split<;>simp[Adz,An]
theorem YX (n:Nat) (k:AV→O R):∀ (c:LA) (i:Nat),E_ n k c i=(E_ n some c i).bind k
 | [],_=>rfl
 | v::r,i=>by rw[E_,E_,An,YX n k r (i+1)];rfl
theorem YY (P:Program) (t:TypeId) (c:LA) (off:Nat) (k:AV→O R):JL P t c off k=(JL P t c off some).bind k:=by
 unfold JL
 split
 ·simp[Adz,An]
 ·simp[Adz,An]
 ·exact YX ..
 ·rfl
theorem FO (P:Program) (g:Bg) (t:TypeId) (p:AV) (k:AV→O R):dT P g t p k=(dT P g t p some).bind k:=by
 unfold dT
 split
 ·exact Tg ..
 ·rw[Adz]
  congr 1;funext x
  rw[An,←Tg,←YY]
 ·rfl
theorem IB (P:Program) (t:TypeId) (x i:AV) (k:AV→O R):S9 P t x i k=(S9 P t x i some).bind k:=by
 unfold S9
 split<;>simp[Adz,An]
theorem IC (P:Program) (t:TypeId) (x:AV) (f:Nat) (k:AV→O R):Ta P t x f k=(Ta P t x f some).bind k:=by
 unfold Ta
 simp only[Adz,An]
 congr 1;funext p;congr 1;funext n;congr 1
 split<;>rfl
theorem YZ (P:Program) (t:TypeId) (x:AV) (f:Nat) (k:AV→O R):VK P t x f k=(VK P t x f some).bind k:=by
 unfold VK
 rw[Adz]
 congr 1;funext p
 split
 ·exact Tg ..
 ·exact qh ..
 ·rfl
theorem Y_ (P:Program) (t:TypeId) (x i:AV) (k:AV→O R):VL P t x i k=(VL P t x i some).bind k:=by
 unfold VL
 split
 ·simp[An]
 ·simp only[Adz,An,←Tg];rfl
 ·simp only[Adz,An,←YY];rfl
 ·rfl
theorem Xh {α:Type} (lo hi mx:Option AV) (n:Nat) (f:Nat→Nat→α) (k:α→O R):(Xe lo hi mx n fun l h=>k (f l h))=(Xe lo hi mx n fun l h=>some (f l h)).bind k:=by
 unfold Xe
 simp[Adz,An]
theorem Y' (P:Program) (g:Bg) (t:TypeId) (x:AV) (lo hi mx:Option AV) (k:AV→O R):VM P g t x lo hi mx k=(VM P g t x lo hi mx some).bind k:=by
 unfold VM
 split
 ·rw[An,←Xh];rfl
 ·rw[Adz];congr 1;funext _;exact Xh lo hi mx 0 (fun _ _=>AV.nsl) k
 ·rw[Adz];congr 1;funext _;rw[An,←Xh];rfl
 ·rw[Adz];congr 1;funext _;rw[Adz];congr 1;funext _;rw[An,←Xh];rfl
 ·simp only[Adz,An];rfl
 ·rfl
theorem tb (P:Program) (t:TypeId) (op:BinOp) (x y:AV) (k:AV→O R):tS P t op x y k=(tS P t op x y some).bind k:=by
 unfold tS
 split
 ·split<;>simp[An]
 ·split<;>simp[An]
 ·split<;>simp[An]
 ·rfl
def pr (v:AV) (u:Eh):Option (AV×Eh):=some (v,u)
theorem nw (P:Program) (g:Bg) (t:TypeId) (p v:AV) (k:AV→Eh→O R):VN P g t p v k=(VN P g t p v pr).bind fun q=>k q.1 q.2:=by
 unfold VN
 split
 ·simp only[Adz,An]
  congr 1;funext x;congr 1;funext n;congr 1;congr 1
  split<;>simp[An,pr]
 ·rfl
theorem QO (P:Program) (c:LA) (org:Bool):∀ (L:List (Nat×TypeId)) (d:LA) (k:LA→O R),RZ P c org L d k=(RZ P c org L d some).bind k
 | [],d,k=>rfl
 | (off,t)::L,d,k=>by
  rw[RZ,RZ,An]
  congr 1
  rw[Tg,Tg (k:=fun v=>RZ P c org L (d++[v]) some),Adz]
  congr 1;funext v
  exact QO P c org L _ k
theorem ZA (P:Program) (co:Bool) (t:TypeId) (v:AV) (k:AV→O R):VP P co t v k=(VP P co t v some).bind k:=by
 unfold VP
 split
 ·rename_i c org
  rw[QO,QO (k:=fun l=>cond (beq c.length l.length) (some (AV.agg l)) none),Adz]
  congr 1;funext l
  rw[An];rfl
 ·rfl
theorem j8 (P:Program) (g:Bg) (d:Nat) (t:TypeId) (v:AV) (k:AV→Eh→O R):nM P g d t v k=(nM P g d t v pr).bind fun q=>k q.1 q.2:=by
 unfold nM
 split<;>simp[Adz,An,pr]
theorem WF (P:Program) (g:Bg) (d:Nat) (t:TypeId) (len:Nat) (ps:List (Nat×AV)) (k:AV→Eh→O R):Qv P g d t len ps k=(Qv P g d t len ps pr).bind fun q=>k q.1 q.2:=by
 unfold Qv
 split<;>simp[Adz,An,pr,Vc]
theorem bG (P:Program) (g:Bg) (d:Nat) (t:TypeId) (len:Nat) (ps:List (Nat×AV)) (k:AV→Eh→O R):Tb P g d t len ps k=(Tb P g d t len ps pr).bind fun q=>k q.1 q.2:=by
 unfold Tb
 split<;>simp[Adz,An,pr]
theorem lO (P:Program) (g:Bg) (t:TypeId) (ps:List (Nat×AV)) (k:AV→Eh→O R):MP P g t ps k=(MP P g t ps pr).bind fun q=>k q.1 q.2:=by
 unfold MP
 simp[Adz,pr,Vc]
theorem tc (P:Program) (t:TypeId) (co:Bool) (d:Nat) (v:AV) (k:AV→Eh→O R):tU P t co d v k=(tU P t co d v pr).bind fun q=>k q.1 q.2:=by
 unfold tU
 split<;>simp[An,pr]
theorem qi (P:Program) (d:Nat) (t:TypeId) (l c:AV) (k:AV→Eh→O R):jU P d t l c k=(jU P d t l c pr).bind fun q=>k q.1 q.2:=by
 unfold jU
 split<;>simp[Adz,An,pr]
theorem lP (P:Program) (g:Bg) (d:Nat) (t tx:TypeId) (s x:AV) (k:AV→Eh→O R):MR P g d t tx s x k=(MR P g d t tx s x pr).bind fun q=>k q.1 q.2:=by
 unfold MR QD
 split<;>simp[Adz,An,pr,Xg]
theorem ZB {α:Type} (kd:IntKind):∀ (n:Nat) (c:LA) (f:LA→Option α) (k:α→O R),QF kd n c (fun l=>(f l).bind k)=(QF kd n c f).bind k
 | 0,_,_,_=>rfl
 | n+1,c,f,k=>by
  simp only[QF,Adz]
  congr 1;funext x;congr 1;funext v
  exact ZB kd n _ (fun l=>f (.int kd v::l)) k
theorem ny (P:Program) (d sz b off n:Nat) (y:Blk) (new:LA×Nat×Bool) (k:AV→Eh→O R):VQ P d sz b off n y new k=(VQ P d sz b off n y new pr).bind fun q=>k q.1 q.2:=by
 unfold VQ
 split
 ·rw[An,←ZB];rfl
 ·rfl
theorem qk (P:Program) (g:Bg) (t:TypeId) (s x:AV) (k:AV→Eh→O R):jV P g t s x k=(jV P g t s x pr).bind fun q=>k q.1 q.2:=by
 unfold jV QD
 split
 ·simp only[Adz,An,Xg,←ny];rfl
 ·simp[Adz,An,pr,Xg]
 ·rfl
theorem lQ (P:Program) (g:Bg) (d:Nat) (t:TypeId) (k:AV→Eh→O R):MQ P g d t k=(MQ P g d t pr).bind fun q=>k q.1 q.2:=by
 unfold MQ
 split<;>simp[An,pr]
theorem nz (P:Program) (g:Bg) (t:TypeId) (s:AV) (k:AV→Eh→O R):VR P g t s k=(VR P g t s pr).bind fun q=>k q.1 q.2:=by
 unfold VR
 split<;>simp[Adz,An,pr]
theorem ql (P:Program) (g:Bg) (d:Nat) (src dst:TypeId) (x:AV) (k:AV→Eh→O R):jX P g d src dst x k=(jX P g d src dst x pr).bind fun q=>k q.1 q.2:=by
 unfold jX
 split
 ·split<;>simp[An,pr]
 ·split
  ·split<;>simp[pr]
  ·split
   ·split<;>simp[Adz,pr]
   ·rfl
  ·rfl
 ·split
  ·rw[An,Adz];simp only[An];rfl
  ·rfl
  ·rfl
 ·rfl
theorem oA (P:Program) (g:Bg) (d:Nat) (src dst:TypeId) (x:AV) (k:AV→Eh→O R):VS P g d src dst x k=(VS P g d src dst x pr).bind fun q=>k q.1 q.2:=by
 unfold VS
 split
 ·split
  ·simp only[Adz,An];rfl
  ·rfl
 ·split
  ·simp only[Adz,An];rfl
  ·rfl
 ·exact ql ..
theorem bH (g:Bg) (x:AV) (k:AV→Eh→O R):Tc g x k=(Tc g x pr).bind fun q=>k q.1 q.2:=by
 unfold Tc
 split
 ·rfl
 ·simp only[Adz,An];rfl
 ·rfl
theorem bI (P:Program) (g:Bg) (t:TypeId) (x n:AV) (k:AV→Eh→O R):Td P g t x n k=(Td P g t x n pr).bind fun q=>k q.1 q.2:=by
 unfold Td
 split
 ·rw[An];rfl
 ·simp only[Adz]
  congr 1;funext y;congr 1;funext q
  split
  ·simp only[Adz,An];rfl
  ·rfl
 ·rfl
theorem QP {R':Type} {f:R'→O R} {s1:TypeId→LA→LA→(Bool→Option R')→Option R'} {s2:TypeId→LA→LA→(Bool→O R)→O R} (hs:∀ t x y k,(s1 t x y k).bind f=s2 t x y fun b=>(k b).bind f) {x y:LA} :
  ∀ (l:List (Nat×TypeId)) (k:Bool→Option R'),(C' s1 x y l k).bind f=C' s2 x y l fun b=>(k b).bind f
 | [],k=>rfl
 | (o,t)::r,k=>by
  rw[C',C',hs]
  congr 1;funext b
  exact QP hs r _
theorem MY {R':Type} {f:R'→O R} (P:Program):∀ (d:Nat) (t:TypeId) (x y:LA) (k:Bool→Option R'),(bE P d t x y k).bind f=bE P d t x y fun b=>(k b).bind f
 | 0,t,x,y,k=>rfl
 | d+1,t,x,y,k=>by
  rw[bE,bE]
  split<;>simp only[Adz,An,Agz]
  ·congr 1;funext sz;rw[QP (MY P d)]
  ·congr 1;funext s;congr 1;funext sz;rw[QP (MY P d)]
theorem qm (P:Program) (t:TypeId) (op:BinOp) (x y:AV) (k:AV→O R):jS P t op x y k=(jS P t op x y some).bind k:=by
 unfold jS
 split
 ·rw[Adz]
  congr 1;funext s
  rw[An]
  congr 1
  split
  ·rw[MY];rfl
  ·rw[MY];rfl
  ·rfl
 ·exact tb ..
theorem eN (P:Program) (g:Bg) (t:TypeId) (op:BinOp) (x y:AV) (k:AV→O R):j2 P g t op x y k=(j2 P g t op x y some).bind k:=by
 unfold j2
 split
 ·rw[An];congr 1;split<;>rfl
 ·exact qm ..
theorem eO (c x y:AV) (k:AV→O R):j4 c x y k=(j4 c x y some).bind k:=by
 unfold j4
 split<;>first | rfl | (rw[An];rfl)
theorem oB (P:Program) (g:Bg) (co:Bool) (d:Nat) (t:TypeId) (k:AV→Eh→O R):VO P g co d t k=(VO P g co d t pr).bind fun q=>k q.1 q.2:=by
 unfold VO
 split
 ·rw[Adz];rfl
 ·exact j8 ..
 ·rfl
theorem eP:∀ (T:List (Nat×Tw)) (f:Nat) (d:LA) (h:Aw) (k:AV→Aw→O R),R_ T f d h k=(R_ T f d h fun v h'=>some (v,h')).bind fun p=>k p.1 p.2
 | [],f,d,h,k=>rfl
 | (g,t)::r,f,d,h,k=>by
  rw[R_,R_]
  cases beq g f
  ·exact eP r f d h k
  ·exact t.eq d h k
theorem qn (E:Env) (g:Bg) (d f:Nat) (e:LA) (k:AV→Eh→O R):j3 E g d f e k=(j3 E g d f e pr).bind fun q=>k q.1 q.2:=by
 unfold j3
 rw[Adz]
 congr 1;funext q
 simp only[An,Agz]
 congr 1
 rw[eP,eP (R:=AV×Eh),Adz]
 congr 1;funext p
 simp only[An,Agz,pr,Ae4]
theorem iQ (d:Nat) (o:Option AV) (k:AV→Eh→O R):Yt d o k=(Yt d o pr).bind fun q=>k q.1 q.2:=by
 unfold Yt
 split<;>rfl
theorem oC (P:Program) (g:Bg) (t:TypeId) (m x y:AV) (k:AV→Eh→O R):VT P g t m x y k=(VT P g t m x y pr).bind fun q=>k q.1 q.2:=by
 unfold VT
 split<;>simp[An,Adz,pr]
theorem oD (P:Program) (d:Nat) (t:TypeId) (x:AV) (k:AV→Eh→O R):VU P d t x k=(VU P d t x pr).bind fun q=>k q.1 q.2:=by
 unfold VU
 split<;>rfl
theorem qo (g:Bg) (it:AV) (b:Bool) (k:AV→Eh→O R):jZ g it b k=(jZ g it b pr).bind fun q=>k q.1 q.2:=by
 unfold jZ
 split
 ·rw[Adz];congr 1;funext x
  rw[An];congr 1
  split
  ·rename_i s p _
   cases decide (p<(s.length:Int))<;>rfl
  ·rfl
 ·rfl
theorem eQ (P:Program) (g:Bg) (t:TypeId) (m x:AV) (c:Bool) (k:AV→O R):jY P g t m x c k=(jY P g t m x c some).bind k:=by
 unfold jY
 split<;>simp[An,Adz]
theorem td (E:Env) (g:Bg) (d:Nat) (v:Operand→AV) (o:Op) (k:AV→Eh→O R):iK E g d v o k=(iK E g d v o pr).bind fun q=>k q.1 q.2:=by
 unfold iK
 split
 ·rfl
 ·rfl
 ·rw[eO,eO (k:=fun r=>pr r []),Adz];rfl
 ·rw[An,←lQ,←oB]
 ·rw[ZA,ZA (k:=fun u=>nM E.P g d _ u pr),Adz];congr 1;funext u;exact j8 ..
 ·rw[An,←lO];congr 1;rw[QI,QI,Adz];congr 1;funext x;exact tc ..
 ·rw[An,←bG,←WF]
 ·rw[FO,FO (k:=fun r=>pr r []),Adz];rfl
 ·exact nw ..
 ·split<;>rfl
 ·rw[eN,eN (k:=fun r=>pr r []),Adz];rfl
 ·rw[Adz];rfl
 ·exact oA ..
 ·rw[An];rfl
 ·exact qi ..
 ·rw[Y',Y' (k:=fun r=>pr r []),Adz];rfl
 ·rw[IC,IC (k:=fun r=>pr r []),Adz];rfl
 ·rw[YZ,YZ (k:=fun r=>pr r []),Adz];rfl
 ·rw[IB,IB (k:=fun r=>pr r []),Adz];rfl
 ·rw[Y_,Y_ (k:=fun r=>pr r []),Adz];rfl
 ·exact iQ ..
 ·exact oC ..
 ·rw[eQ,eQ (k:=fun r=>pr r []),Adz];rfl
 ·exact oD ..
 ·exact qo ..
 ·split
  ·rw[Adz];rfl
  ·rfl
 ·split
  ·split
   ·rw[Adz];rfl
   ·rfl
  ·split
   ·exact lP ..
   ·rfl
  ·split
   ·exact qk ..
   ·rfl
  ·split
   ·exact nz ..
   ·rfl
  ·split
   ·rw[Adz];rfl
   ·simp only[Adz];rfl
   ·rfl
  ·split
   ·rw[Adz];rfl
   ·simp only[Adz];rfl
   ·rfl
  ·split
   ·exact bH ..
   ·rfl
  ·split
   ·exact bI ..
   ·rfl
  ·split
   ·rw[An,←qn,An];congr 1;congr 1
    split<;>rfl
   ·rfl
  ·rfl
 ·rfl
end
end Gx
namespace Gx
open Go
theorem DI:∀ {l d:List Nat} {b:Nat},b ∈ YM l d↔b ∈ l∨b ∈ d
 | [],d,b=>by simp[YM]
 | i::r,d,b=>by
  rw[YM]
  cases f:H2 d i with
  | true =>
   simp only[cond_true]
   rw[DI]
   have:=Lw.1 f
   constructor
   ·rintro(h | h)
    ·exact .inl (by simp[h])
    ·exact .inr h
   ·rintro(h | h)
    ·rcases Ad6.1 h with e | h
     ·subst e;exact .inr this
     ·exact .inl h
    ·exact .inr h
  | false =>
   simp only[cond_false]
   rw[DI]
   simp only[Ad6]
   constructor
   ·rintro(h | h | h)
    ·exact .inl (.inr h)
    ·exact .inl (.inl h)
    ·exact .inr h
   ·rintro((h | h) | h)
    ·exact .inr (.inl h)
    ·exact .inl h
    ·exact .inr (.inr h)
theorem AR {g g':Bg}:∀ {l:List Nat},(∀ b ∈ l,g' b=g b)→Lt g' l=Lt g l
 | [],_=>rfl
 | i::r,h=>by
  rw[Lt,Lt,h i (by simp),AR (fun b d=>h b (by simp[d]))]
theorem SM {g:Bg}:∀ {a b:List Nat},Lt g (a++b)=Lt g a++Lt g b
 | [],b=>rfl
 | i::r,b=>by rw[Aeb,Lt,Lt,SM,Aea]
theorem oE {g g':Bg} {ids:List Nat} (h:∀ b ∈ Yu g ids,g' b=g b):Yu g' ids=Yu g ids:=by
 have e:∀ b ∈ ids,g' b=g b:=fun b d=>h b (DI.2 (.inl (Ad7.2 (.inl d))))
 have e1:Lt g' ids=Lt g ids:=AR e
 have f:∀ b ∈ Lt g ids,g' b=g b:=fun b d=>h b (DI.2 (.inl (Ad7.2 (.inr (by rw[SM];exact Ad7.2 (.inl d))))))
 unfold Yu
 rw[e1,AR (l:=ids++Lt g ids) (fun b d=>by
  rcases Ad7.1 d with d | d
  ·exact e b d
  ·exact f b d)]
section
variable {R:Type} {E:Env} {ops:Array Oper} {o p:Oper} {st x6 st2:St}
theorem ZC {v v':Operand→AV} {parts:Array (Nat×Operand)} (h:∀ q ∈ parts.toList,v' q.2=v q.2):(parts.toList.map fun q=>(q.1,v' q.2))=(parts.toList.map fun q=>(q.1,v q.2)) :=
 Agt (fun q hq=>by rw[h q hq])
theorem qp {g:Bg} {d:Nat} {v v':Operand→AV} {op:Op} {k:AV→Eh→O R} (h:∀ x ∈ op.operands.toList,v' x=v x):iK E g d v' op k=iK E g d v op k:=by
  unfold iK
  cases op
  case build t parts =>
    simp only
    rw[ZC (v:=v) (v':=v') (fun q hq=>h q.2 (by simp[Op.operands];exact⟨q.1,by simpa using hq⟩))]
  case buildSlice t n parts =>
    simp only
    rw[ZC (v:=v) (v':=v') (fun q hq=>h q.2 (by simp[Op.operands];exact⟨q.1,by simpa using hq⟩))]
  case slice t x lo hi mx =>
    simp only
    have e:v' x=v x:=h x (by simp[Op.operands])
    have l:lo.map v'=lo.map v:=by
      cases lo with
      | none=>rfl
      | some y=>simp;exact h y (by simp[Op.operands])
    have m:hi.map v'=hi.map v:=by
      cases hi with
      | none=>rfl
      | some y=>simp;exact h y (by simp[Op.operands])
    have s:mx.map v'=mx.map v:=by
      cases mx with
      | none=>rfl
      | some y=>simp;exact h y (by simp[Op.operands])
    rw[e,l,m,s]
  case makeMap t rr =>
    simp only
    have e:rr.map v'=rr.map v:=by
      cases rr with
      | none=>rfl
      | some y=>simp;exact h y (by simp[Op.operands])
    rw[e]
  case makeFunc f first caps =>
    cases f<;>try rfl
    simp only
    have:(first.toList++caps.toList).map v'=(first.toList++caps.toList).map v:=Agt (fun x hx=>h x (by simp[Op.operands];simpa using hx))
    rw[this]
  case call c =>
    have j:∀ x ∈ c.args.toList,v' x=v x:=fun x hx=>h x (by
      simp only[Op.operands,Call.operands,Array.toList_append]
      exact Ad7.2 (.inr hx))
    have u:c.args.toList.map v'=c.args.toList.map v:=Agt j
    simp only
    cases z:c.callee with
    | value f =>
      have A:v' f=v f:=h f (by simp[Op.operands,Call.operands,z])
      simp only[A,u]
    | invoke a b=>rfl
    | builtin b =>
      cases b<;>try rfl
      all_goals
        simp only
        split
        · first
            | (rename_i e l
               simp only[e,Ad6,Aei,or_false,forall_eq_or_imp,forall_eq] at j
               simp only[j])
            | (rename_i e
               simp only[e,Ad6,Aei,or_false,forall_eq_or_imp,forall_eq] at j
               simp only[j])
        all_goals first
          | rfl
          | (rename_i e
             simp only[e,Ad6,Aei,or_false,forall_eq_or_imp,forall_eq] at j
             simp only[j])
  all_goals first
    | rfl
    | (simp[Op.operands] at h;simp[h])
end
end Gx
namespace Gx
open Go
section
variable {R:Type} {E:Env} {ops:Array Oper} {o p:Oper} {st x6 st2 st3:St}
def s7 (ops:Array Oper) (o:Oper):List Nat:=match MS ops o with | some p=>[p.1] | none=>[]
def CF (o:Oper) (s:Hf):LA:=o.op.operands.toList.map (ev s)
def lR (h:Aw) (F:List Nat):Bg:=fun b=>cond (H2 F b) (Al h b) none
def Acn (o:Oper):Nat:=o.dst.getD 50000
def Sr (E:Env) (ops:Array Oper) (o:Oper) (st:St):Option (AV×Eh×Foot) :=
  (FB ops st.s o).bind fun wanted=>cond wanted
    ((iK E (lR st.h (Wa st.h o.op (CF o st.s))) (Acn o) (ev st.s) o.op pr).bind fun q =>
      cond (OV (Acn o) (Wa st.h o.op (CF o st.s)) st.h q.2) (some (q.1,q.2,{ r:=s7 ops o++QH o.op.operands.toList,w:=o.dst,f:=Wa st.h o.op (CF o st.s),u:=q.2.map (·.1) })) none)
    (some (.tup [],[],{ r:=s7 ops o,w:=o.dst,f:=[],u:=[] }))
def after (E:Env) (o:Oper) (st:St) (q:AV×Eh×Foot):St:={ s:=qV E.nt st.s o.dst q.1,h:=Ak q.2.1 st.h }
theorem MZ (k:St→Foot→O R):nP E ops o st k=(Sr E ops o st).bind fun q=>k (after E o st q) q.2.2:=by
 unfold nP Sr
 rw[Adz]
 congr 1;funext t
 rw[An]
 congr 1
 rw[td,Adz]
 congr 1;funext q
 rw[An]
 rfl
theorem eR:∀ {l:List Operand} {t:Nat},Operand.tmp t ∈ l→t ∈ QH l
 | [],t,h=>by simp at h
 | x::r,t,h=>by
  rcases Ad6.1 h with e | h'
  ·subst e;simp[QH]
  ·have d:=eR h'
   cases x<;>simp[QH]<;>first | exact .inr d | exact d
theorem ZD {d:Nat} {F:List Nat} {h e:Aw}:∀ {ups:Eh},(∀ b ∈ ups.map (·.1),Al e b=Al h b)→OV d F e ups=OV d F h ups
 | [],_=>rfl
 | (b,_)::r,f=>by rw[OV,OV,f b (by simp),ZD (fun c j=>f c (by simp at j ⊢;exact .inr j))]
theorem O' {s s2:Hf} (h:∀ t ∈ s7 ops o,Gp s2 t=Gp s t):FB ops s2 o=FB ops s o:=by
 unfold FB
 cases d:o.guard with
 | none=>rfl
 | some q =>
  obtain⟨j,want⟩:=q
  simp only
  cases e:(ops[j]?).bind (·.dst) with
  | none=>rfl
  | some t =>
   have:Gp s2 t=Gp s t:=h t (by simp[s7,MS,d,e])
   simp only[this]
theorem KA {q:AV×Eh×Foot} (m:Sr E ops o st=some q) (hr:∀ t ∈ q.2.2.r,Gp st2.s t=Gp st.s t) (d:∀ b,b ∈ q.2.2.f∨b ∈ q.2.2.u→Al st2.h b=Al st.h b):Sr E ops o st2=some q:=by
 have B:=m
 unfold Sr at m
 obtain⟨t,k,l⟩:=ub m
 cases t with
 | false =>
  simp at l;subst l
  unfold Sr
  rw[O' (s:=st.s) hr,k];rfl
 | true =>
  rw[cond_true] at l
  obtain⟨x,hx,C⟩:=ub l
  obtain⟨D,z⟩:=uc C
  simp at z;subst z
  simp only at hr d
  have A:∀ y ∈ o.op.operands.toList,ev st2.s y=ev st.s y:=fun y F=>by
   cases y with
   | tmp t=>exact hr t (Ad7.2 (.inr (eR F)))
   | const _=>rfl
   | global _=>rfl
   | func _=>rfl
  have e:CF o st2.s=CF o st.s:=Agt A
  have hF:Wa st2.h o.op (CF o st.s)=Wa st.h o.op (CF o st.s):=by
   unfold Wa at d ⊢
   cases n:sT o.op with
   | true =>
    rw[n] at d
    cases v:sU o.op with
    | true=>rfl
    | false=>rw[v] at d;exact oE (fun b j=>d b (.inl j))
   | false=>rfl
  have G:lR st2.h (Wa st.h o.op (CF o st.s))=lR st.h (Wa st.h o.op (CF o st.s)):=by
   funext b
   unfold lR
   cases j:H2 (Wa st.h o.op (CF o st.s)) b with
   | false=>rfl
   | true=>simp only[cond_true];exact d b (.inl (Lw.1 j))
  unfold Sr
  rw[O' (s:=st.s) (fun t k=>hr t (Ad7.2 (.inl k))),k]
  simp only[Ae4,cond_true]
  rw[e,hF,G,qp A,hx]
  simp only[Ae4]
  rw[ZD (h:=st.h) (fun b j=>d b (.inr j)),D]
  rfl
theorem M_:∀ {ups:Eh} {b:Nat},A9 ups b=true↔b ∈ ups.map (·.1)
 | [],b=>by simp[A9]
 | (i,_)::r,b=>by
  rw[A9]
  cases hi:beq i b with
  | true=>have:=Ad8 hi;subst this;simp
  | false =>
   have ne:=Wq hi
   simp only[cond_false]
   rw[M_]
   simp only[Ad5,Ad6]
   constructor
   ·exact fun h=>.inr h
   ·rintro(h | h)
    ·exact absurd h.symm ne
    ·exact h
theorem s8 {q:AV×Eh×Foot} (e:Sr E ops o st=some q):q.2.2.w=o.dst∧q.2.2.u=q.2.1.map (·.1):=by
 unfold Sr at e
 obtain⟨t,k,d⟩:=ub e
 cases t with
 | false=>simp at d;subst d;simp
 | true =>
  rw[cond_true] at d
  obtain⟨x,hx,j⟩:=ub d
  obtain⟨l,f⟩:=uc j
  simp at f;subst f;simp
theorem Hh:∀ (ups:Eh) {h e:Aw},(∀ b,Al e b=Al h b)→∀ b,Al (Ak ups e) b=Al (Ak ups h) b
 | [],_,_,d,b=>d b
 | (i,some x)::r,h,e,d,b=>Hh r (fun c=>by rw[Af,Af,d c]) b
 | (i,none)::r,h,e,d,b=>by
  rw[Ak,Ak]
  refine Hh r (fun c=>?_) b
  rw[d i]
  split
  ·rw[Af,Af,d c]
  ·exact d c
theorem oF {q:AV×Eh×Foot} (h:Eqv st st2):Eqv (after E o st q) (after E o st2 q):=by
 refine⟨fun t=>?_,fun b=>?_⟩
 ·unfold after;simp only;rw[Oh,Oh,h.1 t]
 ·exact(Hh q.2.1 (fun b=>(h.2 b).symm) b).symm
theorem Rm {i:Nat} {y:Blk}:∀ (ups:Eh) {h:Aw},A9 ups i=false→∀ b,Al (Ak ups (Fx h i y)) b=if b=i then some y else Al (Ak ups h) b
 | [],h,_,b=>Af h i y b
 | (j,some x)::r,h,hi,b=>by
  rw[A9] at hi
  cases d:beq j i with
  | true=>rw[d] at hi;simp at hi
  | false =>
   rw[d] at hi
   have ne:=Wq d
   rw[Ak,Ak,Hh r (h:=Fx (Fx h j x) i y) (fun c=>by
    rw[Af,Af,Af,Af]
    by_cases e1:c=j
    ·subst e1;simp[ne]
    ·simp[e1]) b]
   exact Rm r hi b
 | (j,none)::r,h,hi,b=>by
  rw[A9] at hi
  cases d:beq j i with
  | true=>rw[d] at hi;simp at hi
  | false =>
   rw[d] at hi
   have ne:=Wq d
   rw[Ak,Ak,Af,if_neg ne]
   split
   ·rename_i x hx
    rw[Hh r (h:=Fx (Fx h j { x with dead:=true,pure:=true,cells:=[] }) i y) (fun c=>by
     rw[Af,Af,Af,Af]
     by_cases e1:c=j
     ·subst e1;simp[ne]
     ·simp[e1]) b]
    exact Rm r hi b
   ·exact Rm r hi b
theorem Ue:∀ (u1 u2:Eh) (h:Aw),(∀ b,A9 u1 b=true→A9 u2 b=false)→∀ b,Al (Ak u2 (Ak u1 h)) b=Al (Ak u1 (Ak u2 h)) b
 | [],u2,h,_,b=>rfl
 | (i,some x)::r,u2,h,d,b=>by
  rw[Ak,Ak]
  have hi:A9 u2 i=false:=d i (by simp[A9])
  rw[Ue r u2 (Fx h i x) (fun c e=>d c (by rw[A9,e];cases beq i c<;>rfl)) b]
  refine Hh r (fun c=>?_) b
  rw[Rm u2 hi,Af]
 | (i,none)::r,u2,h,d,b=>by
  rw[Ak,Ak]
  have hi:A9 u2 i=false:=d i (by simp[A9])
  rw[Co u2 h i hi]
  split
  ·rename_i x hx
   rw[Ue r u2 _ (fun c e=>d c (by rw[A9,e];cases beq i c<;>rfl)) b]
   refine Hh r (fun c=>?_) b
   rw[Rm u2 hi,Af]
  ·exact Ue r u2 h (fun c e=>d c (by rw[A9,e];cases beq i c<;>rfl)) b
theorem eS:∀ {a l:List Nat},nO a l=true→∀ b ∈ a,b ∉ l
 | [],l,_,b,d=>by simp at d
 | i::r,l,h,b,d=>by
  rw[nO] at h;simp at h
  rcases Ad6.1 d with e | d
  ·subst e;intro f;rw[Lw.2 f] at h;simp at h
  ·exact eS h.2 b d
theorem eT {q:AV×Eh×Foot} {t:Nat} (h:o.dst≠some t):Gp (after E o st q).s t=Gp st.s t:=by
 unfold after;simp only;rw[Oh,if_neg (fun d=>h d.1)]
theorem eU {q:AV×Eh×Foot} {b:Nat} (h:b ∉ q.2.1.map (·.1)):Al (after E o st q).h b=Al st.h b:=by
 unfold after;simp only
 rw[Co]
 cases hi:A9 q.2.1 b with
 | false=>rfl
 | true=>exact absurd (M_.1 hi) h
theorem j9 {w:Option Nat} {l:List Nat} (h:Aal w l=false):∀ t ∈ l,w≠some t:=by
 intro t d e
 subst e
 rw[Aal,Lw.2 d] at h;cases h
theorem Aas {f d:AV×Eh×Foot} (n:Sr E ops p st=some f) (q:Sr E ops o (after E p st f)=some d) (hi:YN f.2.2 d.2.2=true) :
  Sr E ops o st=some d∧Sr E ops p (after E o st d)=some f∧Eqv (after E p (after E o st d) f) (after E o (after E p st f) d):=by
 unfold YN at hi
 simp only[Ad3,Ahc] at hi
 obtain⟨⟨⟨⟨i1,i2⟩,i3⟩,i4⟩,i5⟩:=hi
 obtain⟨s,u1⟩:=s8 n
 obtain⟨v,u2⟩:=s8 q
 have l:=eS i4
 have x:=eS i5
 have a1:Sr E ops o st=some d:=KA q (fun t m=>(eT (by rw[←s];exact j9 i1 t m)).symm) (fun b e=>(eU (fun k=>by
  rw[←u1] at k
  exact l b k (by rcases e with e | e<;>simp[e]))).symm)
 have a2:Sr E ops p (after E o st d)=some f:=KA n (fun t m=>eT (by rw[←v];exact j9 i2 t m)) (fun b e=>eU (fun k=>by
  rw[←u2] at k
  rcases e with e | e
  ·exact x b k e
  ·exact l b e (by simp[k])))
 refine⟨a1,a2,fun t=>?_,fun b=>?_⟩
 ·unfold after;simp only
  rw[Oh,Oh,Oh,Oh]
  by_cases e1:p.dst=some t∧t<E.nt
  ·by_cases j:o.dst=some t∧t<E.nt
   ·exfalso
    rw[s,v,e1.1,j.1] at i3
    simp at i3
   ·rw[if_pos e1,if_neg j,if_pos e1]
  ·by_cases j:o.dst=some t∧t<E.nt
   ·rw[if_neg e1,if_pos j,if_pos j]
   ·rw[if_neg e1,if_neg j,if_neg j,if_neg e1]
 ·unfold after;simp only
  refine(Ue f.2.1 d.2.1 st.h (fun c y=>?_) b).symm
  cases hx:A9 d.2.1 c with
  | false=>rfl
  | true =>
   have m1:c ∈ f.2.2.u:=by rw[u1];exact M_.1 y
   have m2:c ∈ d.2.2.u:=by rw[u2];exact M_.1 hx
   exact absurd (by simp[m2]) (l c m1)
def RunF (E:Env) (ops:Array Oper) (fp:Nat→Foot):List (Nat×Oper)→St→St→Prop
 | [],st,e=>Eqv st e
 | (i,o)::r,st,e=>∃ q,Sr E ops o st=some q∧q.2.2=fp i∧RunF E ops fp r (after E o st q) e
theorem RunF.congr {fp:Nat→Foot}:∀ {l:List (Nat×Oper)} {st st2 e:St},RunF E ops fp l st e→Eqv st st2→RunF E ops fp l st2 e
 | [],st,st2,e,h,d=>d.symm.trans h
 | (i,o)::r,st,st2,e,h,d=>by
  rw[RunF] at h ⊢
  obtain⟨q,f,j,k⟩:=h
  exact⟨q,KA f (fun t _=>(d.1 t).symm) (fun b _=>(d.2 b).symm),j,RunF.congr k (oF d)⟩
theorem RunF.pull {fp:Nat→Foot} {i:Nat} {o:Oper} {B:List (Nat×Oper)}:∀ {A:List (Nat×Oper)} {st e:St},RunF E ops fp (A++(i,o)::B) st e→(∀ jp ∈ A,YN (fp jp.1) (fp i)=true) →
  ∃ q,Sr E ops o st=some q∧q.2.2=fp i∧RunF E ops fp (A++B) (after E o st q) e
 | [],st,e,h,_=>h
 | (j,p)::A,st,e,h,hA=>by
  rw[Aeb,RunF] at h
  obtain⟨d,m,f,n⟩:=h
  obtain⟨k,s,l,t⟩:=RunF.pull n (fun jp u=>hA jp (by simp[u]))
  have hi:YN d.2.2 k.2.2=true:=by rw[f,l];exact hA (j,p) (by simp)
  obtain⟨a1,a2,a3⟩:=Aas m s hi
  refine⟨k,a1,l,?_⟩
  rw[Aeb,RunF]
  exact⟨d,a2,f,RunF.congr t a3.symm⟩
end
end Gx
namespace Gx
open Go
def s9:Nat→List Oper→List (Nat×Oper)
 | _,[]=>[]
 | n,o::r=>(n,o)::s9 (n+1) r
theorem dJ:∀ {l:List Oper} {n:Nat} {p:Nat×Oper},p ∈ s9 n l↔n≤p.1∧l[p.1 - n]?=some p.2
 | [],n,p=>by simp[s9]
 | o::r,n,p=>by
  rw[s9,Ad6,dJ]
  constructor
  ·rintro(rfl | ⟨f,d⟩)
   ·simp
   ·refine⟨by omega,?_⟩
    rw[show p.1 - n=(p.1 - (n+1))+1 by omega];simpa using d
  ·rintro⟨f,d⟩
   by_cases e:p.1=n
   ·left
    rw[e] at d;simp at d
    obtain⟨a,b⟩:=p
    simp at e d;subst e d;rfl
   ·right
    refine⟨by omega,?_⟩
    rw[show p.1 - n=(p.1 - (n+1))+1 by omega] at d;simpa using d
theorem eV:∀ (l:List Oper) (n:Nat),(s9 n l).Pairwise (fun a b=>a.1<b.1)
 | [],n=>List.Pairwise.nil
 | o::r,n=>by
  rw[s9]
  refine Aha.2 ⟨fun p d=>?_,eV r (n+1)⟩
  have:=(dJ.1 d).1
  show n<p.1;omega
section
variable {R:Type} {r:R} {Z:Start} {E:Env} {ops:Array Oper}
def RunL (E:Env) (ops:Array Oper):List Oper→List Foot→St→St→Prop
 | [],[],st,e=>st=e
 | o::l,f::fs,st,e=>∃ st' q,Eqv st st'∧Sr E ops o st'=some q∧q.2.2=f∧RunL E ops l fs (after E o st' q) e
 | _,_,_,_=>False
theorem oG:∀ {l:List Oper} {st:St} {tr:List Foot} {k:St→List Foot→O R},dX E ops l st tr k=some r→∃ fs e,k e (fs.reverse++tr)=some r∧RunL E ops l fs st e
 | [],st,tr,k,h=>⟨[],st,by simpa[dX] using h,rfl⟩
 | o::l,st,tr,k,h=>by
  rw[dX] at h
  obtain⟨st',d,h⟩:=eJ h
  rw[MZ] at h
  obtain⟨q,f,j⟩:=ub h
  obtain⟨fs,e,m,n⟩:=oG j
  exact⟨q.2.2::fs,e,by simpa using m,st',q,d,f,rfl,n⟩
theorem RunL.length:∀ {l:List Oper} {fs:List Foot} {st e:St},RunL E ops l fs st e→fs.length=l.length
 | [],[],_,_,_=>rfl
 | [],_::_,_,_,h=>h.elim
 | _::_,[],_,_,h=>h.elim
 | o::l,f::fs,st,e,⟨_,q,_,_,_,h⟩=>by simp[RunL.length h]
theorem RunL.runF {fp:Nat→Foot}:∀ {l:List Oper} {fs:List Foot} {n:Nat} {st e:St},RunL E ops l fs st e→(∀ (j:Nat) (f:Foot),fs[j]?=some f→fp (n+j)=f)→RunF E ops fp (s9 n l) st e
 | [],[],n,st,e,h,_=>by subst h;exact Eqv.refl _
 | [],_::_,_,_,_,h,_=>h.elim
 | _::_,[],_,_,_,h,_=>h.elim
 | o::l,f::fs,n,st,e,⟨st',q,k,m,s,t⟩,d=>by
  rw[s9]
  refine RunF.congr ?_ k.symm
  rw[RunF]
  refine⟨q,m,by rw[s];exact(d 0 f (by simp)).symm,RunL.runF t (fun j g u=>?_)⟩
  have:=d (j+1) g (by simpa using u)
  rwa [show n+(j+1)=n+1+j by omega] at this
theorem ZE {f:Foot} {anc:List Nat}:∀ {seen:List Foot} {i:Nat},SB f anc i seen=true→∀ (j:Nat) (g:Foot),seen[j]?=some g→(i+j) ∈ anc∨YN g f=true
 | [],i,_,j,g,d=>by simp at d
 | x::r,i,h,j,g,d=>by
  rw[SB] at h;simp only[Ad3,Bool.or_eq_true] at h
  cases j with
  | zero =>
   simp at d;subst d
   rcases h.1 with e | e
   ·exact .inl (Lw.1 e)
   ·exact .inr e
  | succ j =>
   have:=ZE h.2 j g (by simpa using d)
   rwa [show i+1+j=i+(j+1) by omega] at this
theorem eX:∀ {fs:List Foot} {az9:List (List Nat)} {seen:List Foot},MT fs az9 seen=true→∀ (i:Nat) (f:Foot),fs[i]?=some f →
  ∃ a,az9[i]?=some a∧∀ (j:Nat) (g:Foot),(seen++fs)[j]?=some g→j<seen.length+i→j ∈ a∨YN g f=true
 | [],az9,seen,_,i,f,d=>by simp at d
 | x::r,[],seen,h,i,f,d=>by simp[MT] at h
 | x::r,a::az9,seen,h,i,f,d=>by
  rw[MT] at h;simp only[Ad3] at h
  cases i with
  | zero =>
   simp at d;subst d
   refine⟨a,by simp,fun j g e k=>?_⟩
   rw[Aev,if_pos (by omega)] at e
   simpa using ZE h.1 j g e
  | succ i =>
   obtain⟨l,m,n⟩:=eX h.2 i f (by simpa using d)
   refine⟨l,by simpa using m,fun j g e k=>n j g ?_ (by simp;omega)⟩
   simpa using e
theorem CG:∀ {l:List Oper} {d:List (List Nat)} {i:Nat},i<d.length→(Ha l d)[i]?=d[i]?
 | [],d,i,_=>rfl
 | o::r,d,i,hi=>by
  rw[Ha,DE,CG (by simp;omega),Aev,if_pos hi]
theorem FP:∀ {l:List Oper} {d:List (List Nat)} {i:Nat} {a:List Nat},(Ha l d)[i]?=some a→d.length≤i→∃ o,l[i - d.length]?=some o ∧
  ∀ k ∈ a,k ∈ FC o∨∃ j n,j ∈ FC o∧j<i∧(Ha l d)[j]?=some n∧k ∈ n
 | [],d,i,a,h,hi=>by
  rw[Ha,Afo hi] at h;cases h
 | o::r,d,i,a,h,hi=>by
  by_cases e:i=d.length
  ·subst e
   rw[Ha,DE,CG (by simp)] at h
   simp only[List.getElem?_concat_length,Af2] at h
   refine⟨o,by simp,fun k f=>?_⟩
   rw[←h,DI] at f
   replace f:=f.resolve_right (by simp)
   rcases Ad7.1 f with f | f
   ·exact .inl f
   ·right
    obtain⟨j,t,f⟩:=Agq.1 f
    cases q:d[j]? with
    | none=>rw[q] at f;simp at f
    | some n =>
     rw[q] at f;simp at f
     have m:j<d.length:=(Aed.1 q).1
     exact⟨j,n,t,m,by rw[CG m];exact q,f⟩
  ·rw[Ha,DE] at h
   obtain⟨o',s,u⟩:=FP h (by simp;omega)
   refine⟨o',?_,fun k f=>?_⟩
   ·simp at s
    rw[show i - d.length=(i - (d.length+1))+1 by omega];simpa using s
   ·rw[Ha,DE];exact u k f
theorem SN:∀ {l:List Oper} {n i:Nat} {o:Oper},Ym n l=true→l[i]?=some o→∀ e ∈ o.after,JT e=true→e.on<n+i
 | [],n,i,o,_,hi,_,_,_=>by simp at hi
 | x::r,n,i,o,h,hi,e,d,f=>by
  rw[Ym] at h;simp only[Ad3] at h
  cases i with
  | zero =>
   simp at hi;subst hi
   have:=Ae3.1 h.1 e (by simpa using d)
   rw[f] at this;simpa using this
  | succ i =>
   have:=SN h.2 (by simpa using hi) e d f
   omega
theorem j_ (e:Edge):Region.binds .any e=JT e:=by
 unfold Region.binds JT
 cases e.ground<;>rfl
theorem qq {listed:Array Bool} (hclosed:∀ (j:Nat) (o:Oper),ops[j]?=some o→listed.getD j true=true→∀ k ∈ FC o,listed.getD k false=true) :
  ∀ (i:Nat) (a:List Nat) (o:Oper),(Ha ops.toList [])[i]?=some a→ops[i]?=some o→(∀ k ∈ FC o,listed.getD k false=true)→∀ k ∈ a,listed.getD k false=true:=by
 intro i
 induction i using Nat.strongRecOn with
 | _ i s =>
  intro a o t u n k v
  obtain⟨o',f,x⟩:=FP t (by simp)
  simp at f
  rw[u] at f;simp at f;subst f
  rcases x k v with l | ⟨j,y,l,z,q,A⟩
  ·exact n k l
  ·have d:=n j l
   obtain⟨oj,e,_⟩:=FP q (by simp)
   simp at e
   have m:listed.getD j true=true:=by
    rw[Af0] at d ⊢
    cases hx:listed[j]? with
    | none=>rw[hx] at d;simp at d
    | some b=>rw[hx] at d;simpa using d
   exact s j z y oj q e (hclosed j oj e m) k A
def AM (ops:Array Oper) (listed:Array Bool):List (Nat×Oper):=(s9 0 ops.toList).filter fun p=>!listed.getD p.1 true
theorem KB (listed:Array Bool):(AM ops listed).Pairwise (fun a b=>a.1<b.1):=(eV _ _).filter _
theorem DJ {listed:Array Bool} {p:Nat×Oper}:p ∈ AM ops listed↔ops[p.1]?=some p.2∧listed.getD p.1 true=false:=by
 unfold AM
 rw[Af6,dJ]
 simp
theorem oH {listed:Array Bool} {i:Nat} {o:Oper} {A B:List (Nat×Oper)} (h:AM ops listed=A++(i,o)::B):AM ops (listed.setIfInBounds i true)=A++B:=by
 have hi:(i,o) ∈ AM ops listed:=by rw[h];simp
 have d:=(DJ.1 hi).2
 have j:i<listed.size:=by
  rw[Af0] at d
  rcases Ahp i listed.size with k | k
  ·exact k
  ·rw[Aff k] at d;simp at d
 have m:AM ops (listed.setIfInBounds i true)=(AM ops listed).filter fun p=>!beq p.1 i:=by
  unfold AM
  rw[List.filter_filter]
  congr 1;funext p
  by_cases e:p.1=i
  ·rw[e];simp[j]
  ·rw[getD_set_ne true (fun n=>e n.symm),IT e];simp
 rw[m,h,List.filter_append,Agi]
 have hs:=KB (ops:=ops) listed
 rw[h] at hs
 have f:=Ahx.1 hs
 have hB:=Aha.1 f.2.1
 have e1:A.filter (fun p=>!beq p.1 i)=A:=Ag5.2 (fun p l=>by
  have:p.1<i:=f.2.2 p l (i,o) (by simp)
  rw[IT (by omega)];rfl)
 have q:B.filter (fun p=>!beq p.1 i)=B:=Ag5.2 (fun p l=>by
  have:i<p.1:=hB.1 p l
  rw[IT (by omega)];rfl)
 rw[e1,q];simp
theorem te (hC:QK E) {Q:Exit→Act→World→Prop} {fp:Nat→Foot} {e:St} (hfw:Ym 0 ops.toList=true)
  (C:∀ (i j:Nat) (o:Oper),ops[i]?=some o→j<i→∃ a,(Ha ops.toList [])[i]?=some a∧(j ∈ a∨YN (fp j) (fp i)=true))
  (hQ:∀ a' w' J' β',Inv Z E.nt J' β' e a' w'→Q .normal a' w') :
  ∀ (fuel:Nat) (listed:Array Bool) {st:St} {a:Act} {w:World} {J:Bool→Nat→Prop} {β:Ch},listed.size=ops.size→(AM ops listed).length=fuel →
   (∀ (j:Nat) (o:Oper),ops[j]?=some o→listed.getD j true=true→∀ k ∈ FC o,listed.getD k false=true) →
   RunF E ops fp (AM ops listed) st e→Inv Z E.nt J β st a w→wpAny E.P .any ops Q fuel listed a w:=by
 intro fuel
 have fin:∀ (listed:Array Bool) {st:St} {a:Act} {w:World} {J:Bool→Nat→Prop} {β:Ch},AM ops listed=[]→RunF E ops fp (AM ops listed) st e→Inv Z E.nt J β st a w→Region.ready .any ops listed=[]∧Q .normal a w:=by
  intro listed st a w J β hr d I
  refine⟨List.eq_nil_iff_forall_not_mem.2 (fun i hi=>?_),?_⟩
  ·obtain⟨D,o,t,_⟩:=mem_ready.1 hi
   have:(i,o) ∈ AM ops listed:=DJ.2 ⟨t,D⟩
   rw[hr] at this;simp at this
  ·rw[hr,RunF] at d
   exact hQ _ _ J β (I.eqv d)
 induction fuel with
 | zero =>
  intro listed st a w J β _ l _ d I
  exact fin listed (Agv.1 l) d I
 | succ fuel ih =>
  intro listed st a w J β F l hclosed d I
  refine⟨fun G=>?_,fun i hi=>?_⟩
  ·
   cases m:AM ops listed with
   | nil=>rw[m] at l;simp at l
   | cons p r =>
    exfalso
    have hp:p ∈ AM ops listed:=by rw[m];simp
    obtain⟨n,hl⟩:=DJ.1 hp
    have hs:=KB (ops:=ops) listed
    rw[m] at hs
    have L:=(Aha.1 hs).1
    have:p.1 ∈ Region.ready .any ops listed:=mem_ready.2 ⟨hl,p.2,n,fun x z hb=>by
     rw[j_] at hb
     have u:=SN hfw (i:=p.1) (o:=p.2) (by simpa using n) x z hb
     simp at u
     have M:x.on<ops.size:=by have:=(Afb.1 n).1;omega
     cases hx:listed.getD x.on true with
     | true =>
      rw[Af0] at hx ⊢
      rw[Array.getElem?_eq_getElem (by omega)] at hx ⊢
      simpa using hx
     | false =>
      have hm:(x.on,ops[x.on]) ∈ AM ops listed:=DJ.2 ⟨by simp[M],hx⟩
      rw[m] at hm
      rcases Ad6.1 hm with e1 | e1
      ·have:x.on=p.1:=by rw[←e1]
       omega
      ·have:=L _ e1
       simp at this;omega⟩
    rw[G] at this;simp at this
  ·obtain⟨hl,o,n,S⟩:=mem_ready.1 hi
   have T:(i,o) ∈ AM ops listed:=DJ.2 ⟨n,hl⟩
   obtain⟨A,B,hAB⟩:=List.append_of_mem T
   have y:∀ k ∈ FC o,listed.getD k false=true:=by
    intro k U
    unfold FC at U
    obtain⟨x,z,rfl⟩:=Aef.1 U
    obtain⟨D,t⟩:=Af6.1 z
    exact S x (by simpa using D) (by rw[j_];exact t)
   have hs:=KB (ops:=ops) listed
   rw[hAB] at hs
   have hs':=Ahx.1 hs
   rw[hAB] at d
   obtain⟨q,g1,g2,g3⟩:=d.pull (fun jp V=>by
    have u:jp.1<i:=hs'.2.2 jp V (i,o) (by simp)
    obtain⟨an,D,t⟩:=C i jp.1 o n u
    rcases t with t | t
    ·exfalso
     have:=qq hclosed i an o D n y jp.1 t
     have hjm:jp ∈ AM ops listed:=by rw[hAB];simp[V]
     have X:=(DJ.1 hjm).2
     rw[Af0] at this X
     cases hx:listed[jp.1]? with
     | none=>rw[hx] at this;simp at this
     | some b=>rw[hx] at this X;simp at this X;rw[this] at X;cases X
    ·exact t)
   have Y:nP E ops o st (fun s f=>some (s,f))=some (after E o st q,q.2.2):=by rw[MZ,g1];rfl
   obtain⟨st',f,h4,h5⟩:=eI (K:=wpAny E.P .any ops Q fuel (listed.setIfInBounds i true)) (Q:=Q) hC I Y
   simp only[Af2,Prod.mk.injEq] at h4
   obtain⟨rfl,rfl⟩:=h4
   have u:i<listed.size:=by rw[F];exact(Afb.1 n).1
   have:=h5 (fun a' w' J' β' I'=>ih (listed.setIfInBounds i true) (by simp[F]) (by
     rw[oH hAB];rw[hAB] at l;simp at l ⊢;omega) (fun j oj v hj k U=>?_) (by rw[oH hAB];exact g3) I')
   ·unfold wpOp
    rw[n]
    simp only
    split
    ·rename_i hw;rw[if_pos hw] at this;exact .inl this
    ·rename_i hw;rw[if_neg hw] at this;exact this
   ·by_cases e1:j=i
    ·subst e1
     rw[n] at v;simp at v;subst v
     exact getD_set_true (y k U)
    ·rw[getD_set_ne true (fun e'=>e1 e'.symm)] at hj
     exact getD_set_true (hclosed j oj v hj k U)
end
end Gx
namespace Gx
open Go
section
variable {R:Type} {r:R} {Z:Start} {E:Env}
theorem iR (hC:QK E) (T:E.P.follows .mixedOrders=true) {roots:List Nat} {id:Nat} {ops:Array Oper} {draw:Bool} {st:St} {k:St→O R} {a:Act} {w:World} {J:Bool→Nat→Prop} {β:Ch} {Q:Exit→Act→World→Prop}
  (I:Inv Z E.nt J β st a w) (D:FD E roots ops draw st k=some r) (hQ:∀ st' m w' J' β',Inv Z E.nt J' β' st' m w'→k st'=some r→Q .normal m w'):(Code.region id ops draw).wp E.P Q a w:=by
 unfold FD at D
 have done:∀ {st':St} {tr:List Foot} {m:Act} {w':World} {J':Bool→Nat→Prop} {β':Ch},Inv Z E.nt J' β' st' m w' →
   cond (!draw||(Ym 0 ops.toList&&MT tr.reverse (Ha ops.toList []) [])) ((clean (st'.s.map (·.1)) roots st').bind k) none=some r→Q .normal m w':=by
  intro st' tr m w' J' β' I' h'
  obtain⟨_,B⟩:=uc h'
  obtain⟨st2,C,M⟩:=ub B
  obtain⟨β2,I2⟩:=nv I' C
  exact hQ _ _ _ _ _ I2 M
 cases draw with
 | false=>exact wp_region_list (eK hC _ I D (fun st' U m w' J' β' I' h'=>done I' h'))
 | true =>
  obtain⟨fs,e,B,C⟩:=oG D
  obtain⟨S,M⟩:=uc B
  simp at S
  obtain⟨F,v⟩:=S
  have y:=C.length
  refine wp_region_any T ?_
  have I':Inv Z E.nt J β st a w.drew:=I.step (Step.drew I.sim) (fun b x hx hn=>by rw[hx] at hn;cases hn)
  have d:AM ops (Array.replicate ops.size false)=s9 0 ops.toList:=by
   unfold AM
   refine Ag5.2 (fun p V=>?_)
   have:=(dJ.1 V).2
   have q:p.1<ops.size:=by
    simp at this
    exact(Afb.1 this).1
   simp[q]
  have z:(s9 0 ops.toList).length=ops.size:=by
   have:∀ (l:List Oper) (n:Nat),(s9 n l).length=l.length:=by
    intro l
    induction l with
    | nil=>intro n;rfl
    | cons o r X=>intro n;simp[s9,X]
   rw[this];simp
  have A:RunF E ops (fun i=>fs.getD i { r:=[],w:=none,f:=[],u:=[] }) (s9 0 ops.toList) st e:=C.runF (fun j f t=>by simp[t])
  refine te hC (fp:=fun i=>fs.getD i { r:=[],w:=none,f:=[],u:=[] }) (e:=e) F (fun i j o G L=>?_) (fun m w' J' β' Ie=>done (tr:=fs.reverse++[]) Ie B) ops.size _ (by simp) (by rw[d,z]) (fun j o G t=>?_) (by rw[d];exact A) I'
  ·have hi:i<fs.length:=by rw[y];simpa using(Afb.1 G).1
   obtain⟨an,Y,g2⟩:=eX v i fs[i] (Ad1 hi)
   refine⟨an,Y,?_⟩
   have t:j<fs.length:=by omega
   have:=g2 j fs[j] (by simp[t]) (by simpa using L)
   simpa[hi,t] using this
  ·exfalso
   have q:j<ops.size:=(Afb.1 G).1
   simp[q] at t
end
end Gx
namespace Gx
open Go
theorem SO (ρ:Nat→Nat):∀ c:LA,(Wp ρ c).length=c.length
 | []=>rfl
 | x::r=>by rw[Wp,Adx,Adx,SO ρ r]
theorem Nc (ρ:Nat→Nat) (x:Blk):(AL ρ x).cells.length=x.cells.length:=by
 unfold AL;cases x.pure
 ·simp;exact SO _ _
 ·rfl
theorem ja {ρ:Nat→Nat}:∀ {c:LA} {j:Nat} {y:AV},(Wp ρ c)[j]?=some y→∃ x,c[j]?=some x∧y=NP ρ x
 | [],j,y,d=>by simp[Wp] at d
 | x::r,j,y,d=>by
  rw[Wp] at d
  cases j with
  | zero=>simp at d;exact⟨x,by simp,d.symm⟩
  | succ j=>obtain⟨x',e,f⟩:=ja (c:=r) (j:=j) (by simpa using d);exact⟨x',by simpa using e,f⟩
section
variable {R:Type} {r:R} {J J':Bool→Nat→Prop} {β β':Ch} {h h':Aw} {w w':World} {ids:List Nat} {ρ:Nat→Nat}
theorem Oi {g:Bg}:∀ {ids:List Nat},(ids.map ρ).Nodup→∀ c y,Al (sub g ρ ids) c=some y→∃ b x,b ∈ ids∧ρ b=c∧g b=some x∧y=AL ρ x
 | [],_,c,y,d=>by simp[sub,Al] at d
 | b::r,hn,c,y,d=>by
  rw[Ad5,Ae5] at hn
  rw[sub] at d
  split at d
  ·rename_i x hx
   rw[Af] at d
   by_cases e:c=ρ b
   ·rw[if_pos e] at d;simp at d
    exact⟨b,x,by simp,e.symm,hx,d.symm⟩
   ·rw[if_neg e] at d
    obtain⟨f,x',j,k,l,m⟩:=Oi hn.2 c y d
    exact⟨f,x',by simp[j],k,l,m⟩
  ·obtain⟨f,x',j,k,l,m⟩:=Oi hn.2 c y d
   exact⟨f,x',by simp[j],k,l,m⟩
theorem AS {g:Bg}:∀ {ids:List Nat},(ids.map ρ).Nodup→∀ b x,b ∈ ids→g b=some x→Al (sub g ρ ids) (ρ b)=some (AL ρ x)
 | [],_,b,x,d,_=>by simp at d
 | j::r,hn,b,x,d,hx=>by
  rw[Ad5,Ae5] at hn
  rw[sub]
  by_cases e:b=j
  ·subst e
   rw[hx]
   simp only
   rw[Af,if_pos rfl]
  ·have f:b ∈ r:=by simpa[e] using d
   have ne:ρ b≠ρ j:=fun h=>hn.1 (by rw[←h];exact Aef.2 ⟨b,f,rfl⟩)
   split
   ·rw[Af,if_neg ne];exact AS hn.2 b x f hx
   ·exact AS hn.2 b x f hx
def vF (ρ:Nat→Nat) (ids:List Nat) (c:Nat):Option Nat:=ids.find? fun b=>beq (ρ b) c
theorem vG (hn:(ids.map ρ).Nodup) {b:Nat} (d:b ∈ ids):vF ρ ids (ρ b)=some b:=by
 induction ids with
 | nil=>simp at d
 | cons i r f =>
  rw[Ad5,Ae5] at hn
  unfold vF at f ⊢
  rw[List.find?_cons]
  by_cases e:b=i
  ·subst e;simp
  ·have j:b ∈ r:=by simpa[e] using d
   have ne:ρ i≠ρ b:=fun h=>hn.1 (by rw[h];exact Aef.2 ⟨b,j,rfl⟩)
   rw[IT ne];exact f hn.2 j
def ID (ρ:Nat→Nat) (ids:List Nat) (β:Ch):Ch:=fun c=>(vF ρ ids c).bind β
theorem Hi (hn:(ids.map ρ).Nodup) {b:Nat} (d:b ∈ ids):ID ρ ids β (ρ b)=β b:=by
 unfold ID;rw[vG hn d];rfl
mutual
theorem Rep.ren (hn:(ids.map ρ).Nodup):∀ {x:AV} {v:Value},(∀ b ∈ Hg x,b ∈ ids)→Rep J β h w x v→Rep J (ID ρ ids β) (sub (Al h) ρ ids) w (NP ρ x) v
 | .own b off n,v,hm,hr=>by
  rw[Rep] at hr
  obtain⟨x,A,cap,⟨hx,hmp⟩,h1,h2,h3⟩:=hr
  have hb:=hm b (by simp[Hg])
  rw[NP,Rep]
  refine⟨AL ρ x,A,cap,⟨AS hn b x hb hx,hmp⟩,h1,h2,?_⟩
  rw[Nc,Hi hn hb]
  exact h3
 | .optr b off,v,hm,hr=>by
  rw[Rep] at hr
  obtain⟨x,k,o,⟨hx,hmp⟩,h1,h2⟩:=hr
  have hb:=hm b (by simp[Hg])
  rw[NP,Rep]
  refine⟨AL ρ x,k,o,⟨AS hn b x hb hx,hmp⟩,h1,?_⟩
  rw[Hi hn hb]
  exact h2
 | .omap b,v,hm,hr=>by
  rw[Rep] at hr
  obtain⟨x,k,⟨hx,hmp⟩,h2⟩:=hr
  have hb:=hm b (by simp[Hg])
  rw[NP,Rep]
  refine⟨AL ρ x,k,⟨AS hn b x hb hx,hmp⟩,?_⟩
  rw[Hi hn hb]
  exact h2
 | .agg c,v,hm,hr=>by
  rw[Rep] at hr
  obtain⟨cs,h1,h2⟩:=hr
  rw[NP,Rep]
  exact⟨cs,h1,Reps.ren hn (by simpa[Hg] using hm) h2⟩
 | .tup c,v,hm,hr=>by
  rw[Rep] at hr
  obtain⟨cs,h1,h2⟩:=hr
  rw[NP,Rep]
  exact⟨cs,h1,Reps.ren hn (by simpa[Hg] using hm) h2⟩
 | .fn f c,v,hm,hr=>by
  rw[Rep] at hr
  obtain⟨cs,h1,h2⟩:=hr
  rw[NP,Rep]
  exact⟨cs,h1,Reps.ren hn (by simpa[Hg] using hm) h2⟩
 | .pagg c o,v,hm,hr=>by show Rep J _ _ w (.pagg c o) v;rw[Rep] at hr ⊢;exact hr
 | .undef,v,hm,hr=>by show Rep J _ _ w (.undef) v;rw[Rep] at hr ⊢;exact hr
 | .imm c n sz t o,v,hm,hr=>by show Rep J _ _ w (.imm c n sz t o) v;rw[Rep] at hr ⊢;exact hr
 | .iptr c o,v,hm,hr=>by show Rep J _ _ w (.iptr c o) v;rw[Rep] at hr ⊢;exact hr
 | .int k n,v,hm,hr=>by show Rep J _ _ w (.int k n) v;rw[Rep] at hr ⊢;exact hr
 | .bool b,v,hm,hr=>by show Rep J _ _ w (.bool b) v;rw[Rep] at hr ⊢;exact hr
 | .str s,v,hm,hr=>by show Rep J _ _ w (.str s) v;rw[Rep] at hr ⊢;exact hr
 | .nsl,v,hm,hr=>by show Rep J _ _ w (.nsl) v;rw[Rep] at hr ⊢;exact hr
 | .nilptr,v,hm,hr=>by show Rep J _ _ w (.nilptr) v;rw[Rep] at hr ⊢;exact hr
 | .nilfn,v,hm,hr=>by show Rep J _ _ w (.nilfn) v;rw[Rep] at hr ⊢;exact hr
theorem Reps.ren (hn:(ids.map ρ).Nodup):∀ {c:List AV} {cs:List Value},(∀ b ∈ I5 c,b ∈ ids)→Reps J β h w c cs→Reps J (ID ρ ids β) (sub (Al h) ρ ids) w (Wp ρ c) cs
 | [],cs,hm,hr=>by rw[Reps] at hr;rw[Wp,Reps];exact hr
 | x::r,cs,hm,hr=>by
  rw[Reps] at hr
  obtain⟨u,us,h1,h2,h3⟩:=hr
  rw[Wp,Reps]
  exact⟨u,us,h1,Rep.ren hn (fun b hb=>hm b (by simp[I5,hb])) h2,Reps.ren hn (fun b hb=>hm b (by simp[I5,hb])) h3⟩
end
theorem SimH.ren (S:SimH J β h w) (hn:(ids.map ρ).Nodup) (A:∀ b ∈ Lt (Al h) ids,b ∈ ids):SimH J (ID ρ ids β) (sub (Al h) ρ ids) w:=by
 refine⟨S.jlt,S.jft,S.gl,fun c y m n B=>?_,fun c y m n B=>by
   obtain⟨b,x,e,rfl,hx,rfl⟩:=Oi hn c y m
   obtain⟨l,s,k,ob,C,D,z,F⟩:=S.mblk b x hx n B
   have:(AL ρ x).cells=x.cells:=by unfold AL;rw[l];rfl
   exact⟨l,s,k,ob,by rw[Hi hn e];exact C,D,by rw[ObjIs,show(AL ρ x).sz=x.sz from rfl,this];exact z,F⟩,?_⟩
 ·obtain⟨b,x,e,rfl,hx,rfl⟩:=Oi hn c y m
  rcases S.blk b x hx n B with⟨l,s⟩ | ⟨k,o,cs,ty,fr,l,s,C,D,z,F,V⟩
  ·refine .inl ⟨by rw[Hi hn e];exact l,?_⟩
   have:=Nc ρ x;rw[s] at this;simpa using this
  ·refine .inr ⟨k,o,cs,ty,fr,by rw[Hi hn e];exact l,s,C,by rw[Nc];exact D,⟨fun G=>?_,fun G j q T=>?_⟩,F,V⟩
   ·have d:x.pure=true:=G
    have:(AL ρ x).cells=x.cells:=by unfold AL;rw[d];rfl
    rw[this];exact z.1 d
   ·have d:x.pure=false:=G
    have:(AL ρ x).cells=Wp ρ x.cells:=by unfold AL;rw[d];rfl
    rw[this] at T
    obtain⟨X,hq,rfl⟩:=ja T
    obtain⟨u,Y,hr,ho⟩:=z.2 d j X hq
    exact⟨u,Y,Rep.ren hn (fun t f=>A t (WD e hx d t (WE hq t f))) hr,ho⟩
 ·intro c c' y y' k o o' m I n L hs U v
  obtain⟨b,x,e,rfl,hx,rfl⟩:=Oi hn c y m
  obtain⟨t,x',f,rfl,M,rfl⟩:=Oi hn c' y' I
  rw[Hi hn e] at U
  rw[Hi hn f] at v
  rw[S.sep b t x x' k o o' hx M n L hs U v]
theorem lS (hn:(ids.map ρ).Nodup) {k:Nat} (e:nT (ID ρ ids β) (sub (Al h) ρ ids) k):nT β h k:=by
 obtain⟨c,y,o,f,j,hs,d⟩:=e
 obtain⟨b,x,l,rfl,hx,rfl⟩:=Oi hn c y f
 rw[Hi hn l] at d
 exact⟨b,x,o,hx,j,hs,d⟩
end
end Gx
namespace Gx
open Go
theorem Po {ids:List Nat}:∀ {l:List Nat},HX ids l=true→∀ b ∈ l,b ∈ ids
 | [],_,b,d=>by simp at d
 | i::r,h,b,d=>by
  rw[HX] at h
  simp at h
  rcases Ad6.1 d with rfl | d
  ·exact Lw.1 h.1
  ·exact Po h.2 b d
theorem Y3 {d:Nat}:∀ {l:List Nat} {base b:Nat},b ∈ l→base≤Jk d (A1 base l) b∧Jk d (A1 base l) b<base+l.length
 | [],base,b,e=>by simp at e
 | i::r,base,b,e=>by
  rw[A1,Jk]
  cases hi:beq i b with
  | true=>simp
  | false =>
   have f:=Wq hi
   have j:b ∈ r:=by
    rcases Ad6.1 e with h | h
    ·exact absurd h.symm f
    ·exact h
   have:=Y3 (d:=d) (base:=base+1) j
   simp only[cond_false,Adx]
   omega
theorem oI {free ids:List Nat} {b:Nat} (h:DF free b=true):Yx free ids b=b:=by unfold Yx;rw[h];rfl
theorem lT {free ids:List Nat} {b:Nat} (h:DF free b=false) (d:b ∈ ids):300000≤Yx free ids b:=by
 unfold Yx uv;rw[h]
 exact(Y3 (Af6.2 ⟨d,by simp[h]⟩)).1
theorem eY {b:Nat}:d5 b=true↔100000≤b∧b<200000:=by unfold d5;simp
theorem ZF {free ids:List Nat} {b c:Nat} (e:b ∈ ids) (f:100000≤c∧c<200000) (d:Yx free ids b=c):b=c:=by
 cases hr:DF free b with
 | true=>rw[oI hr] at d;exact d
 | false=>have:=lT hr e;omega
theorem DK {ρ:Nat→Nat} {K:List Nat}:∀ {s:Hf} {i:Nat},Gp (uw ρ K s) i=if H2 K i=true then NP ρ (Gp s i) else .undef
 | [],i=>by
  show AV.undef=if H2 K i=true then NP ρ .undef else AV.undef
  simp[NP]
 | (t,v)::r,i=>by
  rw[uw]
  by_cases e:t=i
  ·subst e
   cases d:H2 K t with
   | true=>simp[Gp]
   | false=>simp only[cond_false];rw[DK];simp[d]
  ·have f:beq t i=false:=IT e
   cases d:H2 K t with
   | true=>simp only[cond_true,Gp,f,cond_false];exact DK
   | false=>simp only[cond_false,Gp,f];exact DK
theorem oJ {g:Bg} {l:List Nat} {b:Nat} (h:b ∈ AP g l):∃ x,g b=some x∧x.dead=false:=by
 unfold AP at h
 obtain⟨_,d⟩:=Af6.1 h
 unfold Gm at d
 cases hx:g b with
 | none=>simp[hx] at d
 | some x =>
  cases e:x.dead with
  | false=>exact⟨x,rfl,e⟩
  | true=>simp[hx,e] at d
section
variable {Z:Start} {nt:Nat} {J:Bool→Nat→Prop} {β:Ch} {st st':St} {a:Act} {w:World}
def AV.isz:AV→Nat
 | .imm _ _ s _ _=>s
 | _=>0
theorem Oj {live:List Nat}:∀ (nils:List (Nat×Nat)) {st:St} {J:Bool→Nat→Prop} {β:Ch},Inv Z nt J β st a w→FE live nils st=some st'→∃ J' β',Inv Z nt J' β' st' a w
 | [],st,J,β,I,f=>by simp[FE] at f;subst f;exact⟨J,β,I⟩
 | (t,sz)::r,st,J,β,I,f=>by
  rw[FE] at f
  cases m:ble 1000000 sz with
  | true =>
   rw[m,cond_true] at f
   split at f
   ·rename_i G hs
    refine Oj r (J:=J) (β:=β) (st:={ s:=QC st.s t (.imm [] 0 (sz - 1000000) false false),h:=st.h }) ?_ f
    refine { I with ss:=⟨fun i v k=>?_,fun i hi=>?_⟩ }
    ·rw[Of]
     by_cases e:i=t
     ·subst e
      have:=I.ss.slot i v k
      rw[hs,Rep] at this
      subst this
      rw[if_pos rfl,Rep,RepC]
      exact⟨by simp,none,0,rfl,Ad4 _,fun _=>rfl,.inl rfl⟩
     ·rw[if_neg e];exact I.ss.slot i v k
    ·rw[Of]
     by_cases e:i=t
     ·subst e
      have:=I.ss.out i hi
      rw[hs] at this;cases this
     ·rw[if_neg e];exact I.ss.out i hi
   ·rename_i b off n G hs
    obtain⟨⟨v',ups,org⟩,q,L⟩:=ub f
    by_cases u:∃ v,a.tmps[t]?=some v
    ·obtain⟨v0,z⟩:=u
     have hr:=I.ss.slot t v0 z
     rw[hs] at hr
     obtain⟨J1,A,l,_⟩:=JW I.sim (fun b x M=>⟨x,M,rfl⟩) q hr
     have I1:=I.step A (fun c x hx hn=>by
      exfalso
      unfold OU at q
      obtain⟨y,C,j⟩:=ub q
      obtain⟨_,j⟩:=uc j
      simp at j
      obtain⟨_,j,_⟩:=j
      subst j
      simp only[Ak,Af] at hx
      unfold Gm at C
      obtain⟨y0,B,_⟩:=ub C
      by_cases e:c=b
      ·subst e;rw[hn] at B;cases B
      ·rw[if_neg e,hn] at hx;cases hx)
     refine Oj r (J:=J1) (β:=β) (st:={ s:=QC st.s t v',h:=Ak ups st.h }) ?_ L
     have D:∃ c,v'=.imm c n (v'.isz) false org:=by
      unfold OU at q
      obtain⟨y,C,j⟩:=ub q
      obtain⟨_,j⟩:=uc j
      simp at j
      obtain⟨j,_,S⟩:=j
      subst j S
      exact⟨_,rfl⟩
     refine { I1 with ss:=⟨fun i v k=>?_,fun i hi=>?_⟩ }
     ·rw[Of]
      by_cases e:i=t
      ·subst e
       rw[if_pos rfl]
       rw[z] at k;simp at k;subst k
       obtain⟨c,T⟩:=D
       rw[T] at l ⊢
       rw[Rep];exact l
      ·rw[if_neg e];exact I1.ss.slot i v k
     ·rw[Of]
      by_cases e:i=t
      ·subst e
       have:=I.ss.out i hi
       rw[hs] at this;cases this
      ·rw[if_neg e];exact I1.ss.out i hi
    ·exfalso
     have:=I.ss.out t (by
      cases h:a.tmps[t]? with
      | none=>simp at h;omega
      | some v=>exact absurd ⟨v,h⟩ u)
     rw[hs] at this;cases this
   ·exact Oj r I f
  | false =>
   rw[m,cond_false] at f
   split at f
   ·rename_i G hs
    cases F:Al st.h (nid t+15) with
    | some x=>simp[F] at f
    | none =>
     simp[F] at f
     have A:=Step.newNone I.sim (d:=nid t+15) (x:=Gq sz) F rfl
     have I1:=I.step A (fun b x hx hn=>by
      rw[Af] at hx
      by_cases e:b=nid t+15
      ·subst e;unfold nid Hv;omega
      ·rw[if_neg e,hn] at hx;cases hx)
     refine Oj r (J:=J) (β:=fun b=>if b=nid t+15 then none else β b) (st:={ s:=QC st.s t (.own (nid t+15) 0 0),h:=Fx st.h (nid t+15) (Gq sz) }) ?_ f
     refine { I1 with ss:=⟨fun i v k=>?_,fun i hi=>?_⟩ }
     ·rw[Of]
      by_cases e:i=t
      ·subst e
       rw[if_pos rfl,Rep]
       have:=I.ss.slot i v k
       rw[hs,Rep] at this
       subst this
       exact⟨Gq sz,none,0,⟨by rw[Af,if_pos rfl],rfl⟩,rfl,Ad4 _,.inl rfl⟩
      ·rw[if_neg e];exact I1.ss.slot i v k
     ·rw[Of]
      by_cases e:i=t
      ·subst e
       have:=I.ss.out i hi
       rw[hs] at this;cases this
      ·rw[if_neg e];exact I1.ss.out i hi
   ·exact Oj r I f
theorem KC {E:Env} {live roots:List Nat} (I:Inv Z nt J β st a w) (j:HY E live roots st=some st'):∃ J' β',Inv Z nt J' β' st' a w:=by
 unfold HY at j
 obtain⟨s1,q,t⟩:=ub j
 obtain⟨J1,β1,I1⟩:=Oj _ I q
 obtain⟨l,m⟩:=uc t
 simp at l m
 subst m
 obtain⟨hn,hs,hi,_⟩:=l
 have hn:=Tf hn
 have e:∀ b ∈ Lt (Al s1.h) (AP (Al s1.h) (Yu (Al s1.h) (dY live s1.s++roots))),b ∈ AP (Al s1.h) (Yu (Al s1.h) (dY live s1.s++roots)):=Po hi
 refine⟨J1,ID _ _ β1,{ I1 with sim:=I1.sim.ren hn e,ss:=⟨fun i v u=>?_,fun i hi=>?_⟩,wr:=fun k y=>I1.wr k (lS hn y),outs:=fun b x0 x f hx z=>?_ }⟩
 ·rw[DK]
  cases A:H2 live i with
  | false=>simp[Rep]
  | true =>
   simp only[if_true]
   exact Rep.ren hn (fun b B=>Po hs b (eM A b B)) (I1.ss.slot i v u)
 ·rw[DK,I1.ss.out i hi];simp[NP]
 ·obtain⟨C,x',d,n,D,rfl⟩:=Oi hn b x hx
  have:=ZF d ⟨I1.zge b x0 f,I1.zlt b x0 f⟩ n
  subst this
  obtain⟨⟨e1,em⟩,F,e3,e4⟩:=I1.outs C x0 x' f D z
  refine⟨⟨?_,em⟩,F,by rw[Nc];exact e3,e4⟩
  have:=Hi (β:=β1) hn d
  rw[n] at this
  rw[this];exact e1
end
end Gx
namespace Gx
open Go
section
variable {R:Type} {r:R} {Z:Start} {E:Env}
theorem oK (hC:QK E) (A:E.P.follows .mixedOrders=true) {roots:List Nat} {N:Nat}:∀ (c:Code) {H:Hint} {kn:St→O R} {kx:Nat→St→O R} {kr:St→O R} {st:St} {a:Act} {w:World} {J:Bool→Nat→Prop} {β:Ch} {Q:Exit→Act→World→Prop},
  Inv Z E.nt J β st a w→Ek E roots N c H kn kx kr st=some r →
  (∀ st' e w' J' β',Inv Z E.nt J' β' st' e w'→kn st'=some r→Q .normal e w') →
  (∀ id st' e w' J' β',Inv Z E.nt J' β' st' e w'→kx id st'=some r→Q (.exit id) e w') →
  (∀ st' e w' J' β',Inv Z E.nt J' β' st' e w'→kr st'=some r→Q .ret e w')→c.wp E.P Q a w:=by
 intro c
 induction c with
 | skip=>intro H kn kx kr st a w J β Q I d hn hx hr;exact wp_skip (hn _ _ _ _ _ I d)
 | region id ops draw=>intro H kn kx kr st a w J β Q I d hn hx hr;exact iR hC A I d hn
 | seq x y l f =>
  intro H kn kx kr st a w J β Q I d hn hx hr
  rw[Ek] at d
  refine wp_seq (l I d (fun st' e w' J' β' I' h'=>?_) (fun id st' e w' J' β' I' h'=>hx id st' e w' J' β' I' h') (fun st' e w' J' β' I' h'=>hr st' e w' J' β' I' h'))
  unfold nQ at h'
  cases m:H.isJoin with
  | true =>
   rw[m,cond_true,T8] at h'
   obtain⟨s2,q,s⟩:=ub h'
   obtain⟨J2,β2,I2⟩:=KC I' q
   exact f I2 s hn hx hr
  | false=>rw[m] at h';exact f I' h' hn hx hr
 | cond c x y l f =>
  intro H kn kx kr st a w J β Q I d hn hx hr
  rw[Ek] at d
  split at d
  ·rename_i t B
   have z:=Bf I.ss c
   rw[B,Rep] at z
   refine wp_cond z ?_
   cases t with
   | true=>exact l I d hn hx hr
   | false=>exact f I d hn hx hr
  ·simp at d
 | block id c u =>
  intro H kn kx kr st a w J β Q I d hn hx hr
  rw[Ek] at d
  refine wp_block (u I d (fun st' e w' J' β' I' h'=>hn _ _ _ _ _ I' h') (fun j st' e w' J' β' I' h'=>?_) (fun st' e w' J' β' I' h'=>hr _ _ _ _ _ I' h'))
  cases m:beq j id with
  | true =>
   rw[m] at h'
   have:=Ad8 m
   subst this
   simp only[Exit.inBlock,if_true]
   exact hn _ _ _ _ _ I' h'
  | false =>
   rw[m] at h'
   simp only[Exit.inBlock]
   rw[if_neg (Wq m)]
   exact hx _ _ _ _ _ _ I' h'
 | loop c u =>
  intro H kn kx kr st a w J β Q I d hn hx hr
  rw[Ek,T8] at d
  refine wp_loop_rounds N ?_
  have key:∀ (n:Nat) {st:St} {a:Act} {w:World} {J:Bool→Nat→Prop} {β:Ch},Inv Z E.nt J β st a w→HZ (HY E H.live roots) (fun k st=>Ek E roots N c H.a k kx kr st) n st=some r→Code.rounds E.P c Q n a w:=by
   intro n
   induction n with
   | zero=>intro st a w J β I h';simp[HZ] at h'
   | succ n v =>
    intro st a w J β I h'
    rw[HZ] at h'
    rw[rounds_succ]
    refine u I h' (fun st' e w' J' β' I' h''=>?_) (fun id st' e w' J' β' I' h''=>hx _ _ _ _ _ _ I' h'') (fun st' e w' J' β' I' h''=>hr _ _ _ _ _ I' h'')
    obtain⟨s2,q,s⟩:=ub h''
    obtain⟨J2,β2,I2⟩:=KC I' q
    exact v I2 s
  obtain⟨s2,q,s⟩:=ub d
  obtain⟨J2,β2,I2⟩:=KC I q
  exact key N I2 s
 | exit id=>intro H kn kx kr st a w J β Q I d hn hx hr;exact wp_exit (hx _ _ _ _ _ _ I d)
 | ret=>intro H kn kx kr st a w J β Q I d hn hx hr;exact wp_ret (hr _ _ _ _ _ I d)
 | rangeFunc=>intro H kn kx kr st a w J β Q I d;simp[Ek] at d
 | scope=>intro H kn kx kr st a w J β Q I d;simp[Ek] at d
 | label=>intro H kn kx kr st a w J β Q I d;simp[Ek] at d
 | goto=>intro H kn kx kr st a w J β Q I d;simp[Ek] at d
 | refuse=>intro H kn kx kr st a w J β Q I d;simp[Ek] at d
end
end Gx
namespace Gx
open Go
structure FDone (Z:Start) (J:Bool→Nat→Prop) (β:Ch) (h:Aw) (w:World):Prop where
 sim:SimH J β h w
 os:w.os=Z.w.os
 tape:w.tape=Z.w.tape
 output:w.output=Z.w.output
 size:Z.w.heap.size≤w.heap.size
 frame:∀ k,k<Z.w.heap.size→¬ nT Z.β Z.h k→w.heap[k]?=Z.w.heap[k]?
 wr:∀ k,nT β h k→k<Z.w.heap.size→nT Z.β Z.h k
 jsub:∀ o k,Z.J o k→J o k
 jup:∀ o k,J o k→Z.J o k∨nT Z.β Z.h k∨Z.w.heap.size≤k
 sizes:∀ k,Ba Z.w k≤Ba w k
 outs:∀ b x0 x,Al Z.h b=some x0→Al h b=some x→x.dead=false→(β b=Z.β b∧x.mp=x0.mp)∧x.sz=x0.sz∧(x0.mp=false→x.cells.length=x0.cells.length)∧x0.dead=false
 live:∀ b x,Al h b=some x→x.dead=false
def th (P:Program) (f:Nat) (args:LA) (h:Aw) (res:AV) (h':Aw):Prop :=
 ∀ (J:Bool→Nat→Prop) (β:Ch) (w:World) (vs:List Value),SimH J β h w→Reps J β h w args vs →
  Calls P f vs.toArray w fun e w'=>∃ vc J' β',e=.returned vc∧FDone ⟨J,β,h,w⟩ J' β' h' w'∧Rep J' β' h' w' res vc
def WG (P:Program) (f:Nat) (t:Tw):Prop:=∀ args h res h',(t.runK args h fun v h'=>some (v,h'))=some (res,h')→th P f args h res h'
def eZ (P:Program):List (Nat×Tw)→Prop
 | []=>True
 | p::r=>WG P p.1 p.2∧eZ P r
theorem oL {P:Program} {R:Type} {r:R}:∀ {T:List (Nat×Tw)},eZ P T→∀ {f:Nat} {d:LA} {h:Aw} {k:AV→Aw→O R},R_ T f d h k=some r →
  ∃ res h',th P f d h res h'∧k res h'=some r
 | [],_,f,d,h,k,e=>by simp[R_] at e
 | (g,t)::T,hT,f,d,h,k,e=>by
  rw[R_] at e
  cases j:beq g f with
  | false=>rw[j] at e;exact oL hT.2 e
  | true =>
   rw[j] at e
   have:=Ad8 j
   subst this
   simp only[cond_true] at e
   rw[t.eq] at e
   obtain⟨⟨res,h'⟩,l,m⟩:=ub e
   exact⟨res,h',hT.1 d h res h' l,m⟩
section
variable {R:Type} {r:R} {Z:Start} {nt:Nat} {J:Bool→Nat→Prop} {β:Ch} {st:St} {a:Act} {w:World}
def SP (tmps:Array Value):ResultVar→Sem Value
 | .tmp t=>pure (tmps.getD t undef)
 | .cell a t=>do loadVar t (←Go.asAddr (tmps.getD a undef))
theorem vH {α β:Type} (f:α→Sem β) (xs:Array α):xs.mapM f=(List.toArray <$> xs.toList.mapM f):=by
 rw[←List.mapM_toArray]
theorem qr (fn:Func) (tmps:Array Value):results fn tmps=(do let vs ←fn.results.mapM (SP tmps);pure (if h:vs.size=1 then vs[0] else .tuple vs)):=by
 unfold results
 congr 1
def oM (l:List Value):Value:=match l with | [v]=>v | l=>.tuple l.toArray
theorem oN {P:Program} (fn:Func) (tmps:Array Value) {vs:List Value} (h:(fn.results.toList.mapM (SP tmps)).run P w=.ok vs w):(results fn tmps).run P w=.ok (oM vs) w:=by
 rw[qr,vH]
 simp only[map_eq_pure_bind,Sem.run_bind,h,Result.andThen_ok,Sem.run_pure]
 congr 1
 match vs with
 | []=>rfl
 | [v]=>rfl
 | v::u::r=>simp[oM]
theorem oO {P:Program} {t:TypeId} {v vc:Value} (h:(Instr.loadAt t v).run P w=.ok vc w):(do loadVar t (←Go.asAddr v):Sem Value).run P w=.ok vc w:=by
 unfold Instr.loadAt at h
 cases v with
 | pointer a =>
  cases a with
  | some a=>exact h
  | none=>simp[Instr.sureAddr] at h
 | _=>simp[Instr.sureAddr] at h
theorem CH {E:Env} (S:SimH J β st.h w) (SS:SimS J β st.h w st.s a.tmps):∀ (l:List ResultVar) {d:LA} {k:LA→O R},Oe E st l d k=some r →
  ∃ vals vs,k (d.reverse++vals)=some r∧(l.mapM (SP a.tmps)).run E.P w=.ok vs w∧Reps J β st.h w vals vs
 | [],d,k,e=>⟨[],[],by simpa[Oe] using e,by simp,by rw[Reps]⟩
 | .tmp t::l,d,k,e=>by
  rw[Oe] at e
  obtain⟨vals,vs,f,j,m⟩:=CH S SS l e
  refine⟨Gp st.s t::vals,a.tmps.getD t undef::vs,by simpa using f,?_,by rw[Reps];exact⟨_,_,rfl,Bf SS (.tmp t),m⟩⟩
  simp only[Ahu,SP,Sem.run_bind,Sem.run_pure,Result.andThen_ok,j]
 | .cell ad t::l,d,k,e=>by
  rw[Oe] at e
  obtain⟨v,vc,n,f,j⟩:=YR S (fun _ _ h=>h) e (Bf SS (.tmp ad))
  obtain⟨vals,vs,m,q,u⟩:=CH S SS l n
  refine⟨v::vals,vc::vs,by simpa using m,?_,by rw[Reps];exact⟨_,_,rfl,j,u⟩⟩
  have:(SP a.tmps (.cell ad t)).run E.P w=.ok vc w:=oO f
  simp only[Ahu,Sem.run_bind,this,Sem.run_pure,Result.andThen_ok,q]
theorem qs {i:Nat} {m:Nat×Nat} {v v':AV} {ups:Eh} {vc:Value} {h:Aw} (S:SimH J β h w) (d:xp (Al h) i m v=some (v',ups)) (f:Rep J β h w v vc) :
  ∃ J' β',Step J β h w J' β' (Ak ups h) w∧Rep J' β' (Ak ups h) w v' vc∧(∀ b x,Al (Ak ups h) b=some x→Al h b=none→Hv≤b):=by
 have old:∀ {ups:Eh},(∀ b,A9 ups b=true→∃ x,Al h b=some x)→∀ b x,Al (Ak ups h) b=some x→Al h b=none→Hv≤b:=by
  intro ups z b x hx hn
  cases hi:A9 ups b with
  | true=>obtain⟨y,B⟩:=z b hi;rw[B] at hn;cases hn
  | false=>rw[Co _ _ _ hi,hn] at hx;cases hx
 unfold xp at d
 cases q:beq m.1 0 with
 | true =>
  rw[q] at d;simp at d
  obtain⟨rfl,rfl⟩:=d
  exact⟨J,β,Step.refl S,f,old (by simp[A9])⟩
 | false =>
  rw[q,cond_false] at d
  cases t:beq m.1 1 with
  | true =>
   rw[t,cond_true] at d
   split at d
   ·simp at d;obtain⟨rfl,rfl⟩:=d
    rw[Rep] at f;subst f
    refine⟨J,β,Step.refl S,?_,old (by simp[A9])⟩
    rw[Rep,RepC]
    exact⟨by simp,none,0,rfl,Ad4 _,by simp,.inl rfl⟩
   ·simp at d;obtain⟨rfl,rfl⟩:=d
    refine⟨J,β,Step.refl S,?_,old (by simp[A9])⟩
    rw[Rep,RepC] at f ⊢
    obtain⟨e1,A,cap,C,e3,e4,D⟩:=f
    exact⟨e1,A,cap,C,e3,by simp,D⟩
   ·obtain⟨⟨F,G,I⟩,hq,k⟩:=ub d
    simp at k;obtain⟨rfl,rfl⟩:=k
    obtain⟨J',A,hA,_⟩:=JW S (Looks.s fun _ _ h=>h) hq f
    refine⟨J',β,A,?_,old (j6 hq)⟩
    unfold OU at hq
    obtain⟨x,hx,j⟩:=ub hq
    obtain⟨_,u⟩:=uc j
    simp at u
    obtain⟨rfl,rfl,rfl⟩:=u
    rw[Rep];exact hA
   ·simp at d
  | false =>
   rw[t,cond_false] at d
   cases k:beq m.1 2 with
   | true =>
    rw[k,cond_true] at d
    split at d
    ·obtain⟨hn,j⟩:=qY d
     simp at j;obtain⟨rfl,rfl⟩:=j
     have n:Al h (nid 90000+i)=none:=by cases hx:Al h (nid 90000+i)<;>simp_all
     have A:=Step.newNone S (x:=Gq m.2) n rfl
     refine⟨J,fun b=>if b=nid 90000+i then none else β b,A,?_,fun b x hx L=>?_⟩
     ·rw[Rep] at f;subst f;rw[Rep]
      exact⟨Gq m.2,none,0,⟨by simp only[Ak];rw[Af,if_pos rfl],rfl⟩,rfl,Ad4 _,.inl rfl⟩
     ·simp only[Ak] at hx
      rw[Af] at hx
      by_cases e:b=nid 90000+i
      ·subst e;unfold nid Hv;omega
      ·rw[if_neg e,L] at hx;cases hx
    ·simp at d;obtain⟨rfl,rfl⟩:=d
     exact⟨J,β,Step.refl S,f,old (by simp[A9])⟩
   | false =>
    rw[k,cond_false] at d
    split at d
    ·rename_i c
     obtain⟨⟨F,G,I⟩,hq,j⟩:=ub d
     simp at j;obtain⟨rfl,rfl⟩:=j
     rw[Rep] at f
     obtain⟨cs,rfl,M⟩:=f
     obtain⟨J',A,hA,l,_⟩:=Rk S (Looks.s fun _ _ h=>h) hq M
     refine⟨J',β,A,?_,old (Yz hq)⟩
     rw[Rep]
     exact⟨cs,rfl,l.symm,hA⟩
    ·simp at d;obtain⟨rfl,rfl⟩:=d
     exact⟨J,β,Step.refl S,f,old (by simp[A9])⟩
    ·simp at d
theorem ZG {s:Hf}:∀ (vals:LA) {i:Nat} {ms:List (Nat×Nat)} {h h':Aw} {vals':LA} {vs:List Value} {J:Bool→Nat→Prop} {β:Ch},
  Inv Z nt J β { s:=s,h:=h } a w→nR h i ms vals=some (vals',h')→Reps J β h w vals vs →
  ∃ J' β',Inv Z nt J' β' { s:=s,h:=h' } a w∧Reps J' β' h' w vals' vs∧∀ x v,Rep J β h w x v→Rep J' β' h' w x v
 | [],i,ms,h,h',vals',vs,J,β,I,d,f=>by
  simp[nR] at d;obtain⟨rfl,rfl⟩:=d
  exact⟨J,β,I,f,fun _ _ h=>h⟩
 | v::r,i,ms,h,h',vals',vs,J,β,I,d,f=>by
  rw[nR] at d
  obtain⟨⟨v1,u1⟩,n,q⟩:=ub d
  obtain⟨⟨y,hr⟩,t,l⟩:=ub q
  simp at l;obtain⟨rfl,rfl⟩:=l
  rw[Reps] at f
  obtain⟨u,us,rfl,j,k⟩:=f
  obtain⟨J1,β1,A,hA,e⟩:=qs I.sim n j
  have I1:=I.step A e
  obtain⟨J2,β2,I2,hB,m⟩:=ZG r I1 t (Reps.ext A.ext k)
  refine⟨J2,β2,I2,?_,fun x v h=>m x v (Rep.ext A.ext h)⟩
  rw[Reps]
  exact⟨u,us,rfl,m _ _ hA,hB⟩
theorem iS {E:Env} {fn:Func} {modes:List (Nat×Nat)} {outs:List Nat} {k:AV→Aw→O R} (I:Inv Z nt J β st a w) (t:T9 E fn modes outs k st=some r) :
  ∃ res h' vc J' β',k res h'=some r∧(results fn a.tmps).run E.P w=.ok vc w∧FDone Z J' β' h' w∧Rep J' β' h' w res vc:=by
 unfold T9 at t
 obtain⟨vals,vs,y,C,D⟩:=CH I.sim I.ss _ t
 simp only[List.reverse_nil,Afr] at y
 obtain⟨⟨vals',h'⟩,F,G⟩:=ub y
 obtain⟨J1,β1,I1,hR,_⟩:=ZG (s:=st.s) vals I F D
 obtain⟨z,L⟩:=uc G
 simp at z
 obtain⟨hn,hs,hi,_⟩:=z
 have hn:=Tf hn
 have f:=Po hi
 have hs:=Po hs
 refine⟨_,_,oM vs,J1,ID _ _ β1,L,oN fn a.tmps C,?_,Rep.ren hn hs ?_⟩
 ·exact⟨I1.sim.ren hn f,I1.os,I1.tape,I1.output,I1.size,I1.frame,fun k M=>I1.wr k (lS hn M),I1.jsub,I1.jup,I1.sizes,fun b x0 x j hx S=>by
   obtain⟨A,x',e,m,n,rfl⟩:=Oi hn b x hx
   have:=ZF e ⟨I1.zge b x0 j,I1.zlt b x0 j⟩ m
   subst this
   obtain⟨⟨e1,em⟩,T,e3,e4⟩:=I1.outs A x0 x' j n S
   refine⟨⟨?_,em⟩,T,by rw[Nc];exact e3,e4⟩
   have:=Hi (β:=β1) hn e
   rw[m] at this
   rw[this];exact e1,fun b x hx=>by
   obtain⟨A,x',e,m,n,rfl⟩:=Oi hn b x hx
   obtain⟨x2,q,U⟩:=oJ e
   rw[n] at q;simp at q;subst q;exact U⟩
 ·match vals',vs,hR with
  | [],vs,hR=>rw[Reps] at hR;subst hR;simp only[oM,xq];rw[Rep];exact⟨[],rfl,by rw[Reps]⟩
  | [v],vs,hR =>
   rw[Reps] at hR
   obtain⟨u,us,rfl,B,d⟩:=hR
   rw[Reps] at d;subst d
   exact B
  | v::v2::l,vs,hR =>
   have hR':=hR
   rw[Reps] at hR
   obtain⟨u,us,rfl,B,d⟩:=hR
   rw[Reps] at d
   obtain⟨u2,us2,rfl,_,_⟩:=d
   simp only[oM,xq]
   rw[Rep]
   exact⟨_,rfl,hR'⟩
end
end Gx
namespace Gx
open Go
section
variable {J J':Bool→Nat→Prop} {β:Ch} {h:Aw} {w:World}
mutual
theorem Rep.noOrg:∀ {x:AV} {v:Value},CC x=false→Rep J β h w x v→Rep (fun _=>J false) β h w x v
 | .own ..,v,_,hr=>by rw[Rep] at hr ⊢;exact hr
 | .optr ..,v,_,hr=>by rw[Rep] at hr ⊢;exact hr
 | .omap ..,v,_,hr=>by rw[Rep] at hr ⊢;exact hr
 | .pagg c o,v,ho,hr=>by
  rw[CC] at ho;subst ho
  rw[Rep] at hr ⊢;exact hr
 | .agg c,v,ho,hr=>by
  rw[CC] at ho
  rw[Rep] at hr ⊢
  obtain⟨cs,h1,h2⟩:=hr
  exact⟨cs,h1,Reps.noOrg ho h2⟩
 | .tup c,v,ho,hr=>by
  rw[CC] at ho
  rw[Rep] at hr ⊢
  obtain⟨cs,h1,h2⟩:=hr
  exact⟨cs,h1,Reps.noOrg ho h2⟩
 | .fn f c,v,ho,hr=>by
  rw[CC] at ho
  rw[Rep] at hr ⊢
  obtain⟨cs,h1,h2⟩:=hr
  exact⟨cs,h1,Reps.noOrg ho h2⟩
 | .undef,_,_,_=>by rw[Rep];trivial
 | .imm c n sz t o,v,ho,hr=>by
  rw[CC] at ho;subst ho
  rw[Rep] at hr ⊢;exact hr
 | .iptr c o,v,ho,hr=>by
  rw[CC] at ho;subst ho
  rw[Rep] at hr ⊢;exact hr
 | .int ..,v,_,hr=>by rw[Rep] at hr ⊢;exact hr
 | .bool _,v,_,hr=>by rw[Rep] at hr ⊢;exact hr
 | .str _,v,_,hr=>by rw[Rep] at hr ⊢;exact hr
 | .nsl,v,_,hr=>by rw[Rep] at hr ⊢;exact hr
 | .nilptr,v,_,hr=>by rw[Rep] at hr ⊢;exact hr
 | .nilfn,v,_,hr=>by rw[Rep] at hr ⊢;exact hr
theorem Reps.noOrg:∀ {c:List AV} {cs:List Value},T7 c=false→Reps J β h w c cs→Reps (fun _=>J false) β h w c cs
 | [],_,_,hr=>by rw[Reps] at hr ⊢;exact hr
 | x::r,cs,ho,hr=>by
  rw[T7] at ho
  simp at ho
  rw[Reps] at hr ⊢
  obtain⟨u,us,h1,h2,h3⟩:=hr
  exact⟨u,us,h1,Rep.noOrg ho.1 h2,Reps.noOrg ho.2 h3⟩
end
theorem e9:∀ {c:LA} {j:Nat} {x:AV},T7 c=false→c[j]?=some x→CC x=false
 | [],j,x,_,d=>by simp at d
 | y::r,j,x,e,d=>by
  rw[T7] at e
  simp at e
  cases j with
  | zero=>simp at d;subst d;exact e.1
  | succ j=>exact e9 e.2 (by simpa using d)
theorem e_:∀ {h:Aw} {b:Nat} {x:Blk},SA h=false→Al h b=some x→x.taint=false∧(x.pure=false→T7 x.cells=false)
 | [],b,x,_,d=>by simp[Al] at d
 | (i,y)::r,b,x,e,d=>by
  rw[SA] at e
  simp at e
  rw[Al] at d
  cases hi:beq i b with
  | true =>
   rw[hi] at d;simp at d;subst d
   refine⟨e.1.1,fun f=>?_⟩
   have:=e.1.2
   rw[f] at this;simpa using this
  | false=>rw[hi] at d;exact e_ e.2 (by simpa using d)
theorem SimH.noOrg (S:SimH J β h w) (y:SA h=false):SimH (fun _=>J false) β h w:=by
 refine⟨fun _ k d=>S.jlt _ k d,fun k d=>d,S.gl.to (fun _ h=>h) (fun _ _=>rfl),fun b x hx f l=>?_,fun b x hx f l=>by
   obtain⟨m,n,k,ob,q,z,A,B⟩:=S.mblk b x hx f l
   exact⟨m,n,k,ob,q,z,A,fun _ C=>B false C⟩,S.sep⟩
 obtain⟨t,D⟩:=e_ y hx
 rcases S.blk b x hx f l with s | ⟨k,o,cs,ty,fr,s,F,G,I,v,L,M⟩
 ·exact .inl s
 ·refine .inr ⟨k,o,cs,ty,fr,s,F,G,I,⟨fun e=>?_,fun e j c d=>?_⟩,fun hs _=>L hs _,fun hs=>?_⟩
  ·have:=v.1 e;rw[t] at this;exact this
  ·obtain⟨u,m,n,q⟩:=v.2 e j c d
   exact⟨u,m,Rep.noOrg (e9 (D e) d) n,q⟩
  ·have:=M hs;rw[t] at this;exact this
theorem Ext.grow (hJ:∀ o k,J o k→J' o k):Ext J β h w J' β h w:=⟨hJ,fun _ _ _=>rfl,fun b x d=>⟨x,⟨d,rfl⟩,by cases e:x.dead<;>simp⟩,fun _ _ _ _=>Ad4 _⟩
theorem SimH.grow (S:SimH J β h w) (hJ:∀ o k,J o k→J' o k) (j:∀ o k,J' o k→k<w.heap.size) (l:∀ k,J' false k→J' true k)
  (d:∀ b x k o,Al h b=some x→x.dead=false→x.sealed=false→β b=some (k,o)→∀ g,¬ J' g k):SimH J' β h w:=by
 refine⟨j,l,S.gl.to (hJ false) (fun _ _=>rfl),fun b x hx e m=>?_,fun b x hx e m=>by
   obtain⟨s,n,k,ob,q,t,u,C⟩:=S.mblk b x hx e m
   exact⟨s,n,k,ob,q,t,u,d b x k 0 hx e n q⟩,S.sep⟩
 rcases S.blk b x hx e m with f | ⟨k,o,cs,ty,fr,f,v,y,z,A,D,B⟩
 ·exact .inl f
 ·exact .inr ⟨k,o,cs,ty,fr,f,v,y,z,A.ext (Ext.grow hJ),fun hs=>d b x k o hx e hs f,fun hs=>hJ _ _ (B hs)⟩
def yl (β:Ch) (h:Aw) (fz:List Nat) (k:Nat):Prop:=∃ b x o,b ∈ fz∧Al h b=some x∧x.dead=false∧x.sealed=false∧β b=some (k,o)
def JS (J:Bool→Nat→Prop) (β:Ch) (h:Aw) (fz:List Nat):Bool→Nat→Prop:=fun o k=>J o k∨(o=true∧yl β h fz k)
theorem ex {g:Bg} {b off n:Nat} {x:Blk} {vc:Value} {fz:List Nat} (S:SimH J β h w) (v:Looks g h) (hx:Gm g b=some x) (y:x.pure=true) (z:x.sealed=false→b ∈ fz) (t:Rep J β h w (.own b off n) vc) :
  Rep (JS J β h fz) β h w (.imm ((x.cells.drop off).take (n*x.sz)) n x.sz false (!x.sealed||x.taint)) vc:=by
 unfold Gm at hx
 obtain⟨x0,m,hx⟩:=ub hx
 obtain⟨q,hx⟩:=qY hx
 simp at hx;subst hx
 have l:=v b _ m
 rw[Rep]
 have key:=(sX (J':=fun o k=>o≠x0.taint∨JS J β h fz (!x0.sealed||x0.taint) k) S l q y t (fun k o s=>.inr ?_) (fun o k f=>?_) false (!x0.sealed||x0.taint)).2 (by simp)
 ·exact RepC.keep (fun k j=>by rcases j with j | j;exact absurd rfl j;exact j) (fun _ _=>rfl) key
 ·cases hs:x0.sealed with
  | false =>
   simp only[Af1,Agg]
   exact .inr ⟨rfl,b,x0,o,z hs,l,q,hs,s⟩
  | true =>
   simp only[Agm,Aew]
   rcases S.blk b x0 l q (uy l t) with⟨d,_⟩ | ⟨B,o',cs,ty,fr,d,C,D,F,G,I,A⟩
   ·rw[s] at d;cases d
   ·rw[s] at d;simp at d;obtain⟨rfl,rfl⟩:=d
    exact .inl (A hs)
 ·by_cases e:o=x0.taint
  ·subst e
   right
   cases hs:x0.sealed with
   | false =>
    simp only[Af1,Agg]
    left
    cases u:x0.taint with
    | false=>rw[u] at f;exact S.jft k f
    | true=>rw[u] at f;exact f
   | true=>simp only[Agm,Aew];exact .inl f
  ·exact .inl e
theorem JS.mono (S:SimH J β h w) {fz:List Nat} {a b:Bool} (k:Nat) (d:JS J β h fz a k):JS J β h fz (a||b) k:=by
 cases a
 ·cases b
  ·exact d
  ·rcases d with d | ⟨e,_⟩
   ·exact .inl (S.jft k d)
   ·cases e
 ·exact d
theorem iT {g:Bg} {v v':AV} {o:Bool} {vc:Value} {fz:List Nat} (S:SimH J β h w) (q:Looks g h) (d:FA g v=some (v',o)) (s:∀ b off n x,v=.own b off n→g b=some x→x.sealed=false→b ∈ fz) (e:Rep J β h w v vc) :
  RepC (JS J β h fz o) w v' vc:=by
 cases v
 case own b off n =>
  rw[FA] at d
  obtain⟨x,hx,u⟩:=ub d
  obtain⟨y,m⟩:=uc u
  simp at m
  obtain⟨rfl,rfl⟩:=m
  have:=ex S q hx y (fun hs=>by
   unfold Gm at hx
   obtain⟨x0,f,hx⟩:=ub hx
   obtain⟨D,hx⟩:=qY hx
   simp at hx;subst hx
   exact s b off n x0 rfl f hs) e
  rw[Rep] at this;exact this
 case imm c n sz t org =>
  simp[FA] at d;obtain⟨rfl,rfl⟩:=d
  rw[Rep,RepC] at e
  rw[RepC]
  obtain⟨e1,A,cap,z,e3,e4,j⟩:=e
  refine⟨e1,A,cap,z,e3,by simp,?_⟩
  rcases j with j | ⟨a,B,C,e8⟩
  ·exact .inl j
  ·exact .inr ⟨a,B,.inl C,RepCs.keep (fun k l=>.inl l) (fun _ _=>rfl) (fun _=>rfl) e8⟩
 case iptr c org =>
  simp[FA] at d;obtain⟨rfl,rfl⟩:=d
  rw[Rep] at e
  exact RepC.keep (fun k l=>.inl l) (fun _ _=>rfl) e
 all_goals first
  | (simp[FA] at d;done)
  | (simp[FA] at d;obtain⟨rfl,rfl⟩:=d;rw[Rep] at e;rw[RepC];exact e)
theorem KD {g:Bg} {fz:List Nat} (S:SimH J β h w) (z:Looks g h):∀ {c f:LA} {o:Bool} {cs:List Value},JP g c=some (f,o)→(∀ b ∈ Ko g c,b ∈ fz)→Reps J β h w c cs →
  cs.length=f.length∧∀ (j:Nat) (x:AV),f[j]?=some x→∃ u,cs[j]?=some u∧RepC (JS J β h fz o) w x u
 | [],f,o,cs,d,q,l=>by
  simp[JP] at d;obtain⟨rfl,rfl⟩:=d
  rw[Reps] at l;subst l
  exact⟨rfl,fun j x m=>by simp at m⟩
 | v::r,f,o,cs,d,q,l=>by
  rw[JP] at d
  obtain⟨⟨v1,o1⟩,A,d⟩:=ub d
  obtain⟨⟨M,o2⟩,B,d⟩:=ub d
  simp at d;obtain⟨rfl,rfl⟩:=d
  rw[Reps] at l
  obtain⟨u,us,rfl,C,D⟩:=l
  have s:∀ b ∈ Ko g r,b ∈ fz:=fun b t=>q b (by
   cases v<;>simp only[Ko]<;>try exact t
   split
   ·rename_i x _;cases x.sealed<;>simp[t]
   ·exact t)
  have a1:=iT (fz:=fz) S z A (fun b off n x e hx hs=>q b (by subst e;simp[Ko,hx,hs])) C
  obtain⟨F,G⟩:=KD S z B s D
  refine⟨by simp[F],fun j x m=>?_⟩
  cases j with
  | zero=>simp at m;subst m;exact⟨u,by simp,RepC.keep (fun k y=>JS.mono S k y) (fun _ _=>rfl) a1⟩
  | succ j =>
   obtain⟨I,e1,L⟩:=G j x (by simpa using m)
   exact⟨I,by simpa using e1,RepC.keep (fun k y=>by rw[Ahj];exact JS.mono S k y) (fun _ _=>rfl) L⟩
theorem iU {g:Bg} {v v':AV} {q:Bool} {vc:Value} {fz:List Nat} (S:SimH J β h w) (z:Looks g h) (d:kj g v=some (v',q)) (B:∀ b ∈ DB g v,b ∈ fz) (f:Rep J β h w v vc) :
  Rep (JS J β h fz) β h w v' vc∧Hg v'=[]:=by
 unfold kj at d
 split at d
 ·rename_i b off n
  obtain⟨x,hx,e⟩:=ub d
  obtain⟨C,m⟩:=uc e
  simp at m
  obtain⟨rfl,_⟩:=m
  exact⟨ex S z hx C (fun hs=>by
   unfold Gm at hx
   obtain⟨x0,s,hx⟩:=ub hx
   obtain⟨y,hx⟩:=qY hx
   simp at hx;subst hx
   exact B b (by simp[DB,s,hs])) f,by simp[Hg]⟩
 ·simp at d;obtain⟨rfl,_⟩:=d
  refine⟨?_,by simp[Hg]⟩
  rw[Rep,RepC] at f ⊢
  obtain⟨e1,A,cap,D,e3,e4,F⟩:=f
  refine⟨e1,A,cap,D,e3,by simp,?_⟩
  rcases F with F | ⟨a,T,U,e8⟩
  ·exact .inl F
  ·exact .inr ⟨a,T,.inl U,RepCs.keep (fun k V=>.inl V) (fun _ _=>rfl) (fun _=>rfl) e8⟩
 ·rename_i b off
  obtain⟨x,hx,e⟩:=ub d
  obtain⟨C,m⟩:=uc e
  simp at m
  obtain⟨rfl,_⟩:=m
  unfold Gm at hx
  obtain⟨x0,s,hx⟩:=ub hx
  obtain⟨y,hx⟩:=qY hx
  simp at hx;subst hx
  have G:=z b _ s
  refine⟨?_,by simp[Hg]⟩
  rw[Rep] at f
  obtain⟨x1,k,o,⟨I,gm⟩,X,t⟩:=f
  rw[G] at I;simp at I;subst I
  rcases t with t | t
  ·simp[y] at t
  ·rcases S.blk b x0 G y gm with⟨e,_⟩ | ⟨k',o',cs,ty,fr,e,m,h3,h4,Y,h6,h7⟩
   ·rw[t] at e;cases e
   ·rw[t] at e;simp at e;obtain⟨rfl,rfl⟩:=e
    have L:∀ k2,J x0.taint k2→JS J β h fz (!x0.sealed||x0.taint) k2:=by
     intro k2 l
     left
     cases hs:x0.sealed with
     | false =>
      simp only[Af1,Agg]
      cases M:x0.taint with
      | false=>rw[M] at l;exact S.jft k2 l
      | true=>rw[M] at l;exact l
     | true=>simp only[Agm,Aew];exact l
    rw[Rep,RepC]
    refine⟨_,X,?_,?_⟩
    ·cases hs:x0.sealed with
     | false =>
      simp only[Af1,Agg]
      exact .inr ⟨rfl,b,x0,o,B b (by simp[DB,s,hs]),G,y,hs,t⟩
     | true =>
      simp only[Agm,Aew]
      exact .inl (h7 hs)
    ·refine RepCs.keep L (fun _ _=>rfl) (fun j=>?_) ((Y.1 C).drop off)
     rw[Addr.add_mid,Pm m,Afl]
 ·rename_i c
  obtain⟨⟨c1,o1⟩,e,m⟩:=ub d
  simp at m;obtain⟨rfl,_⟩:=m
  rw[Rep] at f
  obtain⟨cs,rfl,f⟩:=f
  obtain⟨b1,b2⟩:=KD (fz:=fz) S z e (by simpa[DB] using B) f
  refine⟨?_,by simp[Hg]⟩
  rw[Rep]
  refine⟨cs,rfl,b1,?_⟩
  rw[By]
  intro j x l
  obtain⟨u,e1,D⟩:=b2 j x l
  exact⟨u,by simpa using e1,D⟩
 ·simp at d;obtain⟨rfl,_⟩:=d
  exact⟨Rep.ext (Ext.grow fun _ _ l=>.inl l) f,by simp[Hg,I5]⟩
 ·simp at d
 ·simp at d
 ·simp at d
 ·simp at d
 ·simp at d;obtain⟨rfl,_⟩:=d
  refine⟨Rep.ext (Ext.grow fun _ _ l=>.inl l) f,?_⟩
  cases v<;>first | rfl | simp_all
theorem Y4 {g:Bg} {fz:List Nat} (S:SimH J β h w) (s:Looks g h):∀ {j:LA} {ms:List Bool} {args':LA} {im f:List Nat} {vs:List Value},
  DC g ms j=some (args',im,f)→(∀ b ∈ f,b ∈ fz)→Reps J β h w j vs→Reps (JS J β h fz) β h w args' vs∧∀ b ∈ I5 args',b ∈ im
 | [],ms,args',im,f,vs,e,q,k=>by
  simp[DC] at e;obtain⟨rfl,rfl,rfl⟩:=e
  rw[Reps] at k;subst k
  exact⟨by rw[Reps],by simp[I5]⟩
 | v::r,ms,args',im,f,vs,e,q,k=>by
  rw[DC] at e
  rw[Reps] at k
  obtain⟨u,us,rfl,l,m⟩:=k
  cases z:ms.headD false with
  | true =>
   rw[z,cond_true] at e
   obtain⟨⟨a2,i2,f2⟩,t,n⟩:=ub e
   simp at n;obtain⟨rfl,rfl,rfl⟩:=n
   obtain⟨x,y⟩:=Y4 S s t q m
   refine⟨by rw[Reps];exact⟨u,us,rfl,Rep.ext (Ext.grow fun _ _ A=>.inl A) l,x⟩,fun b d=>?_⟩
   rw[I5] at d
   rcases Ad7.1 d with d | d
   ·exact Ad7.2 (.inl d)
   ·exact Ad7.2 (.inr (y b d))
  | false =>
   rw[z,cond_false] at e
   obtain⟨⟨v1,D⟩,B,e⟩:=ub e
   obtain⟨⟨a2,i2,f2⟩,t,n⟩:=ub e
   simp at n;obtain⟨rfl,rfl,rfl⟩:=n
   obtain⟨e1,C⟩:=iU S s B (fun b d=>q b (Ad7.2 (.inl d))) l
   obtain⟨x,y⟩:=Y4 S s t (fun b d=>q b (Ad7.2 (.inr d))) m
   refine⟨by rw[Reps];exact⟨u,us,rfl,e1,x⟩,fun b d=>?_⟩
   rw[I5,C] at d
   exact y b (by simpa using d)
end
end Gx
namespace Gx
open Go
theorem jb {g g':Bg} {ρ:Nat→Nat}:∀ {ids:List Nat},(∀ b ∈ ids,g b=g' b)→sub g ρ ids=sub g' ρ ids
 | [],_=>rfl
 | b::r,h=>by
  rw[sub,sub,h b (by simp),jb (fun c d=>h c (by simp[d]))]
theorem KE {g:Bg}:∀ {l:List Nat},JR g l=true→∀ b ∈ l,∃ x,g b=some x∧x.dead=false
 | [],_,b,d=>by simp at d
 | i::r,h,b,d=>by
  rw[JR] at h
  simp at h
  rcases Ad6.1 d with rfl | d
  ·cases hx:g b with
   | none=>rw[hx] at h;simp at h
   | some x=>rw[hx] at h;exact⟨x,rfl,by simpa using h.1⟩
  ·exact KE h.2 b d
theorem s_:∀ {l m:List Nat},nO l m=true→∀ b ∈ l,b ∉ m
 | [],m,_,b,d=>by simp at d
 | i::r,m,h,b,d=>by
  rw[nO] at h
  simp at h
  rcases Ad6.1 d with rfl | d
  ·intro e;have:=Lw.2 e;rw[this] at h;simp at h
  ·exact s_ h.2 b d
theorem DL {d:Nat}:∀ {l:List (Nat×Nat)} {b:Nat},b ∈ l.map (·.1)→Jk d l b ∈ l.map (·.2)
 | [],b,e=>by simp at e
 | (i,x)::r,b,e=>by
  rw[Jk]
  cases hi:beq i b with
  | true=>simp
  | false =>
   have f:b ∈ r.map (·.1):=by
    rw[Ad5] at e
    rcases Ad6.1 e with h | h
    ·exact absurd h.symm (Wq hi)
    ·exact h
   simp only[cond_false,Ad5]
   exact Afz _ (DL f)
theorem Xi {d:Nat}:∀ {l m:List (Nat×Nat)} {b:Nat},Jk d (l++m) b=if b ∈ l.map (·.1) then Jk d l b else Jk d m b
 | [],m,b=>by simp
 | (i,x)::r,m,b=>by
  rw[Aeb,Jk,Jk,Xi]
  cases hi:beq i b with
  | true=>have:=Ad8 hi;subst this;simp
  | false =>
   have:=Wq hi
   simp only[cond_false,Ad5,Ad6]
   by_cases e:b ∈ r.map (·.1)
   ·rw[if_pos e,if_pos (.inr e)]
   ·rw[if_neg e,if_neg (by rintro(h | h);exact this h.symm;exact e h)]
theorem Kq:∀ {base:Nat} {l:List Nat},(A1 base l).map (·.1)=l
 | _,[]=>rfl
 | base,i::r=>by rw[A1,Ad5,Kq]
theorem ey {d j:Nat}:∀ {l:List Nat} {base b:Nat},b ∈ l→Jk j ((A1 base l).map fun p=>(p.2,p.1)) (Jk d (A1 base l) b)=b
 | [],base,b,e=>by simp at e
 | i::r,base,b,e=>by
  rw[A1,Jk,Ad5,Jk]
  cases hi:beq i b with
  | true=>have:=Ad8 hi;subst this;simp
  | false =>
   have f:b ∈ r:=by
    rcases Ad6.1 e with h | h
    ·exact absurd h.symm (Wq hi)
    ·exact h
   simp only[cond_false]
   have k:=Y3 (d:=d) (base:=base+1) f
   rw[IT (show base≠Jk d (A1 (base+1) r) b by omega)]
   exact ey f
theorem Th:∀ {base:Nat} {l:List Nat} {c:Nat},c ∈ (A1 base l).map (·.2)→base≤c∧c<base+l.length
 | _,[],c,d=>by simp[A1] at d
 | base,i::r,c,d=>by
  rw[A1,Ad5] at d
  rcases Ad6.1 d with h | h
  ·simp at h;subst h;simp
  ·have:=Th h;simp only[Adx];omega
theorem Y5:∀ {base:Nat} {l:List Nat},((A1 base l).map (·.2)).Nodup
 | _,[]=>by simp[A1]
 | base,i::r=>by
  rw[A1,Ad5,Ae5]
  exact⟨fun h=>by have:=Th h;simp at this;omega,Y5⟩
theorem KG:∀ {base:Nat} {l:List Nat} {b:Nat},b ∈ l→(b,Jk 0 (A1 base l) b) ∈ A1 base l
 | _,[],b,d=>by simp at d
 | base,i::r,b,d=>by
  rw[A1,Jk]
  cases hi:beq i b with
  | true=>have:=Ad8 hi;subst this;simp
  | false =>
   have e:b ∈ r:=by
    rcases Ad6.1 d with h | h
    ·exact absurd h.symm (Wq hi)
    ·exact h
   simp only[cond_false]
   exact Afz _ (KG e)
def qt (x:Blk):Blk:={ x with dead:=true,pure:=true,cells:=[] }
theorem Nd:∀ {ups:Eh} {h:Aw} {b:Nat} {o:Option Blk},(ups.map (·.1)).Nodup→(b,o) ∈ ups→Al (Ak ups h) b=match o with | some x=>some x | none=>(Al h b).map qt
 | [],h,b,o,_,k=>by simp at k
 | (i,y)::r,h,b,o,hn,k=>by
  rw[Ad5,Ae5] at hn
  rcases Ad6.1 k with l | d
  ·simp at l
   obtain⟨rfl,rfl⟩:=l
   have f:A9 r b=false:=by
    have:∀ {r:Eh},b ∉ r.map (·.1)→A9 r b=false:=by
     intro r
     induction r with
     | nil=>intro _;rfl
     | cons p r m =>
      intro h
      simp only[Ad5,Ad6,not_or] at h
      rw[A9,IT (fun e=>h.1 e.symm)]
      exact m h.2
    exact this hn.1
   cases o with
   | some x=>rw[Ak,Co _ _ _ f,Af,if_pos rfl]
   | none =>
    rw[Ak,Co _ _ _ f]
    cases hx:Al h b with
    | none=>simp[hx]
    | some x=>simp only[Option.map_some];rw[Af,if_pos rfl];rfl
  ·have j:b≠i:=fun e=>by subst e;exact hn.1 (Aef.2 ⟨_,d,rfl⟩)
   cases y with
   | some x =>
    rw[Ak,Nd hn.2 d]
    cases o with
    | some _=>rfl
    | none=>simp only;rw[Af,if_neg j]
   | none =>
    rw[Ak,Nd hn.2 d]
    cases o with
    | some _=>rfl
    | none =>
     simp only
     split
     ·rw[Af,if_neg j]
     ·rfl
theorem WH:∀ {ups:Eh} {b:Nat},A9 ups b=true↔b ∈ ups.map (·.1)
 | [],b=>by simp[A9]
 | (i,y)::r,b=>by
  rw[A9,Ad5,Ad6,←WH]
  cases hi:beq i b with
  | true=>have:=Ad8 hi;subst this;simp
  | false=>have:=Wq hi;simp;intro e;exact absurd e.symm this
theorem ez {β:Ch} {h:Aw} {ρ:Nat→Nat} {ids:List Nat} (hn:(ids.map ρ).Nodup) {k:Nat} (f:nT (ID ρ ids β) (sub (Al h) ρ ids) k) :
  ∃ b x o,b ∈ ids∧Al h b=some x∧x.dead=false∧x.sealed=false∧β b=some (k,o):=by
 obtain⟨c,y,o,j,l,hs,d⟩:=f
 obtain⟨b,x,e,rfl,hx,rfl⟩:=Oi hn c y j
 rw[Hi hn e] at d
 exact⟨b,x,o,e,hx,l,hs,d⟩
theorem SimH.unJ {J:Bool→Nat→Prop} {β:Ch} {h:Aw} {w:World} (S:SimH J β h w) {b:Nat} {x:Blk} {k o:Nat} (f:Al h b=some x) (j:x.dead=false) (hs:x.sealed=false) (e:β b=some (k,o)):∀ g,¬ J g k:=by
 cases l:x.mp with
 | false =>
  rcases S.blk b x f j l with⟨d,_⟩ | ⟨n,o2,cs,ty,fr,d,m,s,t,u,q,v⟩
  ·rw[e] at d;cases d
  ·rw[e] at d;simp at d;obtain⟨rfl,rfl⟩:=d
   exact q hs
 | true =>
  obtain⟨_,_,n,ob,d,_,_,m⟩:=S.mblk b x f j l
  rw[e] at d;simp at d;obtain⟨rfl,_⟩:=d
  exact m
theorem SimH.seJ {J:Bool→Nat→Prop} {β:Ch} {h:Aw} {w:World} (S:SimH J β h w) {b:Nat} {x:Blk} {k o:Nat} (e:Al h b=some x) (f:x.dead=false) (hs:x.sealed=true) (j:β b=some (k,o)):J x.taint k:=by
 cases l:x.mp with
 | false =>
  rcases S.blk b x e f l with⟨d,_⟩ | ⟨n,o2,cs,ty,fr,d,q,s,t,u,v,m⟩
  ·rw[j] at d;cases d
  ·rw[j] at d;simp at d;obtain⟨rfl,rfl⟩:=d
   exact m hs
 | true =>
  have:=(S.mblk b x e f l).2.1
  rw[hs] at this;cases this
theorem Step.merge {J J0 J1:Bool→Nat→Prop} {β β1:Ch} {h U H:Aw} {w w':World} {D ids:List Nat} (S:SimH J β h w) (S1:SimH J0 β1 U w')
  (hH:∀ b,b ∉ D→Al H b=Al h b)
  (hD:∀ b x,b ∈ D→Al H b=some x→x.dead=false→Al U b=some x)
  (hD1:∀ b x,Al U b=some x→b ∈ D∧Al H b=some x)
  (V:∀ b x,b ∈ D→b ∉ ids→Al h b≠some x)
  (X:∀ b x,b ∈ ids→Al h b=some x→∃ x',(Al H b=some x'∧x'.mp=x.mp)∧(x'.dead=true∨(x.dead=false∧β1 b=β b∧x'.sz=x.sz∧(x.mp=false→x'.cells.length=x.cells.length))))
  (u:∀ b ∈ ids,b ∈ D)
  (os:w'.os=w.os) (tape:w'.tape=w.tape) (output:w'.output=w.output) (size:w.heap.size≤w'.heap.size)
  (frame:∀ k,k<w.heap.size→(¬ ∃ b x o,b ∈ ids∧Al h b=some x∧x.dead=false∧x.sealed=false∧β b=some (k,o))→w'.heap[k]?=w.heap[k]?)
  (wr:∀ k,nT β1 U k→k<w.heap.size→∃ b x o,b ∈ ids∧Al h b=some x∧x.dead=false∧x.sealed=false∧β b=some (k,o))
  (jup:∀ o k,J0 o k→J o k∨(∃ b x o,b ∈ ids∧Al h b=some x∧x.dead=false∧x.sealed=false∧β b=some (k,o))∨w.heap.size≤k)
  (sizes:∀ k,Ba w k≤Ba w' k) :
  Step J β h w (fun o k=>J o k∨J0 o k) (fun b=>if b ∈ D then β1 b else β b) H w'∧Ext J0 β1 U w' (fun o k=>J o k∨J0 o k) (fun b=>if b ∈ D then β1 b else β b) H w':=by
 have E0:Ext J0 β1 U w' (fun o k=>J o k∨J0 o k) (fun b=>if b ∈ D then β1 b else β b) H w':=by
  refine⟨fun _ _ d=>.inr d,fun _ _ _=>rfl,fun b x e=>?_,fun _ _ _ _=>Ad4 _⟩
  obtain⟨s,t⟩:=hD1 b x e
  refine⟨x,⟨t,rfl⟩,?_⟩
  cases j:x.dead
  ·exact .inr ⟨rfl,by simp[s],rfl,fun _=>rfl⟩
  ·exact .inl rfl
 have keepJ:∀ o k,J o k→w'.heap[k]?=w.heap[k]?:=by
  intro o k d
  refine frame k (S.jlt o k d) ?_
  rintro⟨b,x,o',_,e,j,hs,n⟩
  exact S.unJ e j hs n o d
 have E:Ext J β h w (fun o k=>J o k∨J0 o k) (fun b=>if b ∈ D then β1 b else β b) H w':=by
  refine⟨fun _ _ d=>.inl d,keepJ,fun b x e=>?_,fun b k o _=>sizes k⟩
  by_cases hi:b ∈ ids
  ·obtain⟨x',s,t⟩:=X b x hi e
   refine⟨x',s,?_⟩
   simp only[u b hi,if_true]
   exact t
  ·have Y:b ∉ D:=fun j=>V b x j hi e
   refine⟨x,⟨by rw[hH b Y];exact e,rfl⟩,?_⟩
   cases j:x.dead
   ·exact .inr ⟨rfl,by simp[Y],rfl,fun _=>rfl⟩
   ·exact .inl rfl
 have out:∀ {b x},b ∉ D→Al H b=some x→Al h b=some x:=fun e hx=>by rw[←hH _ e];exact hx
 refine⟨⟨E,⟨?_,?_,S.gl.ext E,fun b x hx j L=>?_,fun b x hx j L=>by
   by_cases e:b ∈ D
   ·have s:=hD b x e hx j
    have M:=S1.mblk b x s j L
    refine M.keep (by simp[e]) (fun _ _ _=>rfl) (fun g k o n d=>?_)
    rcases d with d | d
    ·exfalso
     by_cases z:k<w.heap.size
     ·obtain⟨A,x',o',m,q,l,v,f⟩:=wr k ⟨b,x,o,s,j,M.2.1,n⟩ z
      exact S.unJ q l v f g d
     ·exact z (S.jlt g k d)
    ·exact d
   ·have s:=out e hx
    have M:=S.mblk b x s j L
    have y:∀ k o,β b=some (k,o)→¬ ∃ b x o,b ∈ ids∧Al h b=some x∧x.dead=false∧x.sealed=false∧β b=some (k,o):=by
     rintro k o t ⟨A,x',o',m,q,l,v,f⟩
     have:=S.sep b A x x' k o o' s q j l M.2.1 t f
     subst this
     exact e (u b m)
    refine M.keep (by simp[e]) (fun k o n=>frame k (Wc S s j n) (y k o n)) (fun g k o n d=>?_)
    rcases d with d | d
    ·exact d
    ·rcases jup g k d with d | d | d
     ·exact d
     ·exact absurd d (y k o n)
     ·have:=Wc S s j n;omega,?_⟩,os,tape,output,size,?_,?_,?_⟩,E0⟩
 ·rintro o k (d | d)
  ·exact Afj (S.jlt o k d) size
  ·exact S1.jlt o k d
 ·rintro k (d | d)
  ·exact .inl (S.jft k d)
  ·exact .inr (S1.jft k d)
 ·by_cases e:b ∈ D
  ·have s:=hD b x e hx j
   rcases S1.blk b x s j L with⟨t,I⟩ | ⟨k,o,cs,ty,fr,t,I,h5,h6,h7,h8,h9⟩
   ·exact .inl ⟨by simp[e,t],I⟩
   ·refine .inr ⟨k,o,cs,ty,fr,by simp[e,t],I,h5,h6,h7.ext E0,fun hs g d=>?_,fun hs=>.inr (h9 hs)⟩
    rcases d with d | d
    ·by_cases z:k<w.heap.size
     ·obtain⟨A,x',o',m,q,l,v,f⟩:=wr k ⟨b,x,o,s,j,hs,t⟩ z
      exact S.unJ q l v f g d
     ·exact z (S.jlt g k d)
    ·exact h8 hs g d
  ·have s:=out e hx
   rcases S.blk b x s j L with⟨t,I⟩ | ⟨k,o,cs,ty,fr,t,I,h5,h6,h7,h8,h9⟩
   ·exact .inl ⟨by simp[e,t],I⟩
   ·have z:=FH I
    have y:x.sealed=false→¬ ∃ b x o,b ∈ ids∧Al h b=some x∧x.dead=false∧x.sealed=false∧β b=some (k,o):=by
     rintro hs ⟨A,x',o',m,q,l,v,f⟩
     have:=S.sep b A x x' k o o' s q j l hs t f
     subst this
     exact e (u b m)
    have same:w'.heap[k]?=w.heap[k]?:=by
     cases hs:x.sealed with
     | false=>exact frame k z (y hs)
     | true=>exact keepJ _ k (h9 hs)
    refine .inr ⟨k,o,cs,ty,fr,by simp[e,t],by rw[same];exact I,h5,h6,h7.ext E,fun hs g d=>?_,fun hs=>.inl (h9 hs)⟩
    rcases d with d | d
    ·exact h8 hs g d
    ·rcases jup g k d with d | d | d
     ·exact h8 hs g d
     ·exact y hs d
     ·omega
 ·intro b A x x' k o o' hx q j l hs n f
  by_cases e:b ∈ D<;>by_cases m:A ∈ D
  ·simp[e] at n;simp[m] at f
   exact S1.sep b A x x' k o o' (hD b x e hx j) (hD A x' m q l) j l hs n f
  ·exfalso
   simp[e] at n;simp[m] at f
   have s:=out m q
   have z:=Wc S s l f
   obtain⟨b2,x2,o2,T,B,C,G,F⟩:=wr k ⟨b,x,o,hD b x e hx j,j,hs,n⟩ z
   have:=S.sep b2 A x2 x' k o2 o' B s C l G F f
   subst this
   exact m (u _ T)
  ·exfalso
   simp[e] at n;simp[m] at f
   have s:=out e hx
   have t:=hD A x' m q l
   have z:=Wc S s j n
   have y:¬ ∃ b x o,b ∈ ids∧Al h b=some x∧x.dead=false∧x.sealed=false∧β b=some (k,o):=by
    rintro⟨b2,x2,o2,T,B,C,G,F⟩
    have:=S.sep b b2 x x2 k o o2 s B j C hs n F
    subst this
    exact e (u _ T)
   cases v:x'.sealed with
   | false=>exact y (wr k ⟨A,x',o',t,l,v,f⟩ z)
   | true =>
    rcases jup _ k (S1.seJ t l v f) with d | d | d
    ·exact S.unJ s j hs n _ d
    ·exact y d
    ·omega
  ·simp[e] at n;simp[m] at f
   exact S.sep b A x x' k o o' (out e hx) (out m q) j l hs n f
 ·intro k z L
  exact frame k z (fun ⟨b,x,o,_,hx,j,hs,n⟩=>L ⟨b,x,o,hx,j,hs,n⟩)
 ·rintro k ⟨b,x,o,hx,j,hs,n⟩ z
  by_cases e:b ∈ D
  ·simp[e] at n
   obtain⟨b2,x2,o2,_,B,C,G,F⟩:=wr k ⟨b,x,o,hD b x e hx j,j,hs,n⟩ z
   exact⟨b2,x2,o2,B,C,G,F⟩
  ·simp[e] at n
   exact⟨b,x,o,out e hx,j,hs,n⟩
 ·rintro o k (d | d)
  ·exact .inl d
  ·rcases jup o k d with d | ⟨b,x,o2,_,hx,j,hs,n⟩ | d
   ·exact .inl d
   ·exact .inr (.inl ⟨b,x,o2,hx,j,hs,n⟩)
   ·exact .inr (.inr d)
theorem qu {l:List Nat}:ko l=true↔l=[]:=by cases l<;>simp[ko]
theorem FQ {α β:Type} {f:α→β}:∀ {l:List α},(l.map f).Nodup→l.Nodup
 | [],_=>Ahw
 | a::r,h=>by
  rw[Ad5,Ae5] at h
  exact Ae5.2 ⟨fun d=>h.1 (Aef.2 ⟨a,d,rfl⟩),FQ h.2⟩
theorem FR {α:Type} {p:α→Bool}:∀ {l:List α},l.Nodup→(l.filter p).Nodup
 | [],_=>Ahw
 | a::r,h=>by
  rw[Ae5] at h
  rw[Agi]
  split
  ·exact Ae5.2 ⟨fun d=>h.1 (Af6.1 d).1,FR h.2⟩
  ·exact FR h.2
theorem SQ {base:Nat} {l:List Nat} {p:Nat×Nat} (d:p ∈ A1 base l):p.1 ∈ l:=by
 have:p.1 ∈ (A1 base l).map (·.1):=Aef.2 ⟨p,d,rfl⟩
 rw[Kq] at this;exact this
theorem sa {σ:Nat→Nat}:∀ {l:List Nat} {a b:Nat},(l.map σ).Nodup→a ∈ l→b ∈ l→σ a=σ b→a=b
 | [],a,b,_,f,_,_=>by simp at f
 | i::r,a,b,hn,f,k,j=>by
  rw[Ad5,Ae5] at hn
  rcases Ad6.1 f with d | d<;>rcases Ad6.1 k with e | e
  ·rw[d,e]
  ·subst d;exact absurd (Aef.2 ⟨b,e,j.symm⟩) hn.1
  ·subst e;exact absurd (Aef.2 ⟨a,d,j⟩) hn.1
  ·exact sa hn.2 d e j
theorem vI {E:Env} (hT:eZ E.P E.tbl):QK E:=by
 intro R r k J β h w g d f args vs S hl hh hv
 unfold j3 at hh
 obtain⟨⟨args',im,fz⟩,A,h1⟩:=ub hh
 simp only at h1
 obtain⟨m,h2⟩:=uc h1
 simp only[Ad3] at m
 obtain⟨U,Y,V,hdj,n,_⟩:=m
 generalize hids:Yu g im=ids at *
 generalize hρ:Jk 0 (A1 100000 ids)=ρ at *
 have U:=KE U
 have Y:=Po Y
 have hdj:=s_ hdj
 have n:=Tf n
 have hg:∀ b ∈ ids,g b=Al h b:=fun b j=>by obtain⟨x,hx,_⟩:=U b j;rw[hx,hl b x hx]
 rw[AR (g:=Al h) hg] at V
 have V:=Po V
 rw[jb (g':=Al h) hg] at h2
 obtain⟨hA,hB⟩:=Y4 (fz:=fz) S hl A (fun _ h=>h) hv
 have aliveH:∀ b ∈ ids,∃ x,Al h b=some x∧x.dead=false:=fun b j=>by obtain⟨x,hx,B⟩:=U b j;exact⟨x,hl b x hx,B⟩
 have SJ:SimH (JS J β h fz) (ID ρ ids β) (sub (Al h) ρ ids) w:=by
  refine(S.ren n V).grow (fun o k s=>.inl s) ?_ ?_ ?_
  ·rintro o k (s | ⟨_,b,x,o',_,hx,B,_,hβ⟩)
   ·exact S.jlt o k s
   ·exact Wc S hx B hβ
  ·rintro k (s | ⟨h0,_⟩)
   ·exact .inl (S.jft k s)
   ·cases h0
  ·intro c y k o hy B hs hβ q s
   obtain⟨b,x,j,rfl,hx,rfl⟩:=Oi n c y hy
   rw[Hi n j] at hβ
   rcases s with s | ⟨_,b',x',o',hb',hx',hd',hs',hβ'⟩
   ·exact S.unJ hx B hs hβ _ s
   ·have:=S.sep b b' x x' k o o' hx hx' B hd' hs hβ hβ'
    subst this
    exact hdj b hb' j
 have RJ:Reps (JS J β h fz) (ID ρ ids β) (sub (Al h) ρ ids) w (Wp ρ args') vs:=Reps.ren n (fun b j=>Y b (hB b j)) hA
 obtain⟨rv,rh,hF,h3⟩:=oL hT h2
 have hcall:=hF _ _ w vs SJ RJ
 obtain⟨v,h4⟩:=qY h3
 obtain⟨hc2,h5⟩:=uc h4
 simp only[Ad3] at hc2
 obtain⟨C,X,hrv,u,G,t⟩:=hc2
 generalize hall:Yu (Al rh) (Hg rv++(A1 100000 ids).map (·.2))=all at *
 generalize I:all.filter (fun b=>!H2 ((A1 100000 ids).map (·.2)) b)=new at *
 generalize hσ:Jk 0 ((A1 100000 ids).map (fun p=>(p.2,p.1))++A1 (nid d) new)=σ at *
 have C:=KE C
 have hrv:=Po hrv
 have u:=Po u
 have G:=Po G
 have t:=Tf t
 have X:new.length≤16:=by simpa using X
 refine⟨_,_,h5,fun hfree=>Calls.mono hcall ?_⟩
 rintro e w' ⟨vc,J',β',rfl,F,hR⟩
 refine⟨vc,rfl,?_⟩
 have back:∀ b ∈ ids,σ (ρ b)=b:=by
  intro b j
  rw[←hσ,Xi,if_pos,←hρ]
  ·exact ey j
  ·rw[Agp]
   have:=DL (d:=0) (l:=A1 100000 ids) (b:=b) (by rw[Kq];exact j)
   rw[hρ] at this
   exact this
 have ρall:∀ b ∈ ids,ρ b ∈ all:=by
  intro b j
  refine u _ ?_
  have:=DL (d:=0) (l:=A1 100000 ids) (b:=b) (by rw[Kq];exact j)
  rw[hρ] at this
  exact this
 have σout:∀ c ∈ all,c ∈ (A1 100000 ids).map (·.2)→σ c ∈ ids:=by
  intro c _ m
  rw[←hσ,Xi,if_pos (by rw[Agp];exact m)]
  have:=DL (d:=0) (l:=(A1 100000 ids).map (fun p=>(p.2,p.1))) (b:=c) (by rw[Agp];exact m)
  rw[Agp] at this
  have e:(A1 100000 ids).map ((fun x=>x.2)∘fun p=>(p.2,p.1))=ids:=Kq
  rw[e] at this
  exact this
 have newmem:∀ c ∈ new,c ∈ all∧c ∉ (A1 100000 ids).map (·.2):=by
  intro c m
  rw[←I] at m
  obtain⟨L,h7⟩:=Af6.1 m
  refine⟨L,fun z=>?_⟩
  rw[Lw.2 z] at h7;simp at h7
 have σnew:∀ c ∈ new,σ c=Jk 0 (A1 (nid d) new) c:=by
  intro c m
  rw[←hσ,Xi,if_neg]
  rw[Agp];exact(newmem c m).2
 have allcases:∀ c ∈ all,c ∈ (A1 100000 ids).map (·.2)∨c ∈ new:=by
  intro c m
  by_cases z:c ∈ (A1 100000 ids).map (·.2)
  ·exact .inl z
  ·refine .inr ?_
   rw[←I]
   refine Af6.2 ⟨m,?_⟩
   cases hq:H2 ((A1 100000 ids).map (·.2)) c with
   | false=>rfl
   | true=>exact absurd (Lw.1 hq) z
 generalize T:((A1 100000 ids).map fun p=>(p.1,(Al rh p.2).map (AL σ)))++(A1 (nid d) new).map (fun p=>(p.2,(Al rh p.1).map (AL σ)))=ups at *
 have keys:ups.map (·.1)=ids++(A1 (nid d) new).map (·.2):=by
  rw[←T,Afy,Agp,Agp]
  congr 1
  exact Kq
 have newFree:∀ c ∈ (A1 (nid d) new).map (·.2),Al h c=none:=by
  intro c m
  refine hfree c (WH.2 (by rw[keys];exact Ad7.2 (.inr m))) ?_
  have:=Th m
  unfold DD
  simp;omega
 have keysN:(ups.map (·.1)).Nodup:=by
  rw[keys,List.nodup_append]
  refine⟨FQ n,Y5,fun a ha b j e=>?_⟩
  subst e
  obtain⟨x,hx,_⟩:=aliveH a ha
  rw[newFree a j] at hx;cases hx
 have upsOld:∀ b ∈ ids,(b,(Al rh (ρ b)).map (AL σ)) ∈ ups:=by
  intro b j
  rw[←T]
  refine Ad7.2 (.inl (Aef.2 ⟨(b,ρ b),?_,rfl⟩))
  rw[←hρ];exact KG j
 have upsNew:∀ c ∈ new,(σ c,(Al rh c).map (AL σ)) ∈ ups:=by
  intro c m
  rw[←T]
  refine Ad7.2 (.inr (Aef.2 ⟨(c,σ c),?_,rfl⟩))
  rw[σnew c m];exact KG m
 have J0:∃ J0:Bool→Nat→Prop,SimH J0 β' rh w'∧Rep J0 β' rh w' rv vc∧∀ o k,J0 o k→J o k∨nT (ID ρ ids β) (sub (Al h) ρ ids) k∨w.heap.size≤k:=by
  cases he:ko fz with
  | true =>
   have:=qu.1 he
   subst this
   refine⟨J',F.sim,hR,fun o k s=>?_⟩
   rcases F.jup o k s with(s | ⟨_,b,x,o',j,_⟩) | s
   ·exact .inl s
   ·simp at j
   ·exact .inr s
  | false =>
   rw[he] at v
   simp at v
   refine⟨fun _=>J' false,F.sim.noOrg v.2,Rep.noOrg v.1 hR,fun o k s=>?_⟩
   rcases F.jup false k s with(L | ⟨h0,_⟩) | L
   ·left
    cases o
    ·exact L
    ·exact S.jft k L
   ·cases h0
   ·exact .inr L
 obtain⟨J0,S0,R0,jup0⟩:=J0
 have S1:=S0.ren t G
 have R1:=Rep.ren t hrv R0
 have M:=Step.merge (J:=J) (J0:=J0) (J1:=J0) (H:=Ak ups h) (D:=ids++(A1 (nid d) new).map (·.2)) (ids:=ids) S S1
  (fun b j=>Co _ _ _ (by
   cases hi:A9 ups b with
   | false=>rfl
   | true=>exact absurd (by rw[←keys];exact WH.1 hi) j))
  (fun b x j hx B=>by
   rcases Ad7.1 j with j | j
   ·rw[Nd keysN (upsOld b j)] at hx
    cases hq:Al rh (ρ b) with
    | none =>
     rw[hq] at hx;simp at hx
     obtain⟨y,_,rfl⟩:=hx
     simp[qt] at B
    | some y =>
     rw[hq] at hx;simp at hx;subst hx
     have:=AS (g:=Al rh) t (ρ b) y (ρall b j) hq
     rw[back b j] at this
     exact this
   ·obtain⟨c,m,rfl⟩:∃ c ∈ new,σ c=b:=by
     obtain⟨p,A,rfl⟩:=Aef.1 j
     have hp1:p.1 ∈ new:=SQ A
     refine⟨p.1,hp1,?_⟩
     rw[σnew _ hp1]
     have:∀ {base:Nat} {l:List Nat} {p:Nat×Nat},l.Nodup→p ∈ A1 base l→Jk 0 (A1 base l) p.1=p.2:=by
      intro base l
      induction l generalizing base with
      | nil=>intro p _ A;simp[A1] at A
      | cons i r ih =>
       intro p hn A
       rw[Ae5] at hn
       rw[A1] at A ⊢
       rw[Jk]
       rcases Ad6.1 A with rfl | A
       ·simp
       ·have:p.1 ∈ r:=SQ A
        rw[IT (fun e=>hn.1 (by rw[e];exact this))]
        exact ih hn.2 A
     refine this ?_ A
     rw[←I]
     exact FR (FQ t)
    rw[Nd keysN (upsNew c m)] at hx
    obtain⟨y,hy,_⟩:=C c m
    rw[hy] at hx;simp at hx;subst hx
    exact AS (g:=Al rh) t c y (newmem c m).1 hy)
  (fun b x j=>by
   obtain⟨c,y,m,rfl,hy,rfl⟩:=Oi t b x j
   rcases allcases c m with z | z
   ·have L:=σout c m z
    have h7:ρ (σ c)=c:=by
     have:(all.map σ).Nodup:=t
     have e1:=back (σ c) L
     have e2:=ρall (σ c) L
     exact sa this e2 m e1
    refine⟨Ad7.2 (.inl L),?_⟩
    rw[Nd keysN (upsOld (σ c) L),h7,hy];rfl
   ·refine⟨Ad7.2 (.inr ?_),?_⟩
    ·rw[σnew c z]
     exact DL (by rw[Kq];exact z)
    ·rw[Nd keysN (upsNew c z),hy];rfl)
  (fun b x j hni hx=>by
   rcases Ad7.1 j with j | j
   ·exact hni j
   ·rw[newFree b j] at hx;cases hx)
  (fun b x j hx=>by
   rw[Nd keysN (upsOld b j)]
   cases hq:Al rh (ρ b) with
   | none=>exact⟨qt x,⟨by simp[hx],rfl⟩,.inl rfl⟩
   | some y =>
    cases B:y.dead with
    | true=>have:=F.live _ _ hq;rw[B] at this;cases this
    | false =>
     have e0:=AS (g:=Al h) n b x j hx
     obtain⟨⟨e1,em⟩,e2,e3,e4⟩:=F.outs (ρ b) _ y e0 hq B
     refine⟨AL σ y,⟨by simp,em⟩,.inr ?_⟩
     refine⟨e4,?_,e2,fun hmx=>?_⟩
     ·have:=Hi (β:=β') t (ρall b j)
      rw[back b j] at this
      rw[this,e1]
      exact Hi n j
     ·rw[Nc,e3 hmx,Nc])
  (fun b j=>Ad7.2 (.inl j))
  F.os F.tape F.output F.size
  (fun k hk z=>F.frame k hk (fun hm'=>z (ez n hm')))
  (fun k z hk=>ez n (F.wr k (lS t z) hk))
  (fun o k s=>by
   rcases jup0 o k s with s | s | s
   ·exact .inl s
   ·exact .inr (.inl (ez n s))
   ·exact .inr (.inr s))
  F.sizes
 exact⟨_,_,M.1,Rep.ext M.2 R1⟩
theorem KH {P:Program} {muts:Nat→List Bool} {T:List (Nat×Tw)} {hs:Hints} {N f:Nat} {d:LA} {h:Aw} {res:AV} {h':Aw} (hT:eZ P T) (B:P.follows .mixedOrders=true)
  (n:YO P muts T hs N f d h (fun v h'=>some (v,h'))=some (res,h')):th P f d h res h':=by
 unfold YO at n
 split at n
 ·simp at n
 ·rename_i fn C
  split at n
  ·simp at n
  ·rename_i c L
   simp only at n
   obtain⟨q,M⟩:=uc n
   simp only[Ad3] at q
   obtain⟨m,k⟩:=q
   have m:d.length≤fn.ntmps:=by simpa using m
   intro J β w vs S G
   have U:vs.length=d.length:=((Cg).1 G).1
   refine calls_of_wp C L ?_
   have roots:∀ {h:Aw} {b:Nat} {x:Blk},SC h=true→Al h b=some x→d5 b=true:=by
    intro h
    induction h with
    | nil=>intro b x _ e;simp[Al] at e
    | cons p r D =>
     intro b x hr e
     obtain⟨i,y⟩:=p
     rw[SC] at hr
     simp at hr
     rw[Al] at e
     cases hi:beq i b with
     | true=>have:=Ad8 hi;subst this;exact hr.1
     | false=>rw[hi] at e;exact D hr.2 (by simpa using e)
   have sgetI:∀ {d:LA} {j i:Nat},Gp (d6 j d) i=if j≤i then (d[i - j]?).getD .undef else .undef:=by
    intro d
    induction d with
    | nil=>intro j i;simp[d6,Gp]
    | cons v r D =>
     intro j i
     rw[d6,Gp]
     cases hi:beq j i with
     | true=>have:=Ad8 hi;subst this;simp
     | false =>
      have:=Wq hi
      simp only[cond_false]
      rw[D]
      by_cases t:j+1≤i
      ·rw[if_pos t,if_pos (by omega),show i - j=(i - (j+1))+1 by omega];simp
      ·rw[if_neg t]
       by_cases l:j≤i
       ·omega
       ·rw[if_neg l]
   have I:Inv ⟨J,β,h,w⟩ fn.ntmps J β { s:=d6 0 d,h:=h } { tmps:=vs.toArray++Array.replicate (fn.ntmps - vs.toArray.size) undef,defers:=[] } w:=by
    refine⟨S,⟨fun i v hi=>?_,fun i hi=>?_⟩,?_,rfl,rfl,rfl,rfl,Ad4 _,fun _ _ _=>rfl,fun _ B _=>B,fun _ _ F=>F,fun _ _ F=>.inl F,fun _=>Ad4 _,?_,?_,?_⟩
    ·rw[sgetI,if_pos (Agw _)]
     by_cases u:i<d.length
     ·have l:d[i - 0]?=some d[i]:=by simp[u]
      rw[l]
      have z:vs[i]?=some v:=by
       rw[Agn (by simp;omega)] at hi
       simpa using hi
      exact((Cg).1 G).2 i _ _ (by simp[u]) z
     ·have l:d[i - 0]?=none:=by simp;omega
      rw[l];simp[Rep]
    ·simp at hi
     rw[sgetI,if_pos (Agw _)]
     have l:d[i - 0]?=none:=by simp;omega
     rw[l];rfl
    ·simp;omega
    ·intro b x0 e;exact(eY.1 (roots k e)).2
    ·intro b x0 e;exact(eY.1 (roots k e)).1
    ·intro b x0 x e hx V
     change Al h b=some x0 at e
     change Al h b=some x at hx
     rw[e] at hx;simp at hx;subst hx
     exact⟨⟨rfl,rfl⟩,rfl,fun _=>rfl,V⟩
   have fin:∀ st' A w' J' β',Inv ⟨J,β,h,w⟩ fn.ntmps J' β' st' A w'→T9 { P:=P,nt:=fn.ntmps,muts:=muts,nils:=hs.nils,free:=hs.free,cob:=hs.cob,tbl:=T } fn hs.modes (h.map (·.1)) (fun v h'=>some (v,h')) st'=some (res,h') →
     A.defers=[]∧∃ v,(results fn A.tmps).run P w'=.ok v w'∧∃ vc J' β',Ending.returned v=.returned vc∧FDone ⟨J,β,h,w⟩ J' β' h' w'∧Rep J' β' h' w' res vc:=by
    intro st' A w' J' β' I' l
    obtain⟨D4,X,vc,J2,β2,z,Y,h5,h6⟩:=iS I' l
    simp at z
    obtain⟨rfl,rfl⟩:=z
    exact⟨I'.defers,vc,Y,vc,J2,β2,rfl,h5,h6⟩
   exact oK (E:={ P:=P,nt:=fn.ntmps,muts:=muts,nils:=hs.nils,free:=hs.free,cob:=hs.cob,tbl:=T }) (vI hT) B c I M fin (fun _ _ _ _ _ _ _ l=>by simp at l) fin
end Gx
namespace Gx
open Go
section
variable {R R':Type}
theorem qv (E:Env) (ops:Array Oper) (o:Oper) (st:St) (k:St→Foot→O R) (g:R→Option R'):(nP E ops o st k).bind g=nP E ops o st fun st f=>(k st f).bind g:=by
 rw[MZ,MZ,Adz]
theorem lU (ops:Array Oper) (o:Oper) (st:St) (k:St→O R) (g:R→Option R'):(VV ops o st k).bind g=VV ops o st fun st=>(k st).bind g:=by
 unfold VV
 split
 ·rfl
 ·split
  ·rfl
  ·split
   ·rw[An]
   ·rfl
theorem fA (E:Env) (ops:Array Oper) (g:R→Option R'):∀ (l:List Oper) (st:St) (tr:List Foot) (k:St→List Foot→O R),(dX E ops l st tr k).bind g=dX E ops l st tr fun st tr=>(k st tr).bind g
 | [],st,tr,k=>rfl
 | o::r,st,tr,k=>by
  rw[dX,dX,lU]
  congr 1;funext st
  rw[qv]
  congr 1;funext st f
  exact fA E ops g r st (f::tr) k
theorem iV (E:Env) (roots:List Nat) (ops:Array Oper) (draw:Bool) (st:St) (k:St→O R) (g:R→Option R'):(FD E roots ops draw st k).bind g=FD E roots ops draw st fun st=>(k st).bind g:=by
 unfold FD
 rw[fA]
 congr 1;funext st tr
 rw[An,Adz];rfl
theorem qw (E:Env) (roots:List Nat) (H:Hint) (f:St→O R) (g:R→Option R') (st:St):(nQ E roots H f st).bind g=nQ E roots H (fun st=>(f st).bind g) st:=by
 unfold nQ
 rw[An,Adz,T8,T8]
theorem ZH (cn:St→Option St) (d:(St→O R)→St→O R) (e:(St→Option R')→St→Option R') (g:R→Option R') (f:∀ k st,(d k st).bind g=e (fun st=>(k st).bind g) st):∀ n st,(HZ cn d n st).bind g=HZ cn e n st
 | 0,st=>rfl
 | n+1,st=>by
  rw[HZ,HZ,f]
  congr 1;funext st
  rw[Adz]
  congr 1;funext st
  exact ZH cn d e g f n st
theorem oP (E:Env) (roots:List Nat) (N:Nat) (g:R→Option R'):∀ (c:Code) (H:Hint) (k:St→O R) (x:Nat→St→O R) (r:St→O R) (st:St),
  (Ek E roots N c H k x r st).bind g=Ek E roots N c H (fun st=>(k st).bind g) (fun j st=>(x j st).bind g) (fun st=>(r st).bind g) st:=by
 intro c
 induction c with
 | skip=>intro H k x r st;rfl
 | region id ops draw=>intro H k x r st;exact iV ..
 | seq a b d e =>
  intro H k x r st
  rw[Ek,Ek,d]
  congr 1;funext st
  rw[qw]
  congr 1;funext st
  exact e ..
 | cond c a b d e =>
  intro H k x r st
  rw[Ek,Ek]
  split
  ·rw[An,d,e]
  ·rfl
 | block id c f =>
  intro H k x r st
  rw[Ek,Ek,f]
  simp only[An]
 | loop c f =>
  intro H k x r st
  rw[Ek,Ek,Adz,T8,T8]
  congr 1;funext st
  exact ZH _ _ _ g (fun k st=>f ..) N st
 | exit id=>intro H k x r st;rfl
 | ret=>intro H k x r st;rfl
 | rangeFunc=>intro H k x r st;rfl
 | scope=>intro H k x r st;rfl
 | label=>intro H k x r st;rfl
 | goto=>intro H k x r st;rfl
 | refuse=>intro H k x r st;rfl
theorem CI (E:Env) (st:St) (g:R→Option R'):∀ (l:List ResultVar) (d:LA) (k:LA→O R),(Oe E st l d k).bind g=Oe E st l d fun l=>(k l).bind g
 | [],d,k=>rfl
 | .tmp t::r,d,k=>by rw[Oe,Oe];exact CI E st g r _ k
 | .cell a t::r,d,k=>by
  rw[Oe,Oe,FO,FO (R:=R'),Adz]
  congr 1;funext v
  exact CI E st g r _ k
theorem iW (E:Env) (fn:Func) (modes:List (Nat×Nat)) (outs:List Nat) (k:AV→Aw→O R) (g:R→Option R') (st:St):(T9 E fn modes outs k st).bind g=T9 E fn modes outs (fun v h=>(k v h).bind g) st:=by
 unfold T9
 rw[CI]
 congr 1;funext l
 rw[Adz]
 congr 1;funext q
 rw[An];rfl
theorem QQ (P:Program) (muts:Nat→List Bool) (T:List (Nat×Tw)) (hs:Hints) (N f:Nat) (d:LA) (h:Aw) (k:AV→Aw→O R) :
  YO P muts T hs N f d h k=(YO P muts T hs N f d h fun v h=>some (v,h)).bind fun p=>k p.1 p.2:=by
 unfold YO
 split
 ·rfl
 ·split
  ·rfl
  ·simp only
   rw[An,oP]
   simp only[iW]
   rfl
structure Cut (R:Type) where
 c:Code
 H:Hint
 k:St→O R
 x:Nat→St→O R
 r:St→O R
noncomputable def xu (E:Env) (roots:List Nat) (N:Nat):List Nat→Code→Hint→(St→O R)→(Nat→St→O R)→(St→O R)→List (St→O R)→Cut R
 | [],c,H,k,x,r,_=>⟨c,H,k,x,r⟩
 | d::p,.seq a b,H,k,x,r,ks=>cond (beq d 0) (xu E roots N p a H.a (nQ E roots H fun st=>Ek E roots N b H.b k x r st) x r ks) (xu E roots N p b H.b k x r ks)
 | d::p,.cond _ a b,H,k,x,r,ks=>cond (beq d 0) (xu E roots N p a H.a k x r ks) (xu E roots N p b H.b k x r ks)
 | _::p,.block id c,H,k,x,r,ks=>xu E roots N p c H.a k (fun j st=>cond (beq j id) (k st) (x j st)) r ks
 | _::p,.loop c,H,_,x,r,q::ks=>xu E roots N p c H.a (fun st=>(HY E H.live roots st).bind q) x r ks
 | _::_,c,H,k,x,r,_=>⟨c,H,k,x,r⟩
def oQ:Code→Code
 | .loop c=>c
 | c=>c
structure CutB (R:Type) where
 E:Env
 roots:List Nat
 N:Nat
 c:Cut R
noncomputable def D5 (q:CutB R) (st:St):O R:=Ek q.E q.roots q.N q.c.c q.c.H q.c.k q.c.x q.c.r st
noncomputable def qx (q:CutB R) (st:St):O R:=ux true (fun st=>Ek q.E q.roots q.N q.c.c q.c.H q.c.k q.c.x q.c.r st) st
theorem ti (q:CutB R) (st:St):qx q st=D5 q st:=by unfold qx;rw[T8];rfl
noncomputable def Ao (q:CutB R) (n:Nat) (st:St):O R:=HZ (HY q.E q.c.H.live q.roots) (fun k st=>Ek q.E q.roots q.N (oQ q.c.c) q.c.H.a k q.c.x q.c.r st) n st
noncomputable def vJ (q:CutB R) (st:St):O R:=ux true (HZ (HY q.E q.c.H.live q.roots) (fun k st=>Ek q.E q.roots q.N (oQ q.c.c) q.c.H.a k q.c.x q.c.r st) q.N) st
theorem vK (q:CutB R) (st:St):vJ q st=Ao q q.N st:=by unfold vJ;rw[T8];rfl
def xv (fn:Func):Code:=match fn.body with | some c=>c | none=>.skip
def x8:List (Nat×List Bool)→Nat→List Bool
 | [],_=>[]
 | (i,l)::r,f=>cond (beq i f) l (x8 r f)
end
end Gx
namespace Gx
open Go
abbrev KF (R:Type):=AV→Aw→Option R
abbrev hL:Hint:=.leaf
abbrev hS (a b:Hint):Hint:=.node [] a b
abbrev hP (l:List Nat) (a:Hint):Hint:=.node l a .leaf
abbrev hJ (l:List Nat) (a b:Hint):Hint:=.join l a b
def wh (P:Program) (muts:Nat→List Bool) (nt:Nat) (hs:Hints) (T:List (Nat×Tw)):Env:={ P,nt,muts,nils:=hs.nils,free:=hs.free,cob:=hs.cob,tbl:=T }
noncomputable def Ac5 {R:Type} (P:Program) (muts:Nat→List Bool) (fn:Func) (hs:Hints) (T:List (Nat×Tw)) (roots:List Nat) (N:Nat) (F:KF R) (p:List Nat) (ks:List (St→O R)):CutB R :=
 ⟨wh P muts fn.ntmps hs T,roots,N,xu (wh P muts fn.ntmps hs T) roots N p (xv fn) hs.H (T9 (wh P muts fn.ntmps hs T) fn hs.modes roots F) (fun _ _=>none) (T9 (wh P muts fn.ntmps hs T) fn hs.modes roots F) ks⟩
def iv (n:Int):AV:=.int .i64 n
def op (k:Nat):AV:=.optr (300000+k) 0
def Aco:Nat→List Blk→Aw
 | _,[]=>[]
 | i,b::r=>(i,b)::Aco (i+1) r
def hq (l:List Blk):Aw:=Aco 300000 l
def bQ (sz:Nat) (c:LA):Blk:=⟨false,false,true,false,sz,c,false,none⟩
def bN (sz:Nat) (c:LA):Blk:=⟨false,false,false,false,sz,c,false,none⟩
def bP (t:Bool) (sz:Nat) (c:LA):Blk:=⟨false,false,true,t,sz,c,false,none⟩
def Av {R:Type} (kd:IntKind) (c:LA) (k:Int→O R):O R:=(c.head?).bind fun x=>(OT kd x).bind k
def qS {R:Type} (c:LA) (k:Bool→O R):O R:=(c.head?).bind fun x=>(asBool x).bind k
def Hz {R:Type} (c:LA) (k:Lu→O R):O R:=(c.head?).bind fun x=>(YH x).bind k
def A6 {R:Type} (sz:Nat) (c:LA) (k:LA→Nat→O R):O R:=(c.head?).bind fun x=>(uj sz x).bind fun p=>k p.1 p.2
def qy (k:IntKind) (a b:Int):Int:=k.wrap ((BitVec.ofInt k.bits a &&& BitVec.ofInt k.bits b).toNat:Int)
def fB (k:IntKind) (a b:Int):Int:=k.wrap ((BitVec.ofInt k.bits a ||| BitVec.ofInt k.bits b).toNat:Int)
def Ar (s:Lu):LA:=s.map fun b=>.int .u8 (b.toNat:Int)
theorem iI {α δ:Type} (f:α→δ) {a d:α} (e:a=d):f a=f d:=by rw[e]
theorem Ac6 {α β δ:Type} (f:α→β→δ) {a d:α} {b e:β} (j:a=d) (k:b=e):f a b=f d e:=by rw[j,k]
theorem Ac7 {α β γ ε ζ η δ:Type} (f:α→β→γ→ε→ζ→η→δ) {a j:α} {b k:β} {c l:γ} {d m:ε} {e n:ζ} {g g':η} (q:a=j) (s:b=k) (t:c=l) (u:d=m) (v:e=n) (x:g=g'):f a b c d e g=f j k l m n g':=by rw[q,s,t,u,v,x]
end Gx
namespace Gx
open Go Go.RowKit
theorem tj {P:Program} {f:Nat} {t:Tw} (l:WG P f t) {W:World} {avs:LA} {vs:List Value} (hr:Reps (fun _ k=>k<W.heap.size) (fun _=>none) [] W avs vs)
  (j:(t.runK avs [] fun v h=>some (v,h))=some (.bool true,[])) (m:GlobOk (fun _ k=>k<W.heap.size) W):Calls P f vs.toArray W fun e w'=>e=.returned (.bool true)∧Below W.heap.size W w':=by
 have S:SimH (fun _ k=>k<W.heap.size) (fun _=>none) [] W:=⟨fun _ _ h=>h,fun _ h=>h,m,fun b x d=>by simp[Al] at d,fun b x d=>by simp[Al] at d,fun b s x x' k o o' d=>by simp[Al] at d⟩
 refine Calls.mono (l avs [] _ _ j _ _ W vs S hr) ?_
 rintro e w' ⟨vc,J',β',rfl,F,n⟩
 rw[Rep] at n;subst n
 refine⟨rfl,F.os,F.tape,F.output,F.size,fun k q=>F.frame k q ?_⟩
 rintro⟨b,x,o,d,_⟩
 change Al [] b=some x at d
 simp[Al] at d
structure Opens (P:Program) (t:TypeId) {α:Type} (e:α→List AV) (n:Nat):Prop where
 size:P.cellsOf t=n
 pos:0<n
 len:∀ a,(e a).length=n
 read:∀ {H:Type} (enc:TypeId×Value→H) (W:World) (fuel:Nat) (cs:List Value) (d:DataW H) (ps:List MemPlace),DataW.trod enc P W 0 (fun _=>true) true fuel t cs=some (d,ps) →
  cs.length=n∧∃ a,RepCs (fun k=>k<W.heap.size) W (e a) (fun j=>cs[j]?) 0
theorem jc {P:Program} {t:TypeId} {k:IntKind} (e:P.underlying t=some (.int k)) (f:P.cellsOf t=1):Opens P t (α:={ n:Int // (Lit.int k n).wf=true }) (fun n=>[.int k n.1]) 1:=by
 refine⟨f,by omega,fun _=>rfl,fun enc W fuel cs d ps h=>?_⟩
 obtain⟨n,rfl,_,j⟩:=DataW.trod_int e h
 exact⟨rfl,⟨n,j⟩,by simp[RepCs,RepC]⟩
theorem qz {P:Program} {t:TypeId} (e:P.underlying t=some .bool) (f:P.cellsOf t=1):Opens P t (α:=Bool) (fun b=>[.bool b]) 1:=by
 refine⟨f,by omega,fun _=>rfl,fun enc W fuel cs d ps h=>?_⟩
 obtain⟨b,rfl,_⟩:=DataW.trod_bool e h
 exact⟨rfl,b,by simp[RepCs,RepC]⟩
theorem KI {α β:Type} {e:α→List β} {n:Nat} (hn:0<n) (d:∀ a,(e a).length=n):∀ (l:List α) (j:Nat),(l.flatMap e)[j]?=(l[j/n]?).bind fun a=>(e a)[j%n]?
 | [],j=>by simp
 | a::r,j=>by
  rw[Aen]
  by_cases f:j<n
  ·rw[Ahb (by rw[d];exact f),Agb f,Ae7 f];simp
  ·rw[Ag9 (by rw[d];omega),d,KI hn d r (j - n)]
   have k:j/n=(j - n)/n+1:=by
    have:=Nat.add_div_right (j - n) hn
    rw[show j - n+n=j by omega] at this;exact this
   have m:j%n=(j - n)%n:=by
    have:=Nat.add_mod_right (j - n) n
    rw[show j - n+n=j by omega] at this;exact this
   rw[k,m];simp
theorem KJ {α β:Type} {e:α→List β} {n:Nat} (d:∀ a,(e a).length=n):∀ (l:List α),(l.flatMap e).length=l.length*n
 | []=>by simp
 | a::r=>by rw[Aen,Adw,d,KJ d r,Adx,Ahq];omega
theorem oR {α β:Type} {f:α→Option β}:∀ {l:List α} {r:List β},l.mapM f=some r→r.length=l.length∧∀ (i:Nat) (a:α),l[i]?=some a→f a=r[i]?
 | [],r,h=>by simp at h;subst h;simp
 | x::l,r,h=>by
  rw[Ahu] at h
  cases hx:f x with
  | none=>simp[hx] at h
  | some y =>
   cases d:l.mapM f with
   | none=>simp[hx,d] at h
   | some ys =>
    simp[hx,d] at h
    subst h
    obtain⟨e,j⟩:=oR d
    refine⟨by simp[e],fun i a hi=>?_⟩
    cases i with
    | zero=>simp at hi;subst hi;simpa using hx
    | succ i=>simpa using j i a (by simpa using hi)
theorem oS {P:Program} {t D:TypeId} {α:Type} {e:α→LA} {n:Nat} (Y:P.underlying t=some (.slice D)) (hc:P.cellsOf t=1) (s:Opens P D e n) :
  Opens P t (α:={ l:List α // l.length≤maxLen }) (fun l=>[.imm (l.1.flatMap e) l.1.length n false false]) 1:=by
 refine⟨hc,by omega,fun _=>rfl,fun enc W fuel cs d ps h=>?_⟩
 cases fuel with
 | zero=>simp[DataW.trod] at h
 | succ fuel =>
  unfold DataW.trod at h
  simp only[Y] at h
  split at h
  all_goals first | (rename_i hx;simp at hx;done) | (rename_i hx _;simp at hx;done) | (rename_i hx _ _;simp at hx;done) | skip
  ·refine⟨rfl,⟨[],by simp⟩,?_⟩
   simp[RepCs,RepC]
  ·rename_i e' a len cap hx
   simp at hx;subst hx
   split at h
   ·rename_i v
    obtain⟨hb,hlc,hcm⟩:=v
    refine⟨rfl,?_⟩
    cases L:(List.range len).mapM (fun i=>(W.cells? 0 (a.add (i*P.cellsOf D)) (P.cellsOf D)).bind (DataW.trod enc P W 0 (fun _=>true) true fuel D)) with
    | none=>rw[L] at h;simp at h
    | some HW =>
     obtain⟨h1,V⟩:=oR L
     rw[s.size] at V
     have each:∀ i:Nat,i<len→∃ x:α,∃ cs,W.cells? 0 (a.add (i*n)) n=some cs∧RepCs (fun k=>k<W.heap.size) W (e x) (fun j=>cs[j]?) 0:=by
      intro i hi
      have F:=V i i (by simp[hi])
      rw[Ad1 (by rw[h1];simpa using hi)] at F
      cases f:W.cells? 0 (a.add (i*n)) n with
      | none=>rw[f] at F;simp at F
      | some cs =>
       rw[f] at F
       obtain⟨_,x,hx⟩:=s.read enc W fuel cs _ _ F
       exact⟨x,cs,rfl,hx⟩
     have build:∀ m,m≤len→∃ l:List α,l.length=m∧∀ i x,l[i]?=some x→∃ cs,W.cells? 0 (a.add (i*n)) n=some cs∧RepCs (fun k=>k<W.heap.size) W (e x) (fun j=>cs[j]?) 0:=by
      intro m
      induction m with
      | zero=>intro _;exact⟨[],rfl,by simp⟩
      | succ m ih =>
       intro L
       obtain⟨l,I,z⟩:=ih (by omega)
       obtain⟨x,cs,M,S⟩:=each m (by omega)
       refine⟨l++[x],by simp[I],fun i y B=>?_⟩
       rw[Aev] at B
       split at B
       ·exact z i y B
       ·have:i=m:=by
         have:=(Aed.1 B).1
         simp at this;omega
        subst this
        simp[I] at B;subst B
        exact⟨cs,M,S⟩
     obtain⟨l,I,z⟩:=build len (Ad4 _)
     refine⟨⟨l,by omega⟩,?_⟩
     simp only[RepCs,RepC,and_true]
     refine⟨_,rfl,?_,some a,cap,by rw[I],by omega,by simp,?_⟩
     ·exact KJ s.len l
     ·by_cases h0:l.length=0
      ·exact .inl h0
      ·right
       refine⟨a,rfl,?_,?_⟩
       ·obtain⟨x,cs,hx,_⟩:=each 0 (by omega)
        have:=World.cells?_block hx s.pos
        rwa [Qw] at this
       ·rw[By]
        intro j x C
        rw[KI s.pos s.len] at C
        cases hq:l[j/n]? with
        | none=>rw[hq] at C;simp at C
        | some y =>
         rw[hq] at C
         simp at C
         obtain⟨cs,f,q⟩:=z (j/n) y hq
         rw[By] at q
         obtain⟨u,G,T⟩:=q (j%n) x C
         refine⟨u,?_,T⟩
         obtain⟨_,X,A⟩:=World.cells?_some f
         have U:j%n<n:=Ago _ s.pos
         have:=A (j%n) U
         rw[Addr.add_add,show j/n*n+j%n=j by rw[Afu];exact Af7 j n] at this
         simp only[Aec] at G ⊢
         rw[this];exact G
   ·simp at h
  ·simp at h
theorem rA {J:Bool→Nat→Prop} {β:Ch} {w w':World} (S:SimH J β [] w) (B:Below w.heap.size w w'):SimH J β [] w' :=
 ⟨fun o k h=>Afj (S.jlt o k h) B.size,S.jft,S.gl.to (fun _ h=>h) (fun k e=>B.block k (S.jlt _ k e)),fun b x d=>by simp[Al] at d,fun b x d=>by simp[Al] at d,fun b f x x' k o o' d=>by simp[Al] at d⟩
theorem DM {P:Program} {f:Nat} {d:LA} {res:AV}
  (m:∀ (J:Bool→Nat→Prop) (β:Ch) (w:World) (vs:List Value),GlobOk J w→Reps J β [] w d vs→Calls P f vs.toArray w fun e w'=>∃ vc,e=.returned vc∧Below w.heap.size w w'∧∀ J β w,Rep J β [] w res vc):th P f d [] res []:=by
 intro J β w vs S hr
 refine(m J β w vs S.gl hr).mono ?_
 rintro e w' ⟨vc,rfl,B,n⟩
 refine⟨vc,J,β,rfl,⟨rA S B,B.os,B.tape,B.output,B.size,fun k l _=>B.block k l,?_,fun _ _ h=>h,fun _ _ h=>.inl h,fun k=>?_,fun b x0 x j=>by simp[Al] at j,fun b x j=>by simp[Al] at j⟩,n _ _ _⟩
 ·rintro k ⟨b,x,o,j,_⟩;simp[Al] at j
 ·by_cases l:k<w.heap.size
  ·simp[Ba,B.block k l]
  ·simp[Ba,Aff (Ags l)]
theorem fC {J:Bool→Nat→Prop} {β:Ch} {h:Aw} {w:World} {x:AV} {vs:List Value} (H:Reps J β h w [x] vs):∃ u,vs=[u]∧Rep J β h w x u:=by
 rw[Reps] at H
 obtain⟨u,us,rfl,e,d⟩:=H
 rw[Reps] at d;subst d
 exact⟨u,rfl,e⟩
theorem fD {J:Bool→Nat→Prop} {β:Ch} {h:Aw} {w:World} {x y:AV} {vs:List Value} (H:Reps J β h w [x,y] vs):∃ u v,vs=[u,v]∧Rep J β h w x u∧Rep J β h w y v:=by
 rw[Reps] at H
 obtain⟨u,us,rfl,d,e⟩:=H
 obtain⟨v,rfl,f⟩:=fC e
 exact⟨u,v,rfl,d,f⟩
theorem GlobOk.tab {J:Bool→Nat→Prop} {w:World} (h:GlobOk J w) {P:Program} {g:Nat} {name:String} {k:IntKind} {zs:List Int} (d:(g,zs.map fun z=>Value.int k z) ∈ sW) (e:P.globalNamed name=some g):Lib.TabIs P w name k zs:=by
 obtain⟨ty,fr,f⟩:=(h.1 _ d).2
 unfold Lib.TabIs World.var?
 rw[e]
 simp only[Ae4]
 rw[f]
theorem vL {W:World} {P:Program} {g:Nat} {name:String} {k:IntKind} {zs:List Int} (h:Lib.TabIs P W name k zs) (d:P.globalNamed name=some g):∃ ty fr,W.heap[g]?=some (.cells (zs.map fun z=>Value.int k z).toArray ty fr):=by
 unfold Lib.TabIs World.var? at h
 rw[d] at h
 simp only[Ae4] at h
 split at h
 ·rename_i cs ty fr e
  simp at h;subst h
  exact⟨ty,fr,e⟩
 ·cases h
theorem GlobOk.int {J:Bool→Nat→Prop} {w:World} (h:GlobOk J w) {g:Nat} (d:g ∈ qW):∃ m,w.cell? ⟨g,0,none⟩=some (.int .i64 m):=(h.2 g d).2
theorem vM {W:World} {g i:Nat} {v:Value} (h:W.cell? ⟨g,i,none⟩=some v):g<W.heap.size:=by
 rcases Ahp g W.heap.size with d | d
 ·exact d
 ·simp[World.cell?,Aff d] at h
end Gx
namespace Gx
open Go
structure Bd (P:Program) where
 f:Nat
 run:LA→Aw→Option ((R:Type)→KF R→O R)
 eq:∀ a h g,run a h=some g→∀ (R:Type) (k:KF R),g R k=(g (AV×Aw) fun v h=>some (v,h)).bind fun p=>k p.1 p.2
 ok:∀ a h g res h',run a h=some g→(g (AV×Aw) fun v h=>some (v,h))=some (res,h')→th P f a h res h'
def Acp {R:Type} (k:KF R):Option ((R:Type)→KF R→O R)→O R
 | some g=>g R k
 | none=>none
def Bd.tw {P:Program} (b:Bd P):Tw:=⟨fun {R} a h k=>Acp k (b.run a h),fun {R} a h k=>by
 cases e:b.run a h with
 | none=>rfl
 | some g=>exact b.eq a h g e R k⟩
theorem Bd.tok {P:Program} (b:Bd P):WG P b.f b.tw:=by
 intro a h res h' d
 have d:Acp (fun v h'=>some (v,h')) (b.run a h)=some (res,h'):=d
 cases e:b.run a h with
 | none=>rw[e] at d;cases d
 | some g=>rw[e] at d;exact b.ok a h g res h' e d
def wi {P:Program}:List (Bd P)→List (Nat×Tw)
 | []=>[]
 | b::r=>(b.f,b.tw)::wi r
theorem sb {P:Program}:∀ l:List (Bd P),eZ P (wi l)
 | []=>trivial
 | b::r=>⟨b.tok,sb r⟩
def Aat {P:Program} {f:Nat} (t:Tw) (h:WG P f t):Bd P:=⟨f,fun a h=>some fun _ k=>t.runK a h k,fun a h g e R k=>by
 cases e;exact t.eq a h k,fun a h g res h' e hh=>by cases e;exact ‹WG P f t› a h res h' hh⟩
def Ac8 {P:Program} (x y:Bd P) (e:x.f=y.f):Bd P:=⟨x.f,fun a h=>match x.run a h with | some g=>some g | none=>y.run a h,fun a h g q=>by
 split at q
 ·cases q;exact x.eq a h _ ‹_›
 ·exact y.eq a h g q,fun a h g res h' q=>by
 split at q
 ·cases q;exact x.ok a h _ res h' ‹_›
 ·rw[e];exact y.ok a h g res h' q⟩
def Ac9 (P:Program) (muts:Nat→List Bool) (T:List (Nat×Tw)) (hs:Hints) (N f:Nat) (a:LA) (h:Aw):Option ((R:Type)→KF R→O R)→Prop
 | some g=>∀ (R:Type) (F:KF R),YO P muts T hs N f a h F=g R F
 | none=>True
def Ada {P:Program} {muts:Nat→List Bool} (hm:P.follows .mixedOrders=true) (N f:Nat) (l:List (Bd P)) (hs:Hints) (run:LA→Aw→Option ((R:Type)→KF R→O R)) (e:∀ a h,Ac9 P muts (wi l) hs N f a h (run a h)):Bd P :=
 ⟨f,run,fun a h g q R k=>by
  have H:=e a h;rw[q] at H
  rw[←H,←H];exact QQ ..,fun a h g res h' q hh=>by
  have H:=e a h;rw[q] at H
  rw[←H] at hh;exact KH (sb l) hm hh⟩
theorem lW {R τ:Type} (p:(St→O R)→τ) (q:CutB R):p (vJ q)=p (Ao q q.N):=congrArg p (funext fun _=>vK q _)
theorem jW {R τ:Type} (p:(St→O R)→τ) (q:CutB R):p (qx q)=p (D5 q):=congrArg p (funext fun _=>ti q _)
theorem xw {α δ:Type} {f g:α→δ} (h:∀ a,f a=g a):f=g:=funext h
theorem Yo {α β δ:Type} {f g:α→β→δ} (h:∀ a b,f a b=g a b):f=g:=funext fun _=>funext (h _)
theorem ym {α β γ δ:Type} {f g:α→β→γ→δ} (h:∀ a b c,f a b c=g a b c):f=g:=funext fun _=>Yo (h _)
theorem tk {α β γ ε δ:Type} {f g:α→β→γ→ε→δ} (h:∀ a b c d,f a b c d=g a b c d):f=g:=funext fun _=>ym (h _)
theorem Adb {α β γ ε ζ δ:Type} {f g:α→β→γ→ε→ζ→δ} (h:∀ a b c d e,f a b c d e=g a b c d e):f=g:=funext fun _=>tk (h _)
theorem Acq {α β γ ε ζ η δ:Type} {f g:α→β→γ→ε→ζ→η→δ} (h:∀ a b c d e x,f a b c d e x=g a b c d e x):f=g:=funext fun _=>Adb (h _)
def Acr:Nat→Nat→List Nat→List Nat
 | 0,_,l=>l
 | f+1,n,l=>cond (ble n 1) l (Acr f (n/4) (n%4::l))
def pz (n:Nat):List Nat:=Acr 100 n []
def hK:Nat→Hint→Hint
 | 0,h=>h
 | n+1,h=>hS hL (hK n h)
theorem Ev {τ:Type} {f g:Nat→τ} (h:∀ n,f n=g n→f (n+1)=g (n+1)) (d:f 0=g 0:=by kernel_rfl):∀ n,f n=g n
 | 0=>d
 | n+1=>h n (Ev h d n)
theorem Ee {α δ:Type} {z:δ} (f:α→δ) {a d:α} (e:a=d) (k:z=f a:=by kernel_rfl):z=f d:=by rw[k,e]
theorem Sq {α β δ:Type} {z:δ} (f:α→β→δ) {a d:α} {b e:β} (j:a=d) (l:b=e) (k:z=f a b:=by kernel_rfl):z=f d e:=by rw[k,j,l]
theorem Aau {α β γ δ:Type} {z:δ} (f:α→β→γ→δ) {a d:α} {b e:β} {c j:γ} (l:a=d) (m:b=e) (n:c=j) (k:z=f a b c:=by kernel_rfl):z=f d e j:=by rw[k,l,m,n]
theorem Adc {α β γ ε ζ η δ:Type} {z:δ} (f:α→β→γ→ε→ζ→η→δ) {a j:α} {b l:β} {c m:γ} {d n:ε} {e q:ζ} {g g':η} (s:a=j) (t:b=l) (u:c=m) (v:d=n) (x:e=q) (y:g=g') (k:z=f a b c d e g:=by kernel_rfl):z=f j l m n q g':=by rw[k,s,t,u,v,x,y]
def vN {R:Type} (E:Env) (roots:List Nat) (H:Hint) (f:St→O R) (st:St):O R:=cond H.isJoin ((HY E H.live roots st).bind f) (f st)
theorem vO {R:Type} (E:Env) (roots:List Nat) (H:Hint) (f:St→O R):vN E roots H f=nQ E roots H f:=by funext st;unfold vN nQ;rw[T8]
def Ti {R:Type} (E:Env) (roots:List Nat) (N:Nat):Code→Hint→(St→O R)→(Nat→St→O R)→(St→O R)→St→O R
 | .skip,_,k,_,_,st=>k st
 | .region _ ops draw,_,k,_,_,st=>FD E roots ops draw st k
 | .seq a b,H,k,x,r,st=>Ti E roots N a H.a (vN E roots H fun st=>Ti E roots N b H.b k x r st) x r st
 | .cond c a b,H,k,x,r,st=>match ev st.s c with
  | .bool t=>cond t (Ti E roots N a H.a k x r st) (Ti E roots N b H.b k x r st)
  | _=>none
 | .block id c,H,k,x,r,st=>Ti E roots N c H.a k (fun j st=>cond (beq j id) (k st) (x j st)) r st
 | .loop c,H,_,x,r,st=>(HY E H.live roots st).bind (HZ (HY E H.live roots) (fun k st=>Ti E roots N c H.a k x r st) N)
 | .exit id,_,_,x,_,st=>x id st
 | .ret,_,_,_,r,st=>r st
 | _,_,_,_,_,_=>none
theorem tp {R:Type} (E:Env) (roots:List Nat) (N:Nat):∀ (c:Code) (H:Hint) (k:St→O R) (x:Nat→St→O R) (r:St→O R) (st:St),Ti E roots N c H k x r st=Ek E roots N c H k x r st:=by
 intro c
 induction c with
 | skip=>intro H k x r st;rfl
 | region id ops draw=>intro H k x r st;rfl
 | seq a b d e =>
  intro H k x r st
  rw[Ek,Ti,d,vO]
  congr 2;funext st
  exact e ..
 | cond c a b d e =>
  intro H k x r st
  rw[Ek,Ti]
  simp only[d,e]
  rfl
 | block id c f=>intro H k x r st;rw[Ek,Ti,f]
 | loop c f =>
  intro H k x r st
  rw[Ek,Ti,T8]
  have:(fun k st=>Ti E roots N c H.a k x r st)=fun k st=>Ek E roots N c H.a k x r st:=by funext k st;exact f ..
  rw[this]
 | exit id=>intro H k x r st;rfl
 | ret=>intro H k x r st;rfl
 | rangeFunc=>intro H k x r st;rfl
 | scope=>intro H k x r st;rfl
 | label=>intro H k x r st;rfl
 | goto=>intro H k x r st;rfl
 | refuse=>intro H k x r st;rfl
def jd {R:Type} (P:Program) (muts:Nat→List Bool) (T:List (Nat×Tw)) (hs:Hints) (N f:Nat) (args:LA) (h:Aw) (k:AV→Aw→O R):O R :=
 match P.funcs[f]? with
 | none=>none
 | some fn=>match fn.body with
  | none=>none
  | some c =>
   let E:Env:={ P,nt:=fn.ntmps,muts,nils:=hs.nils,free:=hs.free,cob:=hs.cob,tbl:=T }
   let outs:=h.map (·.1)
   let fin:=T9 E fn hs.modes outs k
   cond (ble args.length fn.ntmps&&SC h) (Ti E outs N c hs.H fin (fun _ _=>none) fin { s:=d6 0 args,h }) none
theorem DN {R:Type} (P:Program) (muts:Nat→List Bool) (T:List (Nat×Tw)) (hs:Hints) (N f:Nat) (d:LA) (h:Aw) (k:AV→Aw→O R):jd P muts T hs N f d h k=YO P muts T hs N f d h k:=by
 unfold jd YO
 cases P.funcs[f]? with
 | none=>rfl
 | some fn =>
  simp only
  cases fn.body with
  | none=>rfl
  | some c=>simp only;rw[tp]
end Gx
namespace Gx
open Go Go.Proofs
set_option maxRecDepth 100000
noncomputable section
variable {R:Type} (N:Nat)
def muts:Nat→List Bool:=x8 [(23,[true]),(24,[true]),(25,[true]),(33,[true,false]),(34,[true,false,false]),(36,[true,false,false,false,false]),(37,[true,false,false,false]),(38,[true,false,false,false]),(44,[true,false]),(51,[true,false]),(54,[false,true]),(55,[false,true,true,true,true,true,true,true,true]),(56,[true]),(57,[true,false]),(58,[true,false,false]),(59,[true,false]),(60,[true,true]),(61,[true]),(62,[true]),(63,[true]),(64,[true]),(65,[true]),(66,[true]),(67,[true]),(68,[true]),(70,[true,false]),(71,[true,false]),(72,[true,false,false,false]),(73,[true,false,false,false,false,false,false,false]),(74,[true,false,false,false,false,false]),(76,[true,false,false]),(77,[true,false,false]),(78,[true,false,false]),(79,[true,false,false]),(80,[true,false,false]),(84,[false,true]),(85,[false,true,true,true,true,true,true,true,true]),(88,[false,false,true,true,true,true,true,true,true,true]),(89,[true,false]),(90,[true,false]),(91,[true]),(92,[true,false]),(93,[true,false,false]),(94,[true,false,false]),(95,[true,false]),(96,[true,false,false]),(98,[true,false]),(99,[true,false]),(100,[true,false,false]),(101,[true,false,false]),(102,[true,false]),(103,[true,false,false]),(107,[true,false]),(108,[true,false]),(109,[true]),(110,[true,false]),(111,[true]),(112,[true,false]),(113,[true,false]),(114,[true]),(115,[true]),(116,[true]),(117,[true]),(118,[true]),(119,[true,false,false,false,false,false]),(121,[true,false,false,false,false,false]),(122,[true,false,false]),(127,[false,true]),(140,[true]),(196,[false,true]),(212,[true]),(232,[true,false]),(233,[true,false]),(234,[true]),(235,[true]),(244,[true,false]),(248,[true]),(249,[true,false]),(253,[false,true,true,true,true,true,true,true,true])]
def Ade {R:Type}:=@Ac5 R Tryz.prog muts
theorem follows:Tryz.prog.follows .mixedOrders=true:=by kernel_rfl
abbrev EZ:=List (Bd Tryz.prog)
def Tj {R:Type} (fn hs) (l:EZ) (r N) (F:KF R):=@Ade R fn hs (wi l) r N F
def Jl (N f:Nat):=@Ada Tryz.prog muts follows N f
def O7:Hints:={ H:=hL }
def vP:Hints:={ H:=hL,free:=[100001] }
def vQ:Hints:={ H:=hL,modes:=[(3,0)] }
def B8 (F:KF R):Bool→O R:=(fun v0=>F (.bool v0) [])
def Ic (F:KF R):LA→O R:=(fun v0=>F (.tup []) [(100000,(bQ 0 v0))])
def D4 (F:KF R):Int→O R:=(fun v0=>F (iv v0) [])
def M9 (F:KF R):Nat→LA→O R:=(fun v0 v1=>F (.own 300000 0 v0) (hq [(bQ 1 v1)]))
def Pp (F:KF R):Nat→Bool→LA→O R:=(fun v0 v1 v2=>F (.tup []) [(100000,(bN 0 [(.own 300000 0 v0),(.bool v1)])),(300000,⟨false,false,true,false,1,v2,false,(some (5,0))⟩)])
def Nf (F:KF R):Lu→Bool→O R:=(fun v0 v1=>F (.tup []) [(100000,(bN 0 [(.str v0),(.bool v1)]))])
def CJ (F:KF R):LA→O R:=(fun v0=>F (.pagg v0 false) [])
def rB (v0:Bool) (F:KF R):Nat→LA→O R:=(fun v1 v2=>F (.tup []) [(100000,(bN 0 [(.own 300000 0 v1),(.bool v0)])),(300000,⟨false,false,true,false,1,v2,false,(some (5,0))⟩)])
def oT (F:KF R):Lu→O R:=(fun v0=>F (.str v0) [])
def bJ (v0:LA) (v1:Nat) (v2 v3:Bool) (F:KF R):LA→Int→O R:=(fun v4 v5=>F (.pagg v4 false) [(100000,(bN 0 [(.imm v0 v1 1 v2 v3),(iv v5)]))])
def oU (v0:LA) (v1:Nat) (v2 v3:Bool) (F:KF R):Nat→Int→LA→O R:=(fun v4 v5 v6=>F (.own 300000 0 v4) [(100000,(bN 0 [(.imm v0 v1 1 v2 v3),(iv v5)])),(300000,(bQ 1 v6))])
def Ss (F:KF R):Lu→Int→O R:=(fun v0 v1=>F (.tup [(.str v0),(iv v1)]) [])
end
end Gx
namespace Gx
open Go
theorem am {a b:Bool} (d:a=true) (e:b=true):(a&&b)=true:=by rw[d,e];rfl
theorem xx {P:Program} (U:laidOutB P=true) (V:mapsRowed P=true) (X:(P.stops==[])=true) (Y:(P.stopKnobs==[])=true) (d:P.stopsHeard=true) (e:P.mayEnter=true) {f:FuncId} {fn:Func} {s:ChangeSpec} {c:OpenClaim} (j:(c.inPlace==P.inPlace f)=true) (l:(c.unfollowed==P.unfollowed f)=true) (m:(c.recurses==P.recurses f)=true) (n:(c.named==P.varsNamed f)=true)
  (q:(c.lifted==P.liftsFinal)=true) (u:(P.make==some c.make)=true) (v:(c.plainKeys==P.plainKeys)=true)
  (h1:c.wf (OpenSpec.ofChange s)=true) (h4:fn.params.all (P.readableRec ·)=true) (h5:namedTie P c.named s.vars=true) (h6:(c.stops==[])=true) (h8:(c.knobs==[])=true)
  (x:(c.maps==(fn.params.toList++s.plain.varTypes P).any (P.mapsRec ·))=true) (y:(c.ifaces==(fn.params.toList++s.plain.varTypes P).any (P.ifacesRec ·))=true) (z:(c.mapsOut==P.mapsAmong fn.resultTypes.toList)=true)
  (A:(c.loops==(fn.params.toList++s.plain.varTypes P).any (P.loopsFrom ·))=true) (B:(c.wideKeys==(fn.params.toList++s.plain.varTypes P++fn.resultTypes.toList).any (P.wideKeysFrom ·))=true)
  (C:s.vars.all (P.varReadable ·)=true) (D:fn.resultTypes.all (fun t=>P.readableRec t&&decide (t<P.types.size))=true) (F:(c.ifacesOut==fn.resultTypes.toList.any (P.ifacesRec ·))=true) (G:(c.loopsOut==fn.resultTypes.toList.any (P.loopsFrom ·))=true)
  (I:c.shortTexts.isNone=true) (L:(c.kinds==(if c.domain.isEmpty then [] else fn.params.toList.map fun t=>match P.underlying t with | some (.int k)=>some k | _=>none))=true) (M:(c.pinned==c.pinnedBy)=true)
  (S:(c.veiled==(fn.params.toList++s.plain.varTypes P++fn.resultTypes.toList).any (P.veiledRec ·))=true) (T:c.veiledFits P fn.params.toList (fn.params.toList++s.plain.varTypes P++fn.resultTypes.toList)=true):joinedFacts P f fn s c=true:=by
 unfold joinedFacts
 exact am (am (am (am (am (am (am (am (am (am (am (am (am (am (am (am (am (am (am (am (am (am (am (am (am (am (am (am (am (am (am h1 U) V) h4) h5) h6) X) h8) Y) j) l) m) n) x) y) z) A) B) C) D) F) G) v) I) d) e) q) u) L) M) S) T
end Gx
namespace Go.Proofs.YtpeocjkboabibaaGreatDoor
open Go.ChangeShapes Go.WideShapes Go.ChangeAt Go.RowKit
theorem Aav:ownKnob Tryz.prog.godebug=none:=by kernel_rfl
theorem fE:laidOutB Tryz.prog=true:=by kernel_rfl
theorem Aaw : Tryz.prog.globalNamed "internal/strconv.uint64pow10" = some 1 := by kernel_rfl
theorem Adf:(Tryz.prog.globals[1]?).map (·.type)=some 254:=by kernel_rfl
theorem Aax:Tryz.prog.underlying 254=some (.array 20 98):=by kernel_rfl
theorem Aay:Tryz.prog.underlying 98=some (.int .u64):=by kernel_rfl
theorem Aaz:Tryz.prog.cellsOf 254=20:=by kernel_rfl
theorem Aa0:Tryz.prog.cellsOf 98=1:=by kernel_rfl
def yn:List Int:=(List.range 20).map fun i=>((10 ^ i:Nat):Int)
theorem tq {H:Type}:(Rows.laid_internal_strconv_uint64pow10:DataW H)=Lib.tabData .u64 yn:=rfl
theorem wj {W:World} (hL:laidMetH Tryz.prog Rows.casetextFormatsRow.laid W) (e:W.ShapedOpen Tryz.prog):Gx.GlobOk (fun _ k=>k<W.heap.size) W:=by
 have x : Lib.TabIs Tryz.prog W "internal/strconv.uint64pow10" .u64 yn := by
  have f:laidMet Tryz.prog Rows.casetextFormatsRow.laid W:=hL
  obtain⟨ps,⟨I,t0,cs0,L,M,S,y,z,A,B,⟨T,t1,cs1,f1,U,V,C,D,F,G,⟨X,t2,cs2,f2,Y,q2,j,l,n,d,_,_⟩,_⟩,_⟩,_⟩:=f
  obtain rfl:=Option.some.inj (Aaw.symm.trans j)
  obtain rfl:=Option.some.inj (Adf.symm.trans l)
  unfold Lib.TabIs
  rw[tq] at d
  rw[n,←Lib.cells_of_tab Aax Aay Aa0 Aaz d]
 obtain⟨ty,fr,q⟩:=Gx.vL x Aaw
 obtain⟨m,s⟩:=cell_of_shapedOpen_int (P:=Tryz.prog) (g:=0) (t:=3) (zero:=#[.int .i64 0]) e (of_decide_eq_true (by kernel_rfl)) (by kernel_rfl) rfl (by kernel_rfl) (by kernel_rfl) Tryz.underlying3
 refine⟨fun p u=>?_,fun g v=>?_⟩
 ·simp only[Gx.sW,List.mem_singleton] at u
  subst u
  refine⟨?_,ty,fr,?_⟩
  ·show 1<W.heap.size
   rcases Nat.lt_or_ge 1 W.heap.size with h | h
   ·exact h
   ·rw[Array.getElem?_eq_none h] at q;cases q
  ·rw[q];rfl
 ·simp only[Gx.qW,List.mem_singleton] at v
  subst v
  exact⟨Gx.vM s,m,s⟩
noncomputable def sc (os:Os):World:=World.laidAll Tryz.prog os Rows.casetextFormatsRow.laid
theorem vR (os:Os):(sc os).os=os:=World.laidAll_os _ _ _
theorem tt (os:Os) (d:Array Value):laidMetH Tryz.prog Rows.casetextFormatsRow.laid ((sc os).forCall (fun _ _=>0) ⟨#[],d,[]⟩).memory :=
 laidMet_laidAll d (by kernel_rfl) (by kernel_rfl)
theorem yo:mapsRowed Tryz.prog=true:=by kernel_rfl
theorem xy:(Tryz.prog.stops==[])=true:=by kernel_rfl
theorem xz:(Tryz.prog.stopKnobs==[])=true:=by kernel_rfl
theorem yA:Tryz.prog.stopsHeard=true:=by kernel_rfl
theorem yB:Tryz.prog.mayEnter=true:=by kernel_rfl
theorem yC:(Rows.casetextFormatsRow.lifted==Tryz.prog.liftsFinal)=true:=by kernel_rfl
theorem yp:(Tryz.prog.make==some Rows.casetextFormatsRow.make)=true:=by kernel_rfl
theorem yq:(Rows.casetextFormatsRow.plainKeys==Tryz.prog.plainKeys)=true:=by kernel_rfl
end Go.Proofs.YtpeocjkboabibaaGreatDoor
namespace Gx
open Go
theorem wrap_u32 (a:Nat) (h:a<4294967296):wrap .u32 (a:Int)=(a:Int):=IntWalk.u32_in _ (by omega)
theorem tu (a:Nat):wrap .u32 (a:Int)=((a%4294967296:Nat):Int):=by rw[IntKind.wrap_u32];omega
theorem Vd (a:Int) (h:-9223372036854775808≤a∧a≤9223372036854775807):wrap .i64 a=a:=IntWalk.i64_in _ h
theorem wrap_u64 (a:Nat) (h:a<18446744073709551616):wrap .u64 (a:Int)=(a:Int):=IntWalk.u64_in _ (by omega)
theorem M' (w a:Nat):BitVec.ofInt w (a:Int)=BitVec.ofNat w a:=by simp
theorem rC {k:IntKind} (hs:k.signed=false) {a b:Nat} (e:a<2 ^ k.bits) (d:b<2 ^ k.bits):qy k a b=((a &&& b:Nat):Int):=by
 unfold qy
 rw[M',M']
 have f:(BitVec.ofNat k.bits a &&& BitVec.ofNat k.bits b).toNat=a &&& b:=by
  rw[BitVec.toNat_and,Agu,Agu,Ae7 e,Ae7 d]
 rw[f]
 have j:a &&& b<2 ^ k.bits:=Nat.and_lt_two_pow _ d
 unfold wrap
 simp only[hs,Bool.false_and,Agc,if_false]
 have:(2 ^ k.bits:Int)=((2 ^ k.bits:Nat):Int):=by simp
 rw[this,←Int.natCast_emod,Ae7 j]
theorem je {k:IntKind} (hs:k.signed=false) {a b:Nat} (d:a<2 ^ k.bits) (e:b<2 ^ k.bits):fB k a b=((a ||| b:Nat):Int):=by
 unfold fB
 rw[M',M']
 have f:(BitVec.ofNat k.bits a ||| BitVec.ofNat k.bits b).toNat=a ||| b:=by
  rw[BitVec.toNat_or,Agu,Agu,Ae7 d,Ae7 e]
 rw[f]
 have j:a ||| b<2 ^ k.bits:=Nat.or_lt_two_pow d e
 unfold wrap
 simp only[hs,Bool.false_and,Agc,if_false]
 have:(2 ^ k.bits:Int)=((2 ^ k.bits:Nat):Int):=by simp
 rw[this,←Int.natCast_emod,Ae7 j]
theorem fF (a k:Nat):Int.fdiv (a:Int) (2 ^ k)=((a/2 ^ k:Nat):Int):=by
 have:(2 ^ k:Int)=((2 ^ k:Nat):Int):=by simp
 rw[this,Int.fdiv_eq_ediv_of_nonneg (a:Int) (Int.natCast_nonneg (2 ^ k))]
 rfl
theorem Cp {R:Type} {k:IntKind} {n:Int} {r:LA} {f:Int→O R}:Av k (.int k n::r) f=f n:=by simp[Av,OT,Na]
theorem KK (l:Lu):(Ar l).length=l.length:=by simp[Ar]
theorem lV (l:Lu) (n:Nat):(Ar l).drop n=Ar (l.drop n):=by simp[Ar,List.map_drop]
theorem KL (l m:Lu):Ar l++Ar m=Ar (l++m):=by simp[Ar]
theorem tv {R:Type} {l:Lu} {i:Nat} (h:i<l.length) {f:Int→O R}:Av .u8 (drop i (Ar l)) f=f ((l[i].toNat:Nat):Int):=by
 rw[lV,Afe h]
 exact Cp
theorem PA:∀ l:Lu,T6 (Ar l)=some l
 | []=>rfl
 | b::r=>by
  show T6 (.int .u8 (b.toNat:Int)::Ar r)=_
  rw[T6,PA r]
  simp[qT]
theorem Ab {i n:Nat} (h:i<n):Aj (i:Int) n=true:=by simp[Aj];omega
end Gx
namespace Gx
open Go Go.RowKit
section
variable {P:Program} {W:World} {H:Type} {enc:TypeId×Value→H} {β:Ch} {h:Aw}
theorem wk {t j:TypeId} {α:Type} {e:α→LA} {n:Nat} {a:Option Addr} {len cap:Nat} {d:DataW H} {p:List MemPlace} (f:P.underlying t=some (.slice j)) (m:P.cellsOf t=1) (q:Opens P j e n)
  (s:DataW.Trod enc P W 0 (fun _=>true) true t (.slice a len cap) d p):∃ l:List α,l.length≤maxLen∧Rep (fun _ k=>k<W.heap.size) β h W (.imm (l.flatMap e) l.length n false false) (.slice a len cap):=by
 obtain⟨fuel,v⟩:=s
 obtain⟨_,⟨l,x⟩,hr⟩:=(oS f m q).read enc W fuel _ _ _ v
 refine⟨l,x,?_⟩
 simp only[RepCs,Value.cells,and_true] at hr
 obtain⟨u,f,hr⟩:=hr
 simp at f;subst f
 rw[Rep];exact hr
theorem sd {k:IntKind} {n:Int}:Rep (fun _ k=>k<W.heap.size) β h W (.int k n) (.int k n):=by rw[Rep]
theorem vS:Reps (fun _ k=>k<W.heap.size) β h W [] []:=by rw[Reps]
theorem DO {x:AV} {xs:LA} {v:Value} {vs:List Value} (d:Rep (fun _ k=>k<W.heap.size) β h W x v) (e:Reps (fun _ k=>k<W.heap.size) β h W xs vs):Reps (fun _ k=>k<W.heap.size) β h W (x::xs) (v::vs):=by
 rw[Reps];exact⟨v,vs,rfl,d,e⟩
end
end Gx
namespace Gx
open Go Go.RowKit
theorem lX {P:Program} {t:TypeId} (e:P.underlying t=some .string) (f:P.cellsOf t=1):Opens P t (α:={ s:Lu // s.length≤maxLen }) (fun s=>[.str s.1]) 1:=by
 refine⟨f,by omega,fun _=>rfl,fun enc W fuel cs d ps h=>?_⟩
 obtain⟨s,rfl,_,j⟩:=DataW.trod_string e h
 refine⟨rfl,⟨s.data.toList,j⟩,?_⟩
 simp[RepCs,RepC]
end Gx
namespace Gx
open Go Go.RowKit
section
variable {P:Program} {W:World} {H:Type} {enc:TypeId×Value→H} {β:Ch} {h:Aw}
theorem iX {t:TypeId} {fs:Array Field} {d:Nat} {r:Reach} {v:Value} (e:P.underlying t=some (.struct fs)) (h:Value.okWide P W r d t v):∃ cs,v=.agg cs:=by
 unfold Value.okWide at h
 rw[e] at h
 obtain⟨cs,h,_⟩:=h
 exact⟨cs,h⟩
theorem vT {J:Nat→Prop}:∀ {x:AV} {u:Value},RepC J W x u→Rep (fun _=>J) β h W x u
 | .int ..,_,h=>by rw[Rep];rw[RepC] at h;exact h
 | .bool _,_,h=>by rw[Rep];rw[RepC] at h;exact h
 | .str _,_,h=>by rw[Rep];rw[RepC] at h;exact h
 | .nsl,_,h=>by rw[Rep];rw[RepC] at h;exact h
 | .imm ..,_,h=>by rw[Rep];exact h
 | .iptr ..,_,h=>by rw[Rep];exact h
 | .nilptr,_,h=>by rw[Rep];rw[RepC] at h;exact h
 | .nilfn,_,h=>by rw[Rep];rw[RepC] at h;exact h
 | .fn f [],_,h=>by
  rw[Rep];rw[RepC] at h
  exact⟨[],by simpa using h,by rw[Reps]⟩
 | .fn _ (_::_),_,h=>by simp[RepC] at h
 | .pagg ..,_,h=>by simp[RepC] at h
 | .agg _,_,h=>by simp[RepC] at h
 | .tup _,_,h=>by simp[RepC] at h
 | .own ..,_,h=>by simp[RepC] at h
 | .omap _,_,h=>by simp[RepC] at h
 | .optr ..,_,h=>by simp[RepC] at h
 | .undef,_,h=>by simp[RepC] at h
theorem se {J:Nat→Prop}:∀ {c:LA} {cs:List Value} {rd:Nat→Option Value} {i:Nat},cs.length=c.length→(∀ j,cs[j]?=rd (i+j))→RepCs J W c rd i→Reps (fun _=>J) β h W c cs
 | [],cs,_,_,d,_,_=>by rw[Reps];simpa using d
 | x::r,[],_,_,d,_,_=>by simp at d
 | x::r,u::us,rd,i,d,hr,f=>by
  rw[RepCs] at f
  obtain⟨⟨l,e,hx⟩,f⟩:=f
  have k:=hr 0
  simp only[List.getElem?_cons_zero,Afh] at k
  rw[←k] at e
  cases e
  rw[Reps]
  refine⟨u,us,rfl,vT hx,se (by simpa using d) (fun j=>?_) f⟩
  have:=hr (j+1)
  rw[List.getElem?_cons_succ] at this
  rw[this];congr 1;omega
theorem wl {c:LA} {v:Value} (hr:Rep (fun _ k=>k<W.heap.size) β h W (.pagg c false) v):Rep (fun _ k=>k<W.heap.size) β h W (.agg c) v:=by
 rw[Rep] at hr
 obtain⟨cs,d,e,f⟩:=hr
 rw[Rep]
 exact⟨cs,d,se e (fun j=>by rw[Aec]) f⟩
end
end Gx
namespace Gx.Cf
open Go Go.Proofs
inductive Sl (α:Type) where
 | nil
 | of (l:List α) (t o:Bool)
def Sl.l {α:Type}:Sl α→List α
 | .nil=>[]
 | .of l _ _=>l
def Sl.av {α:Type} (sz:Nat) (e:α→LA):Sl α→AV
 | .nil=>.nsl
 | .of l t o=>.imm (l.flatMap e) l.length sz t o
def Fh (n:Int):LA:=[.int .i64 n]
def Az (l:List Int):LA:=l.map fun n=>.int .i64 n
theorem A4:∀ l:List Int,l.flatMap Fh=Az l
 | []=>rfl
 | a::r=>by rw[Aen,A4 r];rfl
theorem Kh (l:List Int):(Az l).length=l.length:=by simp[Az]
theorem ZI (l m:List Int):Az l++Az m=Az (l++m):=by simp[Az]
structure FracD where
 num:Int
 den:Int
structure BusD where
 name:List UInt8
 demand:Sl Int
 shed:Int
structure LineD where
 name:List UInt8
 fr:Int
 tl:Int
 re:FracD
 smin:FracD
 smax:FracD
 limit:Int
 emer:Int
 away:Sl Int
structure SegD where
 width:Int
 price:Int
structure UnitD where
 name:List UInt8
 bus:Int
 min:Int
 max:Int
 segs:Sl SegD
 noLoad:Int
 rampUp:Int
 rampDown:Int
 startRamp:Int
 stopRamp:Int
 upTime:Int
 downTime:Int
 startTime:Int
 hotCost:Int
 coldCost:Int
 hotHours:Int
 reserve:Int
 reservePrice:Int
 away:Sl Int
 state:Int
 hours:Int
 output:Int
structure StoreD where
 name:List UInt8
 bus:Int
 capacity:Int
 initial:Int
 final:Int
 charge:Int
 discharge:Int
 eff:FracD
structure TieD where
 name:List UInt8
 bus:Int
 imp:Sl Int
 exp:Sl Int
 price:Sl Int
structure MoveD where
 unit:Int
 up:Int
 down:Int
structure OutD where
 name:List UInt8
 lines:Sl Int
 corr:Bool
 moves:Sl MoveD
structure CaseD where
 hours:Int
 reserve:Sl Int
 buses:Sl BusD
 lines:Sl LineD
 units:Sl UnitD
 stores:Sl StoreD
 ties:Sl TieD
 outs:Sl OutD
def BusD.av (b:BusD):LA:=[.str b.name,b.demand.av 1 Fh,.int .i64 b.shed]
def LineD.av (b:LineD):LA:=[.str b.name,.int .i64 b.fr,.int .i64 b.tl,.int .i64 b.re.num,.int .i64 b.re.den,.int .i64 b.smin.num,.int .i64 b.smin.den,.int .i64 b.smax.num,.int .i64 b.smax.den,.int .i64 b.limit,.int .i64 b.emer,b.away.av 1 Fh]
def SegD.av (s:SegD):LA:=[.int .i64 s.width,.int .i64 s.price]
def UnitD.av (u:UnitD):LA:=[.str u.name,.int .i64 u.bus,.int .i64 u.min,.int .i64 u.max,u.segs.av 2 SegD.av,.int .i64 u.noLoad,.int .i64 u.rampUp,.int .i64 u.rampDown,.int .i64 u.startRamp,.int .i64 u.stopRamp,.int .i64 u.upTime,.int .i64 u.downTime,.int .i64 u.startTime,.int .i64 u.hotCost,.int .i64 u.coldCost,.int .i64 u.hotHours,.int .i64 u.reserve,.int .i64 u.reservePrice,u.away.av 1 Fh,.int .i64 u.state,.int .i64 u.hours,.int .i64 u.output]
def StoreD.av (s:StoreD):LA:=[.str s.name,.int .i64 s.bus,.int .i64 s.capacity,.int .i64 s.initial,.int .i64 s.final,.int .i64 s.charge,.int .i64 s.discharge,.int .i64 s.eff.num,.int .i64 s.eff.den]
def TieD.av (t:TieD):LA:=[.str t.name,.int .i64 t.bus,t.imp.av 1 Fh,t.exp.av 1 Fh,t.price.av 1 Fh]
def MoveD.av (m:MoveD):LA:=[.int .i64 m.unit,.int .i64 m.up,.int .i64 m.down]
def OutD.av (o:OutD):LA:=[.str o.name,o.lines.av 1 Fh,.bool o.corr,o.moves.av 3 MoveD.av]
def CaseD.av (c:CaseD):LA:=[.int .i64 c.hours,c.reserve.av 1 Fh,c.buses.av 3 BusD.av,c.lines.av 12 LineD.av,c.units.av 22 UnitD.av,c.stores.av 9 StoreD.av,c.ties.av 5 TieD.av,c.outs.av 4 OutD.av]
section
variable {R:Type}
theorem Bn {α:Type} {sz:Nat} {e:α→LA} {s:Sl α} {r:LA} {f:LA→Nat→O R}:A6 sz (s.av sz e::r) f=f (s.l.flatMap e) s.l.length:=by
 cases s<;>simp[A6,Sl.av,Sl.l,uj]
theorem Y6 {s:Lu} {r:LA} {f:Lu→O R}:Hz (.str s::r) f=f s:=by simp[Hz,YH]
theorem vU {b:Bool} {r:LA} {f:Bool→O R}:qS (.bool b::r) f=f b:=by simp[qS,asBool]
theorem Ew (a b:Nat):ble a b=decide (a≤b):=by
  cases h:ble a b with
  | true=>simp at h;simp[h]
  | false => have : ¬ a ≤ b := fun d => by rw [Nat.ble_eq_true_of_le d] at h; cases h
             simp[this]
theorem lY (a b:Nat):beq a b=decide (a=b):=by
  cases h:beq a b with
  | true=>have:=Ad8 h;simp[this]
  | false => have : a ≠ b := fun e => by subst e; rw [Nat.beq_refl] at h; cases h
             simp[this]
theorem ct (x y:O R):cond true x y=x:=rfl
theorem cf (x y:O R):cond false x y=y:=rfl
theorem Be {α:Type} {e:α→LA} {sz:Nat} (d:∀ a,(e a).length=sz):∀ (l:List α) (j:Nat) (h:j<l.length),drop (j*sz) (l.flatMap e)=e l[j]++(l.drop (j+1)).flatMap e
 | a::r,0,_=>by simp
 | a::r,j+1,h=>by
  have:=Be d r j (by simpa using h)
  rw[Aen,List.drop_append,d,show(j+1)*sz - sz=j*sz by rw[Afn];omega,Agx (by rw[d,Afn];omega)]
  simpa using this
theorem fG {l:List Int} {i:Nat} (h:i<l.length) {f:Int→O R}:Av .i64 (drop i (Az l)) f=f l[i]:=by
 rw[Az,Afe (by simpa using h)];simp[Cp]
abbrev I6:=Option ((Int×Int×Int)×{ e:Int // e≠0 })
def nd (p:I6) (ok:Bool) (w:Int×Int×Int) (e:{ e:Int // e≠0 }):I6:=match p with
 | some x=>some x
 | none=>cond ok none (some (w,e))
theorem FS (p:I6) (w:Int×Int×Int) (e:{ e:Int // e≠0 }):nd p true w e=p:=by cases p<;>rfl
theorem wm (x:(Int×Int×Int)×{ e:Int // e≠0 }) (ok:Bool) (w:Int×Int×Int) (e:{ e:Int // e≠0 }):nd (some x) ok w e=some x:=rfl
theorem oV (p:I6) (a b:Bool) (w:Int×Int×Int) (e:{ e:Int // e≠0 }):nd (nd p a w e) b w e=nd p (a&&b) w e:=by cases p<;>cases a<;>cases b<;>rfl
def vV (p:I6) (k i:Int):LA:=match p with
 | none=>[.int .i64 k,.int .i64 i,.int .i64 0,.int .i64 0]
 | some ((a,b,f),e)=>[.int .i64 a,.int .i64 b,.int .i64 f,.int .i64 e.1]
def Fa (lo hi n:Int):Bool:=decide (lo≤n)&&decide (n≤hi)
end
end Gx.Cf
namespace Gx
open Go Go.Proofs
set_option maxRecDepth 100000
noncomputable section
variable {R:Type} (N:Nat)
def lZ (N:Nat) (a:LA) (b:Nat) (c d:Bool) (r0:O R):O R :=
 r0
def rD:=(At (@lZ R)).1
theorem fH:@rD R=@lZ R:=(At _).2
def tz (a:LA) (b:Nat) (c d:Bool) (F:KF R):O R:=F (op 0) (hq [(bN 0 [(.imm a b 1 c d),(iv 0)])])
def vW:=Jl N 32 [] O7 (fun
 | [(.imm a b 1 c d)],[]=>some fun _ k=>rD N a b c d (tz a b c d k)
 | _,_=>none) fun _ _=>by split;intro R F;dsimp only;rw[fH];kernel_rfl;trivial
def dK (N:Nat) (b a:Int) (r0:Int→O R):O R :=
 (cond ((wrap .u64 a)==0) none (r0 (wrap .i64 (Int.tmod (wrap .u64 b) (wrap .u64 a)))))
def QR:=(At (@dK R)).1
theorem QS:@QR R=@dK R:=(At _).2
def oW:=Jl N 14 [] O7 (fun
 | [(.int .i64 b),(.int .i64 a)],[]=>some fun _ k=>QR N b a (D4 k)
 | _,_=>none) fun _ _=>by split;intro R F;dsimp only;rw[QS];kernel_rfl;trivial
def Uf (f:Int) (c:LA) (a:Nat) (d e:Bool) (b:Int) (r0:Int→Int→O R):O R :=
 (cond (decide (b≥(a:Int))) (r0 0 b) (cond (Aj (wrap .i64 ((wrap .i64 (b+1)) - 1)) a) (Av .i64 (c.drop (((wrap .i64 ((wrap .i64 (b+1)) - 1)).toNat)*1)) fun g=>QR N g f fun h=>r0 h (wrap .i64 (b+1))) none))
def Ae:=(At (@Uf R)).1
theorem Tk:@Ae R=@Uf R:=(At _).2
def bK (c:LA) (a:Nat) (d e:Bool) (F:KF R):Int→Int→O R:=(fun i j=>F (iv i) [(100000,(bN 0 [(.imm c a 1 d e),(iv j)]))])
def J5:=Jl N 33 [oW N] O7 (fun
 | [(.optr 100000 0),(.int .i64 f)],[(100000,⟨false,false,false,false,0,[(.imm c a 1 d e),(.int .i64 b)],false,none⟩)]=>some fun _ k=>Ae N f c a d e b (bK c a d e k)
 | _,_=>none) fun _ _=>by split;intro R F;dsimp only;rw[Tk];kernel_rfl;trivial
def Mr (r0:Nat→Int→LA→O R) (f g:Int) (a:LA) (b:Nat) (c d:Bool) (k0:Nat→Int→Int→LA→O R) (i:Nat) (j l:Int) (m:LA):O R :=
 (cond (decide (j<f)) (Ae N g a b c d l fun o p=>cond ((ble (i+1) 140737488355328)&&(ble ((i+1)*8) 140737488355328)) (k0 (i+1) (wrap .i64 (j+1)) p ((m.take (i*1))++[(.int .i64 o)])) none) (r0 i l m))
def Fi (r0:Nat→Int→LA→O R) (f g:Int) (a:LA) (b:Nat) (c d:Bool):Nat→Nat→Int→Int→LA→O R
 | 0,_,_,_,_=>none
 | n+1,i,j,l,m=>Mr N r0 f g a b c d (Fi r0 f g a b c d n) i j l m
def Rn (N:Nat) (r0:Nat→Int→LA→O R) (q0:Nat→Int→Int→LA→O R) (f g:Int) (a:LA) (b:Nat) (c d:Bool) (h:Int):O R :=
 (q0 0 0 h [])
def Fy:=(At fun N f g a b c d h r0=>Rn (R:=R) N r0 (Fi N r0 f g a b c d N) f g a b c d h).1
theorem AT (f g a b c d h r0):(@Fy R N f g a b c d h r0)=(Rn N r0 (Fi N r0 f g a b c d N) f g a b c d h):=by rw[Fy,(At _).2]
def DP:Hints:={ H:=(hK 2 (hS (hK 1 (hS (hP [0,1,2,7,8] hL) hL)) hL)),nils:=[(6,1),(7,1)],modes:=[(2,1)] }
def IE:EZ:=[J5 N]
def WI (F:KF R):=Tj Tryz.f34 DP (IE N) [100000] N F
def WJ (f g:Int) (a:LA) (b:Nat) (c d:Bool) (K:St→O R):=fun i j l m=>K ⟨[(0,(.optr 100000 0)),(1,(iv f)),(2,(iv g)),(7,(.own 300000 0 i)),(8,(iv j))],[(100000,(bN 0 [(.imm a b 1 c d),(iv l)])),(300000,(bQ 1 m))]⟩
theorem NQ (F:KF R) (f g a b c d):∀ n,WJ f g a b c d (Ao (WI N F (pz 1348) []) n)=(Fi N (oU a b c d F) f g a b c d n):=Ev fun n e=>(Ee (Mr N (oU a b c d F) f g a b c d) e:_)
def bL:=Jl N 34 (IE N) DP (fun
 | [(.optr 100000 0),(.int .i64 f),(.int .i64 g)],[(100000,⟨false,false,false,false,0,[(.imm a b 1 c d),(.int .i64 h)],false,none⟩)]=>some fun _ k=>Fy N f g a b c d h (oU a b c d k)
 | _,_=>none) fun _ _=>by split;rename_i f g a b c d h;intro R F;exact(Ee (Rn N (oU a b c d F) · f g a b c d h) ((lW ..).trans (NQ ..)):_).trans (AT ..).symm;trivial
def fI (N:Nat) (b:Lu) (a:Int) (r0:Lu→O R):O R :=
 (cond ((decide (0≤(Int.tmod a 16)))&&((decide ((Int.tmod a 16)≤(wrap .i64 ((Int.tmod a 16)+1))))&&((decide ((wrap .i64 ((Int.tmod a 16)+1))≤16))&&(decide ((16:Int)≤(16:Int)))))) (cond (ble ((b.length)+(List.length (take (((wrap .i64 ((Int.tmod a 16)+1)).toNat) - ((Int.tmod a 16).toNat)) (drop ((Int.tmod a 16).toNat) ([48,49,50,51,52,53,54,55,56,57,97,98,99,100,101,102]:Lu))))) 140737488355328) (r0 (b++(take (((wrap .i64 ((Int.tmod a 16)+1)).toNat) - ((Int.tmod a 16).toNat)) (drop ((Int.tmod a 16).toNat) ([48,49,50,51,52,53,54,55,56,57,97,98,99,100,101,102]:Lu))))) none) none)
def FT:=(At (@fI R)).1
theorem ZJ:@FT R=@fI R:=(At _).2
def NA:=Jl N 35 [] O7 (fun
 | [(.str b),(.int .i64 a)],[]=>some fun _ k=>FT N b a (oT k)
 | _,_=>none) fun _ _=>by split;intro R F;dsimp only;rw[ZJ];kernel_rfl;trivial
def Ug (e:Int) (a:LA) (b:Nat) (c d:Bool) (f:Int) (r0:Nat→Int→LA→O R):O R :=
 (Ae N 6 a b c d f fun h g=>cond (h==5) (Ae N e a b c d g fun i j=>r0 1 j [(.int .i64 i)]) (r0 0 g []))
def Ok:=(At (@Ug R)).1
theorem Tl:@Ok R=@Ug R:=(At _).2
def KM:=Jl N 70 [J5 N] { H:=hL,nils:=[(4,1)],modes:=[(2,1)] } (fun
 | [(.optr 100000 0),(.int .i64 e)],[(100000,⟨false,false,false,false,0,[(.imm a b 1 c d),(.int .i64 f)],false,none⟩)]=>some fun _ k=>Ok N e a b c d f (oU a b c d k)
 | _,_=>none) fun _ _=>by split;intro R F;dsimp only;rw[Tl];kernel_rfl;trivial
def Uh (i e f g:Int) (a:LA) (b:Nat) (c d:Bool) (j:Int) (r0:LA→Int→O R):O R :=
 (FT N ([108]:Lu) i fun l=>Ae N 4 a b c d j fun m s=>Ae N 2 a b c d s fun n t=>Ae N 40 a b c d t fun h u=>Ae N 20 a b c d u fun o v=>Ae N 5 a b c d v fun w p=>cond (w==4) (Ae N 4 a b c d p fun x y=>Ae N 2 a b c d y fun z aa=>Ae N 4 a b c d aa fun ab ac=>Ok N g a b c d ac fun q ad ae=>r0 [(.str l),(.int .i64 e),(.int .i64 f),(.int .i64 (wrap .i64 (1+m))),(.int .i64 (wrap .i64 (1+n))),(.int .i64 (wrap .i64 ((0:Int) - x))),(.int .i64 (wrap .i64 (1+z))),(.int .i64 ab),(.int .i64 1),(.int .i64 (wrap .i64 (4+h))),(.int .i64 (wrap .i64 ((wrap .i64 (4+h))+o))),(.imm (ae.take (q*1)) q 1 false false)] ad) (Ok N g a b c d p fun r af ag=>r0 [(.str l),(.int .i64 e),(.int .i64 f),(.int .i64 (wrap .i64 (1+m))),(.int .i64 (wrap .i64 (1+n))),(.int .i64 0),(.int .i64 1),(.int .i64 0),(.int .i64 1),(.int .i64 (wrap .i64 (4+h))),(.int .i64 (wrap .i64 ((wrap .i64 (4+h))+o))),(.imm (ag.take (r*1)) r 1 false false)] af))
def Ro:=(At (@Uh R)).1
theorem Tm:@Ro R=@Uh R:=(At _).2
def fJ:=Jl N 36 [NA N,J5 N,KM N] { H:=hL,modes:=[(3,0)],cob:=[28] } (fun
 | [(.optr 100000 0),(.int .i64 i),(.int .i64 e),(.int .i64 f),(.int .i64 g)],[(100000,⟨false,false,false,false,0,[(.imm a b 1 c d),(.int .i64 j)],false,none⟩)]=>some fun _ k=>Ro N i e f g a b c d j (bJ a b c d k)
 | _,_=>none) fun _ _=>by split;intro R F;dsimp only;rw[Tm];kernel_rfl;trivial
def Lx (r0:LA→Int→O R) (a:LA) (b:Nat) (c d:Bool) (t:Int) (g:Lu) (h f m:Int) (j:Nat) (i u v w x s p y z aa:Int) (q:Nat) (r:Int) (o ab:LA) (ai aj ak al:Int):O R :=
 (cond (r==2) (Ae N (wrap .i64 ((wrap .i64 (m - f))+1)) a b c d t fun ar au=>r0 [(.str g),(.int .i64 h),(.int .i64 f),(.int .i64 m),(.imm (o.take (j*2)) j 2 false false),(.int .i64 i),(.int .i64 u),(.int .i64 v),(.int .i64 ai),(.int .i64 aj),(.int .i64 w),(.int .i64 x),(.int .i64 s),(.int .i64 p),(.int .i64 ak),(.int .i64 y),(.int .i64 z),(.int .i64 aa),(.imm (ab.take (q*1)) q 1 false false),(.int .i64 r),(.int .i64 al),(.int .i64 (wrap .i64 (f+ar)))] au) (r0 [(.str g),(.int .i64 h),(.int .i64 f),(.int .i64 m),(.imm (o.take (j*2)) j 2 false false),(.int .i64 i),(.int .i64 u),(.int .i64 v),(.int .i64 ai),(.int .i64 aj),(.int .i64 w),(.int .i64 x),(.int .i64 s),(.int .i64 p),(.int .i64 ak),(.int .i64 y),(.int .i64 z),(.int .i64 aa),(.imm (ab.take (q*1)) q 1 false false),(.int .i64 r),(.int .i64 al),(.int .i64 0)] t))
def Ol (r0:LA→Int→O R) (l:Int) (a:LA) (b:Nat) (c d:Bool) (g:Lu) (h f i:Int) (k0:Int→Int→Int→Int→Nat→LA→O R) (q1:Int→Int→Nat→Int→Int→Int→Int→Int→Int→Int→Int→Int→Nat→Int→LA→LA→Int→Int→Int→Int→O R) (af ag ah m:Int) (j:Nat) (o:LA):O R :=
 (cond (decide (ag>0)) (Ae N 15 a b c d ah fun am av=>cond ((ble (j+1) 140737488355328)&&(ble ((j+1)*16) 140737488355328)) (Ae N 10 a b c d av fun aw ax=>k0 (wrap .i64 (af+aw)) (wrap .i64 (ag - 1)) ax (wrap .i64 (m+(wrap .i64 (1+am)))) (j+1) ((o.take (j*2))++[(.int .i64 (wrap .i64 (1+am))),(.int .i64 af)])) none) (Ae N 20 a b c d ah fun u ay=>Ae N 20 a b c d ay fun v az=>Ae N (wrap .i64 ((wrap .i64 (m - f))+1)) a b c d az fun an ba=>Ae N (wrap .i64 ((wrap .i64 (m - f))+1)) a b c d ba fun ao bb=>Ae N 3 a b c d bb fun w bc=>Ae N 3 a b c d bc fun x bd=>Ae N 2 a b c d bd fun s be=>Ae N 30 a b c d be fun p bf=>Ae N 30 a b c d bf fun ap bg=>Ae N 4 a b c d bg fun y bh=>Ae N 8 a b c d bh fun z bi=>Ae N 4 a b c d bi fun aa bj=>Ok N l a b c d bj fun q bk ab=>Ae N (wrap .i64 (2+s)) a b c d bk fun aq bl=>cond (Aj aq 3) (Av .i64 (drop (0+((aq.toNat)*1)) [(.int .i64 0),(.int .i64 2),(.int .i64 1)]) fun r=>Ae N 4 a b c d bl fun bm t=>cond (r==1) (q1 t m j u v w x s p y z aa q r o ab (wrap .i64 (f+an)) (wrap .i64 (f+ao)) (wrap .i64 (p+ap)) 1) (q1 t m j u v w x s p y z aa q r o ab (wrap .i64 (f+an)) (wrap .i64 (f+ao)) (wrap .i64 (p+ap)) (wrap .i64 (1+bm)))) none))
def Ex (r0:LA→Int→O R) (l:Int) (a:LA) (b:Nat) (c d:Bool) (g:Lu) (h f i:Int):Nat→Int→Int→Int→Int→Nat→LA→O R
 | 0,_,_,_,_,_,_=>none
 | n+1,af,ag,ah,m,j,o=>Ol N r0 l a b c d g h f i (Ex r0 l a b c d g h f i n) (fun t m j u v w x s p y z aa q r o ab=>Lx N r0 a b c d t g h f m j i u v w x s p y z aa q r o ab) af ag ah m j o
def Ui (r0:LA→Int→O R) (q0:Lu→Int→Int→Int→Int→Int→Int→Int→Nat→LA→O R) (ac ad l:Int) (a:LA) (b:Nat) (c d:Bool) (ae:Int):O R :=
 (FT N ([117]:Lu) ac fun g=>Ae N ad a b c d ae fun h bn=>Ae N 8 a b c d bn fun f bo=>Ae N 20 a b c d bo fun i bp=>Ae N 20 a b c d bp fun bq br=>Ae N 2 a b c d br fun bs bt=>q0 g h f i (wrap .i64 (bq - 2)) (wrap .i64 (1+bs)) bt f 0 [])
def Rp:=(At fun N ac ad l a b c d ae r0=>Ui (R:=R) N r0 (fun g h f i=>Ex N r0 l a b c d g h f i N) ac ad l a b c d ae).1
theorem DQ (ac ad l a b c d ae r0):(@Rp R N ac ad l a b c d ae r0)=(Ui N r0 (fun g h f i=>Ex N r0 l a b c d g h f i N) ac ad l a b c d ae):=by rw[Rp,(At _).2]
def IF:Hints:={ H:=(hK 4 (hS (hK 1 (hS (hP [0,3,8,9,10,11] hL) hL)) (hK 8 (hJ [0,8,9] hL hL)))),modes:=[(3,0)],cob:=[22] }
def KN:EZ:=[NA N,J5 N,KM N]
def IG (F:KF R):=Tj Tryz.f37 IF (KN N) [100000] N F
def bM (a:LA) (b:Nat) (c d:Bool) (t:Int) (g:Lu) (h f m:Int) (j:Nat) (i u v w x s p y z aa:Int) (q:Nat) (r:Int) (o ab:LA) (K:St→O R):=fun ai aj ak al=>K ⟨[(0,(.optr 100000 0)),(8,(op 0)),(9,(op 1))],[(100000,(bN 0 [(.imm a b 1 c d),(iv t)])),(300000,(bN 0 [(.str ([]:Lu)),(iv 0),(iv 0),(iv 0),.nsl,(iv 0),(iv 0),(iv 0),(iv 0),(iv 0),(iv 0),(iv 0),(iv 0),(iv 0),(iv 0),(iv 0),(iv 0),(iv 0),.nsl,(iv 0),(iv 0),(iv 0)])),(300001,(bN 0 [(.str g),(iv h),(iv f),(iv m),(.own 300002 0 j),(iv i),(iv u),(iv v),(iv ai),(iv aj),(iv w),(iv x),(iv s),(iv p),(iv ak),(iv y),(iv z),(iv aa),(.own 300003 0 q),(iv r),(iv al),(iv 0)])),(300002,(bQ 2 o)),(300003,(bQ 1 ab))]⟩
def bO (l:Int) (a:LA) (b:Nat) (c d:Bool) (g:Lu) (h f i:Int) (K:St→O R):=fun af ag ah m j o=>K ⟨[(0,(.optr 100000 0)),(3,(iv l)),(8,(op 0)),(9,(op 1)),(10,(iv af)),(11,(iv ag))],[(100000,(bN 0 [(.imm a b 1 c d),(iv ah)])),(300000,(bN 0 [(.str ([]:Lu)),(iv 0),(iv 0),(iv 0),.nsl,(iv 0),(iv 0),(iv 0),(iv 0),(iv 0),(iv 0),(iv 0),(iv 0),(iv 0),(iv 0),(iv 0),(iv 0),(iv 0),.nsl,(iv 0),(iv 0),(iv 0)])),(300001,(bN 0 [(.str g),(iv h),(iv f),(iv m),(.own 300002 0 j),(iv i),(iv 0),(iv 0),(iv 0),(iv 0),(iv 0),(iv 0),(iv 0),(iv 0),(iv 0),(iv 0),(iv 0),(iv 0),(.own 300003 0 0),(iv 0),(iv 0),(iv 0)])),(300002,(bQ 2 o)),(300003,(bQ 1 []))]⟩
theorem QT (F:KF R) (a b c d t g h f m j i u v w x s p y z aa q r o ab):bM a b c d t g h f m j i u v w x s p y z aa q r o ab (D5 (IG N F (pz 357913941) []))=(Lx N (bJ a b c d F) a b c d t g h f m j i u v w x s p y z aa q r o ab):=by kernel_rfl
theorem QU (F:KF R) (l a b c d g h f i):∀ n,bO l a b c d g h f i (Ao (IG N F (pz 21828) []) n)=(Ex N (bJ a b c d F) l a b c d g h f i n):=Ev fun n e=>(Sq (Ol N (bJ a b c d F) l a b c d g h f i) e (tk fun t m j u=>Acq fun v w x s p y=>Acq fun z aa q r o ab=>(jW ..).trans (QT ..)):_)
def fK:=Jl N 37 (KN N) IF (fun
 | [(.optr 100000 0),(.int .i64 ac),(.int .i64 ad),(.int .i64 l)],[(100000,⟨false,false,false,false,0,[(.imm a b 1 c d),(.int .i64 ae)],false,none⟩)]=>some fun _ k=>Rp N ac ad l a b c d ae (bJ a b c d k)
 | _,_=>none) fun _ _=>by split;rename_i ac ad l a b c d ae;intro R F;exact(Ee (Ui N (bJ a b c d F) · ac ad l a b c d ae) (tk fun g h f i=>(lW ..).trans (QU ..)):_).trans (DQ ..).symm;trivial
def Hj (r0:LA→Int→O R) (f:Int) (a:LA) (b:Nat) (c d:Bool) (g:Lu) (h:Nat) (i:LA) (k1:Int→Int→Nat→LA→O R) (p r:Int) (j:Nat) (q:LA):O R :=
 (cond (decide (p<f)) (Ae N 2 a b c d r fun z u=>cond (z==1) (Ae N 8 a b c d u fun aa ab=>Ae N 8 a b c d ab fun ac ad=>cond ((ble (j+1) 140737488355328)&&(ble ((j+1)*24) 140737488355328)) (k1 (wrap .i64 (p+1)) ad (j+1) ((q.take (j*3))++[(.int .i64 p),(.int .i64 aa),(.int .i64 ac)])) none) (k1 (wrap .i64 (p+1)) u j q)) (r0 [(.str g),(.imm (i.take (h*1)) h 1 false false),(.bool true),(.imm (q.take (j*3)) j 3 false false)] r))
def El (r0:LA→Int→O R) (f:Int) (a:LA) (b:Nat) (c d:Bool) (g:Lu) (h:Nat) (i:LA):Nat→Int→Int→Nat→LA→O R
 | 0,_,_,_,_=>none
 | n+1,p,r,j,q=>Hj N r0 f a b c d g h i (El r0 f a b c d g h i n) p r j q
def Kr (r0:LA→Int→O R) (f:Int) (a:LA) (b:Nat) (c d:Bool) (g:Lu) (q1:Nat→LA→Int→Int→Nat→LA→O R) (s:Int) (h:Nat) (i:LA):O R :=
 (Ae N 2 a b c d s fun ae v=>cond (ae==1) (q1 h i 0 v 0 []) (r0 [(.str g),(.imm (i.take (h*1)) h 1 false false),(.bool false),(.imm [] 0 3 false false)] v))
def Em (r0:LA→Int→O R) (f:Int) (a:LA) (b:Nat) (c d:Bool) (g:Lu) (s:Int) (h:Nat) (i:LA):O R:=(Kr N r0 f a b c d g (fun h i=>El N r0 f a b c d g h i N) s h i)
def H6 (r0:LA→Int→O R) (q0:Lu→Int→Nat→LA→O R) (m l f:Int) (a:LA) (b:Nat) (c d:Bool) (o:Int):O R :=
 (FT N ([111]:Lu) m fun g=>Ae N l a b c d o fun t af=>Ae N l a b c d af fun w x=>cond ((decide (w>t))==true) (Ae N 3 a b c d x fun ag y=>cond (cond true (ag==2) false) (q0 g y 2 [(.int .i64 t),(.int .i64 w)]) (q0 g y 1 [(.int .i64 t)])) (q0 g x 1 [(.int .i64 t)]))
def Ng:=(At fun N m l f a b c d o r0=>H6 (R:=R) N r0 (fun g=>Em N r0 f a b c d g) m l f a b c d o).1
theorem Ks (m l f a b c d o r0):(@Ng R N m l f a b c d o r0)=(H6 N r0 (fun g=>Em N r0 f a b c d g) m l f a b c d o):=by rw[Ng,(At _).2]
def AU:Hints:={ H:=(hK 2 (hJ [0,3,8,9] hL (hS (hK 1 (hS (hK 2 (hS (hP [0,3,8,9,11] hL) hL)) hL)) hL))),modes:=[(3,0)],cob:=[18] }
def DR:EZ:=[NA N,J5 N]
def AW (F:KF R):=Tj Tryz.f38 AU (DR N) [100000] N F
def SR (f:Int) (a:LA) (b:Nat) (c d:Bool) (g:Lu) (h:Nat) (i:LA) (K:St→O R):=fun p r j q=>K ⟨[(0,(.optr 100000 0)),(3,(iv f)),(8,(op 0)),(9,(op 1)),(11,(iv p))],[(100000,(bN 0 [(.imm a b 1 c d),(iv r)])),(300000,(bN 0 [(.str ([]:Lu)),.nsl,(.bool false),.nsl])),(300001,(bN 0 [(.str g),(.own 300002 0 h),(.bool true),(.own 300003 0 j)])),(300002,(bQ 1 i)),(300003,(bQ 3 q))]⟩
def ST (f:Int) (a:LA) (b:Nat) (c d:Bool) (g:Lu) (K:St→O R):=fun s h i=>K ⟨[(0,(.optr 100000 0)),(3,(iv f)),(8,(op 0)),(9,(op 1))],[(100000,(bN 0 [(.imm a b 1 c d),(iv s)])),(300000,(bN 0 [(.str ([]:Lu)),.nsl,(.bool false),.nsl])),(300001,(bN 0 [(.str g),(.own 300002 0 h),(.bool false),(.own 300003 0 0)])),(300002,(bQ 1 i)),(300003,(bQ 3 []))]⟩
theorem KO (F:KF R) (f a b c d g h i):∀ n,SR f a b c d g h i (Ao (AW N F (pz 348436) []) n)=(El N (bJ a b c d F) f a b c d g h i n):=Ev fun n e=>(Ee (Hj N (bJ a b c d F) f a b c d g h i) e:_)
theorem KP (F:KF R) (f a b c d g):ST f a b c d g (D5 (AW N F (pz 85) []))=(Em N (bJ a b c d F) f a b c d g):=(Ee (Kr N (bJ a b c d F) f a b c d g) (Yo fun h i=>(lW ..).trans (KO ..)):_)
def WK:=Jl N 38 (DR N) AU (fun
 | [(.optr 100000 0),(.int .i64 m),(.int .i64 l),(.int .i64 f)],[(100000,⟨false,false,false,false,0,[(.imm a b 1 c d),(.int .i64 o)],false,none⟩)]=>some fun _ k=>Ng N m l f a b c d o (bJ a b c d k)
 | _,_=>none) fun _ _=>by split;rename_i m l f a b c d o;intro R F;exact(Ee (H6 N (bJ a b c d F) · m l f a b c d o) (xw fun g=>(jW ..).trans (KP ..)):_).trans (Ks ..).symm;trivial
def P9 (N:Nat) (r0:Bool→O R) (c d:Int) (b:LA) (a:Nat) (f g:Bool) (k0:Int→O R) (h:Int):O R :=
 (cond (decide (h<(a:Int))) (cond (Aj h a) (Av .i64 (b.drop ((h.toNat)*1)) fun i=>cond ((decide (i<c))==false) (cond (Aj h a) (Av .i64 (b.drop ((h.toNat)*1)) fun j=>cond (cond false true (decide (j>d))) (r0 false) (k0 (wrap .i64 (h+1)))) none) (r0 false)) none) (r0 true))
def Hk (r0:Bool→O R) (c d:Int) (b:LA) (a:Nat) (f g:Bool):Nat→Int→O R
 | 0,_=>none
 | n+1,h=>P9 N r0 c d b a f g (Hk r0 c d b a f g n) h
def Xj (N:Nat) (r0:Bool→O R) (q0:Int→O R) (c d:Int) (b:LA) (a:Nat) (f g:Bool):O R :=
 (q0 0)
def Aq:=(At fun N c d b a f g r0=>Xj (R:=R) N r0 (Hk N r0 c d b a f g N) c d b a f g).1
theorem IH (c d b a f g r0):(@Aq R N c d b a f g r0)=(Xj N r0 (Hk N r0 c d b a f g N) c d b a f g):=by rw[Aq,(At _).2]
def KQ:Hints:={ H:=(hK 1 (hS (hK 1 (hS (hP [0,1,2,7] hL) hL)) hL)) }
def fL (F:KF R):=Tj Tryz.f75 KQ [] [] N F
def fM (c d:Int) (b:LA) (a:Nat) (f g:Bool) (K:St→O R):=fun h=>K ⟨[(0,(iv c)),(1,(iv d)),(2,(.imm b a 1 f g)),(7,(iv h))],[]⟩
theorem SU (F:KF R) (c d b a f g):∀ n,fM c d b a f g (Ao (fL N F (pz 324) []) n)=(Hk N (B8 F) c d b a f g n):=Ev fun n e=>(Ee (P9 N (B8 F) c d b a f g) e:_)
def Dv:=Jl N 75 [] KQ (fun
 | [(.int .i64 c),(.int .i64 d),(.imm b a 1 f g)],[]=>some fun _ k=>Aq N c d b a f g (B8 k)
 | _,_=>none) fun _ _=>by split;intro R F;exact(Ee (Xj N (B8 F) · _ _ _ _ _ _) ((lW ..).trans (SU ..)):_).trans (IH ..).symm;trivial
def Jn (N:Nat) (r0:LA→O R) (b c d e:Int) (a:LA) (g:Bool):O R :=
 (cond g (cond ((beq 3 3)&&((ble 3 (a.length))&&(!false))) (cond ((beq 1 1)&&((ble 4 ((Gt a 0 [(.int .i64 b),(.int .i64 c),(.int .i64 d)]).length))&&(!false))) (r0 ((Gt a 0 [(.int .i64 b),(.int .i64 c),(.int .i64 d)]).set 3 (.int .i64 e))) none) none) (r0 a))
def Ms (N:Nat) (r0:LA→O R) (q0:Bool→O R) (f:Bool) (b c d e:Int) (a:LA):O R :=
 (Av .i64 (a.drop 3) fun h=>cond ((h==0)==true) (q0 (cond true (!f) false)) (q0 false))
def Aa:=(At fun N f b c d e a r0=>Ms (R:=R) N r0 (Jn N r0 b c d e a) f b c d e a).1
theorem Ve (f b c d e a r0):(@Aa R N f b c d e a r0)=(Ms N r0 (Jn N r0 b c d e a) f b c d e a):=by rw[Aa,(At _).2]
def Wr:Hints:={ H:=(hJ [0,2,3,4,5,20] hL hL) }
def NR (F:KF R):=Tj Tryz.f74 Wr [] [100000] N F
def NS (b c d e:Int) (a:LA) (K:St→O R):=fun g=>K ⟨[(0,(.optr 100000 0)),(2,(iv b)),(3,(iv c)),(4,(iv d)),(5,(iv e)),(20,(.bool g))],[(100000,(bQ 0 a))]⟩
theorem FU (F:KF R) (b c d e a):NS b c d e a (D5 (NR N F (pz 5) []))=(Jn N (Ic F) b c d e a):=by kernel_rfl
def Bs:=Jl N 74 [] Wr (fun
 | [(.optr 100000 0),(.bool f),(.int .i64 b),(.int .i64 c),(.int .i64 d),(.int .i64 e)],[(100000,⟨false,false,true,false,0,a,false,none⟩)]=>some fun _ k=>Aa N f b c d e a (Ic k)
 | _,_=>none) fun _ _=>by split;intro R F;exact(Ee (Ms N (Ic F) · _ _ _ _ _ _) ((jW ..).trans (FU ..)):_).trans (Ve ..).symm;trivial
def Pc (e:LA) (l:Bool) (f:LA) (a:Nat) (m g:Bool) (h i b c d:Int) (j:LA) (r0:LA→O R):O R :=
 (Av .i64 e fun n=>Aa N ((a:Int)==n) b c d 4 j fun o=>Aq N h i f a false g fun p=>Aa N p b c d 3 o fun q=>r0 q)
def C6:=(At (@Pc R)).1
theorem Rq:@C6 R=@Pc R:=(At _).2
def Nh:=Jl N 73 [Bs N,Dv N] O7 (fun
 | [(.optr 100000 0),(.pagg e l),(.imm f a 1 m g),(.int .i64 h),(.int .i64 i),(.int .i64 b),(.int .i64 c),(.int .i64 d)],[(100000,⟨false,false,true,false,0,j,false,none⟩)]=>some fun _ k=>C6 N e l f a m g h i b c d j (Ic k)
 | _,_=>none) fun _ _=>by split;intro R F;dsimp only;rw[Rq];kernel_rfl;trivial
def Mb (N:Nat) (r0:Nat→LA→O R) (b:Bool) (a:LA) (k0:Nat→Int→LA→O R) (d:Nat) (l:Int) (s:LA):O R :=
 (A6 3 (a.drop 2) fun ay y=>cond (decide (l<(y:Int))) (A6 3 (a.drop 2) fun z aa=>cond (Aj l aa) (Hz (z.drop ((l.toNat)*3)) fun ab=>cond ((ble (d+1) 140737488355328)&&(ble ((d+1)*16) 140737488355328)) (k0 (d+1) (wrap .i64 (l+1)) ((s.take (d*1))++[(.str ab)])) none) none) (r0 d s))
def Fz (r0:Nat→LA→O R) (b:Bool) (a:LA):Nat→Nat→Int→LA→O R
 | 0,_,_,_=>none
 | n+1,d,l,s=>Mb N r0 b a (Fz r0 b a n) d l s
def Mc (N:Nat) (r0:Nat→LA→O R) (b:Bool) (a:LA) (k1:Nat→Int→LA→O R) (f:Nat) (m:Int) (t:LA):O R :=
 (A6 12 (a.drop 3) fun az ac=>cond (decide (m<(ac:Int))) (A6 12 (a.drop 3) fun ad ae=>cond (Aj m ae) (Hz (ad.drop ((m.toNat)*12)) fun af=>cond ((ble (f+1) 140737488355328)&&(ble ((f+1)*16) 140737488355328)) (k1 (f+1) (wrap .i64 (m+1)) ((t.take (f*1))++[(.str af)])) none) none) (r0 f t))
def F0 (r0:Nat→LA→O R) (b:Bool) (a:LA):Nat→Nat→Int→LA→O R
 | 0,_,_,_=>none
 | n+1,f,m,t=>Mc N r0 b a (F0 r0 b a n) f m t
def Md (N:Nat) (r0:Nat→LA→O R) (b:Bool) (a:LA) (k2:Nat→Int→LA→O R) (g:Nat) (o:Int) (u:LA):O R :=
 (A6 22 (a.drop 4) fun ba ag=>cond (decide (o<(ag:Int))) (A6 22 (a.drop 4) fun ah ai=>cond (Aj o ai) (Hz (ah.drop ((o.toNat)*22)) fun aj=>cond ((ble (g+1) 140737488355328)&&(ble ((g+1)*16) 140737488355328)) (k2 (g+1) (wrap .i64 (o+1)) ((u.take (g*1))++[(.str aj)])) none) none) (r0 g u))
def F1 (r0:Nat→LA→O R) (b:Bool) (a:LA):Nat→Nat→Int→LA→O R
 | 0,_,_,_=>none
 | n+1,g,o,u=>Md N r0 b a (F1 r0 b a n) g o u
def Me (N:Nat) (r0:Nat→LA→O R) (b:Bool) (a:LA) (k3:Nat→Int→LA→O R) (h:Nat) (p:Int) (v:LA):O R :=
 (A6 9 (a.drop 5) fun bb ak=>cond (decide (p<(ak:Int))) (A6 9 (a.drop 5) fun al am=>cond (Aj p am) (Hz (al.drop ((p.toNat)*9)) fun an=>cond ((ble (h+1) 140737488355328)&&(ble ((h+1)*16) 140737488355328)) (k3 (h+1) (wrap .i64 (p+1)) ((v.take (h*1))++[(.str an)])) none) none) (r0 h v))
def F2 (r0:Nat→LA→O R) (b:Bool) (a:LA):Nat→Nat→Int→LA→O R
 | 0,_,_,_=>none
 | n+1,h,p,v=>Me N r0 b a (F2 r0 b a n) h p v
def Mf (N:Nat) (r0:Nat→LA→O R) (b:Bool) (a:LA) (k4:Nat→Int→LA→O R) (i:Nat) (q:Int) (w:LA):O R :=
 (A6 5 (a.drop 6) fun bc ao=>cond (decide (q<(ao:Int))) (A6 5 (a.drop 6) fun ap aq=>cond (Aj q aq) (Hz (ap.drop ((q.toNat)*5)) fun ar=>cond ((ble (i+1) 140737488355328)&&(ble ((i+1)*16) 140737488355328)) (k4 (i+1) (wrap .i64 (q+1)) ((w.take (i*1))++[(.str ar)])) none) none) (r0 i w))
def F3 (r0:Nat→LA→O R) (b:Bool) (a:LA):Nat→Nat→Int→LA→O R
 | 0,_,_,_=>none
 | n+1,i,q,w=>Mf N r0 b a (F3 r0 b a n) i q w
def Mg (N:Nat) (r0:Nat→LA→O R) (b:Bool) (a:LA) (k5:Nat→Int→LA→O R) (j:Nat) (r:Int) (x:LA):O R :=
 (A6 4 (a.drop 7) fun bd au=>cond (decide (r<(au:Int))) (A6 4 (a.drop 7) fun av aw=>cond (Aj r aw) (Hz (av.drop ((r.toNat)*4)) fun ax=>cond ((ble (j+1) 140737488355328)&&(ble ((j+1)*16) 140737488355328)) (k5 (j+1) (wrap .i64 (r+1)) ((x.take (j*1))++[(.str ax)])) none) none) (r0 j x))
def F4 (r0:Nat→LA→O R) (b:Bool) (a:LA):Nat→Nat→Int→LA→O R
 | 0,_,_,_=>none
 | n+1,j,r,x=>Mg N r0 b a (F4 r0 b a n) j r x
def I7 (N:Nat) (r0:Nat→LA→O R) (q0:Nat→Int→LA→O R) (q1:Nat→Int→LA→O R) (q2:Nat→Int→LA→O R) (q3:Nat→Int→LA→O R) (q4:Nat→Int→LA→O R) (q5:Nat→Int→LA→O R) (a:LA) (b:Bool) (c:Int):O R :=
 (cond (c==1) (q0 0 0 []) (cond (c==2) (q1 0 0 []) (cond (c==3) (q2 0 0 []) (cond (c==4) (q3 0 0 []) (cond (c==5) (q4 0 0 []) (cond (c==6) (q5 0 0 []) (r0 0 [])))))))
def Fj:=(At fun N a b c r0=>I7 (R:=R) N r0 (Fz N r0 b a N) (F0 N r0 b a N) (F1 N r0 b a N) (F2 N r0 b a N) (F3 N r0 b a N) (F4 N r0 b a N) a b c).1
theorem G6 (a b c r0):(@Fj R N a b c r0)=(I7 N r0 (Fz N r0 b a N) (F0 N r0 b a N) (F1 N r0 b a N) (F2 N r0 b a N) (F3 N r0 b a N) (F4 N r0 b a N) a b c):=by rw[Fj,(At _).2]
def SV:Hints:={ H:=(hK 2 (hS (hK 1 (hS (hK 1 (hS (hK 1 (hS (hP [2,5,6] hL) hL)) (hK 1 (hS (hK 1 (hS (hP [2,5,7] hL) hL)) (hK 1 (hS (hK 1 (hS (hP [2,5,8] hL) hL)) (hK 1 (hS (hK 1 (hS (hP [2,5,9] hL) hL)) (hK 1 (hS (hK 1 (hS (hP [2,5,10] hL) hL)) (hK 1 (hS (hK 1 (hS (hP [2,5,11] hL) hL)) hL)))))))))))) hL)) hL)),nils:=[(4,1),(5,1)],modes:=[(2,1)] }
def Om (F:KF R):=Tj Tryz.f45 SV [] [] N F
def l7 (b:Bool) (a:LA) (K:St→O R):=fun d l s=>K ⟨[(2,(op 0)),(5,(.own 300001 0 d)),(6,(iv l))],(hq [(bP b 0 a),(bQ 1 s)])⟩
def l8 (b:Bool) (a:LA) (K:St→O R):=fun f m t=>K ⟨[(2,(op 0)),(5,(.own 300001 0 f)),(7,(iv m))],(hq [(bP b 0 a),(bQ 1 t)])⟩
def l_ (b:Bool) (a:LA) (K:St→O R):=fun g o u=>K ⟨[(2,(op 0)),(5,(.own 300001 0 g)),(8,(iv o))],(hq [(bP b 0 a),(bQ 1 u)])⟩
def lc (b:Bool) (a:LA) (K:St→O R):=fun h p v=>K ⟨[(2,(op 0)),(5,(.own 300001 0 h)),(9,(iv p))],(hq [(bP b 0 a),(bQ 1 v)])⟩
def ld (b:Bool) (a:LA) (K:St→O R):=fun i q w=>K ⟨[(2,(op 0)),(5,(.own 300001 0 i)),(10,(iv q))],(hq [(bP b 0 a),(bQ 1 w)])⟩
def lf (b:Bool) (a:LA) (K:St→O R):=fun j r x=>K ⟨[(2,(op 0)),(5,(.own 300001 0 j)),(11,(iv r))],(hq [(bP b 0 a),(bQ 1 x)])⟩
theorem bR (F:KF R) (b a):∀ n,l7 b a (Ao (Om N F (pz 345156) []) n)=(Fz N (M9 F) b a n):=Ev fun n e=>(Ee (Mb N (M9 F) b a) e:_)
theorem bS (F:KF R) (b a):∀ n,l8 b a (Ao (Om N F (pz 5522756) []) n)=(F0 N (M9 F) b a n):=Ev fun n e=>(Ee (Mc N (M9 F) b a) e:_)
theorem bT (F:KF R) (b a):∀ n,l_ b a (Ao (Om N F (pz 88364356) []) n)=(F1 N (M9 F) b a n):=Ev fun n e=>(Ee (Md N (M9 F) b a) e:_)
theorem bU (F:KF R) (b a):∀ n,lc b a (Ao (Om N F (pz 1413829956) []) n)=(F2 N (M9 F) b a n):=Ev fun n e=>(Ee (Me N (M9 F) b a) e:_)
theorem bV (F:KF R) (b a):∀ n,ld b a (Ao (Om N F (pz 22621279556) []) n)=(F3 N (M9 F) b a n):=Ev fun n e=>(Ee (Mf N (M9 F) b a) e:_)
theorem bW (F:KF R) (b a):∀ n,lf b a (Ao (Om N F (pz 361940473156) []) n)=(F4 N (M9 F) b a n):=Ev fun n e=>(Ee (Mg N (M9 F) b a) e:_)
def KR:=Jl N 45 [] SV (fun
 | [(.pagg a b),(.int .i64 c)],[]=>some fun _ k=>Fj N a b c (M9 k)
 | _,_=>none) fun _ _=>by split;intro R F;exact(Adc (I7 N (M9 F) · · · · · · _ _ _) ((lW ..).trans (bR ..)) ((lW ..).trans (bS ..)) ((lW ..).trans (bT ..)) ((lW ..).trans (bU ..)) ((lW ..).trans (bV ..)) ((lW ..).trans (bW ..)):_).trans (G6 ..).symm;trivial
def NB (N:Nat) (a:Int) (r0:Int→O R):O R :=
 (cond (Aj a 7) (Av .i64 (drop (0+((a.toNat)*1)) [(.int .i64 0),(.int .i64 32),(.int .i64 64),(.int .i64 16),(.int .i64 8),(.int .i64 8),(.int .i64 64)]) fun b=>r0 b) none)
def Ni:=(At (@NB R)).1
theorem FV:@Ni R=@NB R:=(At _).2
def fN:=Jl N 46 [] O7 (fun
 | [(.int .i64 a)],[]=>some fun _ k=>Ni N a (D4 k)
 | _,_=>none) fun _ _=>by split;intro R F;dsimp only;rw[FV];kernel_rfl;trivial
def B9 (r0:LA→O R) (b:Bool) (a:LA) (k0:Int→LA→O R) (c:Int) (f:LA):O R :=
 (cond (decide (c≤6)) (cond (ble 8 (a.length)) (Fj N (a.take 8) b c fun g u=>Ni N c fun h=>Aa N (decide ((g:Int)≤h)) 0 0 (wrap .i64 (c+1)) 8 f fun i=>k0 (wrap .i64 (c+1)) i) none) (r0 f))
def Bo (r0:LA→O R) (b:Bool) (a:LA):Nat→Int→LA→O R
 | 0,_,_=>none
 | n+1,c,f=>B9 N r0 b a (Bo r0 b a n) c f
def Kt (r0:LA→O R) (q0:Int→LA→O R) (a:LA) (b:Bool) (d:LA):O R :=
 (Av .i64 a fun j=>Aq N 1 24 [(.int .i64 j)] 1 false true fun l=>Aa N l 0 0 0 3 d fun m=>cond (ble 8 (a.length)) (A6 1 (a.drop 1) fun o p=>C6 N (a.take 8) b o p false b 0 1048576 0 0 1 m fun q=>A6 3 (a.drop 2) fun v r=>Aq N 1 32 [(.int .i64 (r:Int))] 1 false true fun s=>Aa N s 0 0 2 8 q fun t=>q0 2 t) none)
def If:=(At fun N a b d r0=>Kt (R:=R) N r0 (Bo N r0 b a N) a b d).1
theorem Su (a b d r0):(@If R N a b d r0)=(Kt N r0 (Bo N r0 b a N) a b d):=by rw[If,(At _).2]
def Vf:Hints:={ H:=(hK 5 (hS (hP [0,3,4] hL) hL)) }
def Ws:EZ:=[Dv N,Bs N,Nh N,KR N,fN N]
def KS (F:KF R):=Tj Tryz.f71 Vf (Ws N) [100000] N F
def KT (b:Bool) (a:LA) (K:St→O R):=fun c f=>K ⟨[(0,(.optr 100000 0)),(3,(op 0)),(4,(iv c))],[(100000,(bQ 0 f)),(300000,(bP b 0 a))]⟩
theorem DS (F:KF R) (b a):∀ n,KT b a (Ao (KS N F (pz 5460) []) n)=(Bo N (Ic F) b a n):=Ev fun n e=>(Ee (B9 N (Ic F) b a) e:_)
def NT:=Jl N 71 (Ws N) Vf (fun
 | [(.optr 100000 0),(.pagg a b)],[(100000,⟨false,false,true,false,0,d,false,none⟩)]=>some fun _ k=>If N a b d (Ic k)
 | _,_=>none) fun _ _=>by split;intro R F;exact(Ee (Kt N (Ic F) · _ _ _) ((lW ..).trans (DS ..)):_).trans (Su ..).symm;trivial
def AX (N:Nat) (k1:Int→O R) (r0:Bool→O R) (a:Lu) (b:Int) (d:Bool):O R :=
 (cond ((!d)==true) (cond ((b==0)==false) (cond (Aj b (a.length)) (cond ((((UInt8.toNat (List.getD a (b.toNat) 0):Nat):Int) != 95)==true) (cond (Aj b (a.length)) (cond ((decide (((UInt8.toNat (List.getD a (b.toNat) 0):Nat):Int)<48))==false) (cond (Aj b (a.length)) (cond (cond true (cond false true (cond true (cond false true (decide (((UInt8.toNat (List.getD a (b.toNat) 0):Nat):Int)>57))) false)) false) (r0 false) (k1 (wrap .i64 (b+1)))) none) (r0 false)) none) (k1 (wrap .i64 (b+1)))) none) (r0 false)) (k1 (wrap .i64 (b+1))))
def Xk (N:Nat) (r0:Bool→O R) (a:Lu) (k1:Int→O R) (q2:Int→Bool→O R) (c:Int):O R :=
 (cond (decide (c<(((a.length):Nat):Int))) (cond (Aj c (a.length)) (cond ((decide (((UInt8.toNat (List.getD a (c.toNat) 0):Nat):Int)≥97))==true) (cond (Aj c (a.length)) (q2 c (cond true (decide (((UInt8.toNat (List.getD a (c.toNat) 0):Nat):Int)≤122)) false)) none) (q2 c false)) none) (r0 true))
def Nj (r0:Bool→O R) (a:Lu):Nat→Int→O R
 | 0,_=>none
 | n+1,c=>Xk N r0 a (Nj r0 a n) (AX N (Nj r0 a n) r0 a) c
def FW (N:Nat) (r0:Bool→O R) (a:Lu) (q1:Int→O R):O R :=
 (q1 0)
def AY (r0:Bool→O R) (a:Lu):O R:=(FW N r0 a (Nj N r0 a N))
def NC (N:Nat) (r0:Bool→O R) (q0:O R) (a:Lu):O R :=
 (cond ((decide ((((a.length):Nat):Int)<1))==false) (cond ((cond false true (decide ((((a.length):Nat):Int)>16)))==false) (cond (cond false true (a==([99,111,114,114,101,99,116,105,118,101]:Lu))) (r0 false) q0) (r0 false)) (r0 false))
def DT:=(At fun N a r0=>NC (R:=R) N r0 (AY N r0 a) a).1
theorem SW (a r0):(@DT R N a r0)=(NC N r0 (AY N r0 a) a):=by rw[DT,(At _).2]
def ZK:Hints:={ H:=(hK 1 (hJ [0] hL (hS (hK 1 (hS (hP [0,3] (hK 1 (hS (hS (hJ [0,3,4] hL hL) hL) hL))) hL)) hL))) }
def KU (F:KF R):=Tj Tryz.f48 ZK [] [] N F
def oX (a:Lu) (K:St→O R):=fun b d=>K ⟨[(0,(.str a)),(3,(iv b)),(4,(.bool d))],[]⟩
def ZL (a:Lu) (K:St→O R):=fun c=>K ⟨[(0,(.str a)),(3,(iv c))],[]⟩
def oY (a:Lu) (K:St→O R):=K ⟨[(0,(.str a))],[]⟩
theorem fO (Q1) (F:KF R) (a):oX a (D5 (KU N F (pz 1380417) [Q1]))=(AX N (ZL a Q1) (B8 F) a):=by kernel_rfl
theorem fP (F:KF R) (a):∀ n,ZL a (Ao (KU N F (pz 1348) []) n)=(Nj N (B8 F) a n):=Ev fun n e=>(Sq (Xk N (B8 F) a) e ((jW ..).trans ((fO ..).trans (iI (AX _ · _ _) e))):_)
theorem fQ (F:KF R) (a):oY a (D5 (KU N F (pz 21) []))=(AY N (B8 F) a):=(Ee (FW N (B8 F) a) ((lW ..).trans (fP ..)):_)
def fR:=Jl N 48 [] ZK (fun
 | [(.str a)],[]=>some fun _ k=>DT N a (B8 k)
 | _,_=>none) fun _ _=>by split;intro R F;exact(Ee (NC N (B8 F) · _) ((jW ..).trans (fQ ..)):_).trans (SW ..).symm;trivial
def Ig (r0:LA→O R) (b a:Int) (c:Nat) (d:LA) (k0:Int→LA→O R) (g:Int) (j:LA):O R :=
 (cond (decide (g<a)) (cond (Aj g c) (Hz (d.drop (0+((g.toNat)*1))) fun l=>cond (Aj a c) (Hz (d.drop (0+((a.toNat)*1))) fun m=>Aa N (!(l==m)) b a 0 10 j fun o=>k0 (wrap .i64 (g+1)) o) none) none) (r0 j))
def De (r0:LA→O R) (b a:Int) (c:Nat) (d:LA):Nat→Int→LA→O R
 | 0,_,_=>none
 | n+1,g,j=>Ig N r0 b a c d (De r0 b a c d n) g j
def Mt (r0:LA→O R) (q0:Nat→LA→Int→LA→O R) (f:LA) (h:Bool) (b a:Int) (i:LA):O R :=
 (cond (ble 8 (f.length)) (Fj N (f.take 8) h b fun c d=>cond (Aj a c) (Hz (d.drop (0+((a.toNat)*1))) fun p=>DT N p fun q=>Aa N q b a 0 9 i fun r=>q0 c d 0 r) none) none)
def Cu:=(At fun N f h b a i r0=>Mt (R:=R) N r0 (fun c d=>De N r0 b a c d N) f h b a i).1
theorem Vg (f h b a i r0):(@Cu R N f h b a i r0)=(Mt N r0 (fun c d=>De N r0 b a c d N) f h b a i):=by rw[Cu,(At _).2]
def Wt:Hints:={ H:=(hK 4 (hS (hP [0,2,3,8,9] hL) hL)) }
def Y7:EZ:=[KR N,fR N,Bs N]
def NU (F:KF R):=Tj Tryz.f72 Wt (Y7 N) [100000] N F
def NV (b a:Int) (c:Nat) (d:LA) (K:St→O R):=fun g j=>K ⟨[(0,(.optr 100000 0)),(2,(iv b)),(3,(iv a)),(8,(.own 300000 0 c)),(9,(iv g))],[(100000,(bQ 0 j)),(300000,(bQ 1 d))]⟩
theorem FX (F:KF R) (b a c d):∀ n,NV b a c d (Ao (NU N F (pz 1364) []) n)=(De N (Ic F) b a c d n):=Ev fun n e=>(Ee (Ig N (Ic F) b a c d) e:_)
def Fk:=Jl N 72 (Y7 N) Wt (fun
 | [(.optr 100000 0),(.pagg f h),(.int .i64 b),(.int .i64 a)],[(100000,⟨false,false,true,false,0,i,false,none⟩)]=>some fun _ k=>Cu N f h b a i (Ic k)
 | _,_=>none) fun _ _=>by split;intro R F;exact(Ee (Mt N (Ic F) · _ _ _ _ _) (Yo fun c d=>(lW ..).trans (FX ..)):_).trans (Vg ..).symm;trivial
def Tn (a:LA) (g:Bool) (b c d e:Int) (f:LA) (r0:LA→O R):O R :=
 (A6 3 (a.drop 2) fun l h=>Aq N 0 (wrap .i64 ((h:Int) - 1)) [(.int .i64 b)] 1 false true fun i=>Aa N i c d e 12 f fun j=>r0 j)
def Ey:=(At (@Tn R)).1
theorem Wu:@Ey R=@Tn R:=(At _).2
def Mu:=Jl N 119 [Dv N,Bs N] O7 (fun
 | [(.optr 100000 0),(.pagg a g),(.int .i64 b),(.int .i64 c),(.int .i64 d),(.int .i64 e)],[(100000,⟨false,false,true,false,0,f,false,none⟩)]=>some fun _ k=>Ey N a g b c d e f (Ic k)
 | _,_=>none) fun _ _=>by split;intro R F;dsimp only;rw[Wu];kernel_rfl;trivial
def CK (a:LA) (b:Bool) (r0:Bool→O R):O R :=
 (Av .i64 (a.drop 1) fun c=>Aq N 1 1048576 [(.int .i64 c)] 1 false true fun d=>cond (d==true) (Av .i64 a fun e=>Aq N (-1048576) 1048576 [(.int .i64 e)] 1 false true fun f=>r0 (cond true f false)) (r0 false))
def Ku:=(At (@CK R)).1
theorem DU:@Ku R=@CK R:=(At _).2
def KV:=Jl N 120 [Dv N] O7 (fun
 | [(.pagg a b)],[]=>some fun _ k=>Ku N a b (B8 k)
 | _,_=>none) fun _ _=>by split;intro R F;dsimp only;rw[DU];kernel_rfl;trivial
def Nk (N:Nat) (r0:Bool→O R) (b:LA) (a:Nat) (c d:Bool) (k0:Int→O R) (f:Int):O R :=
 (cond (decide (f<(a:Int))) (cond (Aj f a) (Av .i64 (b.drop ((f.toNat)*1)) fun g=>cond (Aj (wrap .i64 (f - 1)) a) (Av .i64 (b.drop (((wrap .i64 (f - 1)).toNat)*1)) fun h=>cond (decide (g≤h)) (r0 false) (k0 (wrap .i64 (f+1)))) none) none) (r0 true))
def G7 (r0:Bool→O R) (b:LA) (a:Nat) (c d:Bool):Nat→Int→O R
 | 0,_=>none
 | n+1,f=>Nk N r0 b a c d (G7 r0 b a c d n) f
def AZ (N:Nat) (r0:Bool→O R) (q0:Int→O R) (b:LA) (a:Nat) (c d:Bool):O R :=
 (q0 1)
def Ql:=(At fun N b a c d r0=>AZ (R:=R) N r0 (G7 N r0 b a c d N) b a c d).1
theorem KW (b a c d r0):(@Ql R N b a c d r0)=(AZ N r0 (G7 N r0 b a c d N) b a c d):=by rw[Ql,(At _).2]
def PB:Hints:={ H:=(hK 1 (hS (hK 1 (hS (hP [0,3] hL) hL)) hL)) }
def iY (F:KF R):=Tj Tryz.f123 PB [] [] N F
def iZ (b:LA) (a:Nat) (c d:Bool) (K:St→O R):=fun f=>K ⟨[(0,(.imm b a 1 c d)),(3,(iv f))],[]⟩
theorem WL (F:KF R) (b a c d):∀ n,iZ b a c d (Ao (iY N F (pz 324) []) n)=(G7 N (B8 F) b a c d n):=Ev fun n e=>(Ee (Nk N (B8 F) b a c d) e:_)
def SX:=Jl N 123 [] PB (fun
 | [(.imm b a 1 c d)],[]=>some fun _ k=>Ql N b a c d (B8 k)
 | _,_=>none) fun _ _=>by split;intro R F;exact(Ee (AZ N (B8 F) · _ _ _ _) ((lW ..).trans (WL ..)):_).trans (KW ..).symm;trivial
def Rr (g:LA) (i:Bool) (a:LA) (b:Nat) (j c:Bool) (d e f:Int) (h:LA) (r0:LA→O R):O R :=
 (Av .i64 g fun l=>Aq N 0 (wrap .i64 (l - 1)) a b false c fun m=>Aa N m d e f 3 h fun n=>Ql N a b false c fun o=>Aa N o d e f 11 n fun p=>r0 p)
def J6:=(At (@Rr R)).1
theorem Vh:@J6 R=@Rr R:=(At _).2
def Y8:=Jl N 121 [Dv N,Bs N,SX N] O7 (fun
 | [(.optr 100000 0),(.pagg g i),(.imm a b 1 j c),(.int .i64 d),(.int .i64 e),(.int .i64 f)],[(100000,⟨false,false,true,false,0,h,false,none⟩)]=>some fun _ k=>J6 N g i a b j c d e f h (Ic k)
 | _,_=>none) fun _ _=>by split;intro R F;dsimp only;rw[Vh];kernel_rfl;trivial
def Pd (r0:LA→O R) (a:Int) (b:Bool) (c d:LA) (i:LA):O R :=
 (Av .i64 (d.drop 9) fun l=>Aq N 0 1048576 [(.int .i64 l)] 1 false true fun m=>Aa N m 2 a 6 3 i fun n=>Av .i64 (d.drop 9) fun o=>Av .i64 (d.drop 10) fun p=>Aq N o 1048576 [(.int .i64 p)] 1 false true fun q=>Aa N q 2 a 7 3 n fun r=>cond (ble 8 (c.length)) (A6 1 (d.drop 11) fun s t=>J6 N (c.take 8) b s t false b 2 a 8 r fun u=>r0 u) none)
def Nl (r0:LA→O R) (a:Int) (b:Bool) (c d:LA) (q2:LA→O R) (g:LA):O R :=
 (cond (ble 2 ((d.drop 7).length)) (cond ((!b)||(Ax ((d.drop 7).take 2))) (Ku N ((d.drop 7).take 2) false fun v=>cond (v==true) (Av .i64 (d.drop 7) fun w=>Aa N (cond true (decide (w≥0)) false) 2 a 5 3 g fun x=>q2 x) (Aa N false 2 a 5 3 g fun y=>q2 y)) none) none)
def Pe (r0:LA→O R) (a:Int) (b:Bool) (c d:LA) (g:LA):O R:=(Nl N r0 a b c d (Pd N r0 a b c d) g)
def Nm (r0:LA→O R) (a:Int) (b:Bool) (c:LA) (q1:LA→LA→O R) (h d:LA):O R :=
 (cond (ble 2 ((d.drop 5).length)) (cond ((!b)||(Ax ((d.drop 5).take 2))) (Ku N ((d.drop 5).take 2) false fun z=>cond (z==true) (Av .i64 (d.drop 5) fun aa=>Aa N (cond true (decide (aa≤0)) false) 2 a 4 3 h fun ab=>q1 d ab) (Aa N false 2 a 4 3 h fun ac=>q1 d ac)) none) none)
def Jo (r0:LA→O R) (a:Int) (b:Bool) (c:LA) (h d:LA):O R:=(Nm N r0 a b c (fun d=>Pe N r0 a b c d) h d)
def Mv (r0:LA→O R) (q0:LA→LA→O R) (c:LA) (b:Bool) (a:Int) (f:LA):O R :=
 (A6 12 (c.drop 3) fun e ad=>cond (Aj a ad) (cond (ble 12 ((e.drop ((a.toNat)*12)).length)) (cond ((beq 0 0)&&((beq (((e.drop ((a.toNat)*12)).take 12).length) 12)&&(beq 12 12))) (cond (ble 8 (c.length)) (Cu N (c.take 8) b 2 a f fun ae=>cond (ble 8 (c.length)) (Av .i64 (((e.drop ((a.toNat)*12)).take 12).drop 1) fun af=>Ey N (c.take 8) b af 2 a 1 ae fun ag=>cond (ble 8 (c.length)) (Av .i64 (((e.drop ((a.toNat)*12)).take 12).drop 2) fun ah=>Ey N (c.take 8) b ah 2 a 2 ag fun ai=>Av .i64 (((e.drop ((a.toNat)*12)).take 12).drop 1) fun aj=>Av .i64 (((e.drop ((a.toNat)*12)).take 12).drop 2) fun ak=>Aa N (aj != ak) 2 a 2 1 ai fun j=>cond (ble 2 ((((e.drop ((a.toNat)*12)).take 12).drop 3).length)) (cond ((!b)||(Ax ((((e.drop ((a.toNat)*12)).take 12).drop 3).take 2))) (Ku N ((((e.drop ((a.toNat)*12)).take 12).drop 3).take 2) false fun al=>cond (al==true) (Av .i64 (((e.drop ((a.toNat)*12)).take 12).drop 3) fun am=>Aa N (cond true (decide (am>0)) false) 2 a 3 3 j fun an=>q0 an ((e.drop ((a.toNat)*12)).take 12)) (Aa N false 2 a 3 3 j fun ao=>q0 ao ((e.drop ((a.toNat)*12)).take 12))) none) none) none) none) none) none) none) none)
def J7:=(At fun N c b a f r0=>Mv (R:=R) N r0 (Jo N r0 a b c) c b a f).1
theorem Vi (c b a f r0):(@J7 R N c b a f r0)=(Mv N r0 (Jo N r0 a b c) c b a f):=by rw[J7,(At _).2]
def Wv:Hints:={ H:=(hK 6 (hJ [0,2,4,6,7] hL (hJ [0,2,4,6,7] hL (hJ [0,2,4,6,7] hL hL)))) }
def Y9:EZ:=[Fk N,Mu N,Bs N,KV N,Dv N,Y8 N]
def Pf (F:KF R):=Tj Tryz.f76 Wv (Y9 N) [100000] N F
def NW (a:Int) (b:Bool) (c d:LA) (K:St→O R):=fun i=>K ⟨[(0,(.optr 100000 0)),(2,(iv a)),(4,(op 0)),(6,(op 1)),(7,(iv 2))],[(100000,(bQ 0 i)),(300000,(bP b 0 c)),(300001,(bP b 0 d))]⟩
def NX (a:Int) (b:Bool) (c d:LA) (K:St→O R):=fun g=>K ⟨[(0,(.optr 100000 0)),(2,(iv a)),(4,(op 0)),(6,(op 1)),(7,(iv 2))],[(100000,(bQ 0 g)),(300000,(bP b 0 c)),(300001,(bP b 0 d))]⟩
def NY (a:Int) (b:Bool) (c:LA) (K:St→O R):=fun h d=>K ⟨[(0,(.optr 100000 0)),(2,(iv a)),(4,(op 0)),(6,(op 1)),(7,(iv 2))],[(100000,(bQ 0 h)),(300000,(bP b 0 c)),(300001,(bP b 0 d))]⟩
theorem FY (F:KF R) (a b c d):NW a b c d (D5 (Pf N F (pz 349525) []))=(Pd N (Ic F) a b c d):=by kernel_rfl
theorem FZ (F:KF R) (a b c d):NX a b c d (D5 (Pf N F (pz 87381) []))=(Pe N (Ic F) a b c d):=(Ee (Nl N (Ic F) a b c d) ((jW ..).trans (FY ..)):_)
theorem F_ (F:KF R) (a b c):NY a b c (D5 (Pf N F (pz 21845) []))=(Jo N (Ic F) a b c):=(Ee (Nm N (Ic F) a b c) (xw fun d=>(jW ..).trans (FZ ..)):_)
def QV:=Jl N 76 (Y9 N) Wv (fun
 | [(.optr 100000 0),(.pagg c b),(.int .i64 a)],[(100000,⟨false,false,true,false,0,f,false,none⟩)]=>some fun _ k=>J7 N c b a f (Ic k)
 | _,_=>none) fun _ _=>by split;intro R F;exact(Ee (Mv N (Ic F) · _ _ _ _) ((jW ..).trans (F_ ..)):_).trans (Vi ..).symm;trivial
def F5 (r0:LA→O R) (b:Int) (d:LA) (c:Bool) (a:LA) (k2:Int→Int→O R) (m j:Int):O R :=
 (A6 2 (a.drop 4) fun ax q=>cond ((decide (j<(q:Int)))==true) (Av .i64 (d.drop 3) fun r=>cond (cond true (r==0) false) (A6 2 (a.drop 4) fun s t=>cond (Aj j t) (Av .i64 (s.drop ((j.toNat)*2)) fun u=>k2 (wrap .i64 (m+u)) (wrap .i64 (j+1))) none) (Av .i64 (d.drop 3) fun v=>cond ((v != 0)==false) (Av .i64 (a.drop 3) fun w=>Av .i64 (a.drop 2) fun x=>Aa N (cond false true (m==(wrap .i64 (w - x)))) 3 b 4 4 d fun y=>r0 y) (Aa N true 3 b 4 4 d fun z=>r0 z))) (Av .i64 (d.drop 3) fun aa=>cond ((aa != 0)==false) (Av .i64 (a.drop 3) fun ab=>Av .i64 (a.drop 2) fun ac=>Aa N (cond false true (m==(wrap .i64 (ab - ac)))) 3 b 4 4 d fun ad=>r0 ad) (Aa N true 3 b 4 4 d fun ae=>r0 ae)))
def C3 (r0:LA→O R) (b:Int) (d:LA) (c:Bool) (a:LA):Nat→Int→Int→O R
 | 0,_,_=>none
 | n+1,m,j=>F5 N r0 b d c a (C3 r0 b d c a n) m j
def Dw (r0:LA→O R) (b:Int) (c:Bool) (a:LA) (k1:Int→LA→O R) (q2:LA→Int→Int→O R) (i:Int) (d:LA):O R :=
 (A6 2 (a.drop 4) fun ay af=>cond (decide (i<(af:Int))) (A6 2 (a.drop 4) fun ag ah=>cond (Aj i ah) (Av .i64 ((ag.drop ((i.toNat)*2)).drop 1) fun ai=>A6 2 (a.drop 4) fun aj ak=>cond (Aj (wrap .i64 (i - 1)) ak) (Av .i64 ((aj.drop (((wrap .i64 (i - 1)).toNat)*2)).drop 1) fun al=>Aa N (decide (ai≥al)) 3 b 4 11 d fun am=>k1 (wrap .i64 (i+1)) am) none) none) (q2 d 0 0))
def Cb (r0:LA→O R) (b:Int) (c:Bool) (a:LA):Nat→Int→LA→O R
 | 0,_,_=>none
 | n+1,i,d=>Dw N r0 b c a (Cb r0 b c a n) (fun d=>C3 N r0 b d c a N) i d
def F6 (r0:LA→O R) (b:Int) (f:LA) (g:Nat) (c:Bool) (a:LA) (k0:Int→Int→LA→O R) (q1:Int→LA→O R) (o h:Int) (p:LA):O R :=
 (cond (decide (h<o)) (cond (Aj h g) (cond (ble 2 ((f.drop ((h.toNat)*2)).length)) (cond ((!c)||(Ax ((f.drop ((h.toNat)*2)).take 2))) (cond ((beq (((f.drop ((h.toNat)*2)).take 2).length) 2)&&((ble 2 2)&&(!false))) (Av .i64 (setCells [(.int .i64 0),(.int .i64 0)] 0 ((f.drop ((h.toNat)*2)).take 2)) fun an=>Aq N 1 1048576 [(.int .i64 an)] 1 false true fun ao=>cond (ao==true) (Av .i64 ((setCells [(.int .i64 0),(.int .i64 0)] 0 ((f.drop ((h.toNat)*2)).take 2)).drop 1) fun ap=>Aq N (-1048576) 1048576 [(.int .i64 ap)] 1 false true fun aq=>Aa N (cond true aq false) 3 b 4 3 p fun ar=>k0 o (wrap .i64 (h+1)) ar) (Aa N false 3 b 4 3 p fun au=>k0 o (wrap .i64 (h+1)) au)) none) none) none) none) (q1 1 p))
def Cc (r0:LA→O R) (b:Int) (f:LA) (g:Nat) (c:Bool) (a:LA):Nat→Int→Int→LA→O R
 | 0,_,_,_=>none
 | n+1,o,h,p=>F6 N r0 b f g c a (Cc r0 b f g c a n) (Cb N r0 b c a N) o h p
def Hw (r0:LA→O R) (q0:LA→Nat→Int→Int→LA→O R) (a:LA) (c:Bool) (b:Int) (l:LA):O R :=
 (A6 2 (a.drop 4) fun az av=>Aa N (decide ((av:Int)≤8)) 3 b 4 8 l fun aw=>A6 2 (a.drop 4) fun f g=>q0 f g (g:Int) 0 aw)
def Ea:=(At fun N a c b l r0=>Hw (R:=R) N r0 (fun f g=>Cc N r0 b f g c a N) a c b l).1
theorem Pq (a c b l r0):(@Ea R N a c b l r0)=(Hw N r0 (fun f g=>Cc N r0 b f g c a N) a c b l):=by rw[Ea,(At _).2]
def Qx:Hints:={ H:=(hK 3 (hS (hK 1 (hS (hP [0,2,4,6,21,22,23] hL) hL)) (hS (hK 1 (hS (hP [0,2,4,6,9] hL) hL)) (hK 1 (hS (hK 1 (hS (hP [0,2,4,6,10,11] hL) hL)) hL))))) }
def Rs:EZ:=[Bs N,Dv N]
def J8 (F:KF R):=Tj Tryz.f122 Qx (Rs N) [100000] N F
def DV (b:Int) (d:LA) (c:Bool) (a:LA) (K:St→O R):=fun m j=>K ⟨[(0,(.optr 100000 0)),(2,(iv b)),(4,(op 0)),(6,(iv 3)),(10,(iv m)),(11,(iv j))],[(100000,(bQ 0 d)),(300000,(bP c 0 a))]⟩
def DW (b:Int) (c:Bool) (a:LA) (K:St→O R):=fun i d=>K ⟨[(0,(.optr 100000 0)),(2,(iv b)),(4,(op 0)),(6,(iv 3)),(9,(iv i))],[(100000,(bQ 0 d)),(300000,(bP c 0 a))]⟩
def DX (b:Int) (f:LA) (g:Nat) (c:Bool) (a:LA) (K:St→O R):=fun o h p=>K ⟨[(0,(.optr 100000 0)),(2,(iv b)),(4,(op 0)),(6,(iv 3)),(21,(.imm f g 2 false c)),(22,(iv o)),(23,(iv h))],[(100000,(bQ 0 p)),(300000,(bP c 0 a))]⟩
theorem Za (F:KF R) (b d c a):∀ n,DV b d c a (Ao (J8 N F (pz 349508) []) n)=(C3 N (Ic F) b d c a n):=Ev fun n e=>(Ee (F5 N (Ic F) b d c a) e:_)
theorem Zb (F:KF R) (b c a):∀ n,DW b c a (Ao (J8 N F (pz 21828) []) n)=(Cb N (Ic F) b c a n):=Ev fun n e=>(Sq (Dw N (Ic F) b c a) e (xw fun d=>(lW ..).trans (Za ..)):_)
theorem Zc (F:KF R) (b f g c a):∀ n,DX b f g c a (Ao (J8 N F (pz 5444) []) n)=(Cc N (Ic F) b f g c a n):=Ev fun n e=>(Sq (F6 N (Ic F) b f g c a) e ((lW ..).trans (Zb ..)):_)
def F':=Jl N 122 (Rs N) Qx (fun
 | [(.optr 100000 0),(.pagg a c),(.int .i64 b)],[(100000,⟨false,false,true,false,0,l,false,none⟩)]=>some fun _ k=>Ea N a c b l (Ic k)
 | _,_=>none) fun _ _=>by split;intro R F;exact(Ee (Hw N (Ic F) · _ _ _ _) (Yo fun f g=>(lW ..).trans (Zc ..)):_).trans (Pq ..).symm;trivial
def Pg (r0:LA→O R) (a:Int) (c:Bool) (d h:LA):O R :=
 (Av .i64 (d.drop 19) fun l=>cond (l==2) (Av .i64 (d.drop 2) fun m=>Av .i64 (d.drop 3) fun n=>Av .i64 (d.drop 21) fun o=>Aq N m n [(.int .i64 o)] 1 false true fun p=>Aa N p 3 a 21 3 h fun q=>r0 q) (Av .i64 (d.drop 21) fun r=>Aa N (r==0) 3 a 21 3 h fun s=>r0 s))
def Nn (r0:LA→O R) (a:Int) (c:Bool) (q1:LA→LA→O R) (g d:LA):O R :=
 (Av .i64 (d.drop 20) fun t=>Aq N 1 48 [(.int .i64 t)] 1 false true fun u=>Aa N u 3 a 20 3 g fun i=>Av .i64 (d.drop 19) fun v=>cond ((v != 1)==false) (Av .i64 (d.drop 20) fun w=>Av .i64 (d.drop 12) fun x=>Aa N (cond false true (decide (w≤x))) 3 a 20 3 i fun y=>q1 d y) (Aa N true 3 a 20 3 i fun z=>q1 d z))
def Jp (r0:LA→O R) (a:Int) (c:Bool) (g d:LA):O R:=(Nn N r0 a c (fun d=>Pg N r0 a c d) g d)
def Mw (r0:LA→O R) (q0:LA→LA→O R) (e:LA) (c:Bool) (a:Int) (f:LA):O R :=
 (A6 22 (e.drop 4) fun b aa=>cond (Aj a aa) (cond (ble 22 ((b.drop ((a.toNat)*22)).length)) (cond ((beq 0 0)&&((beq (((b.drop ((a.toNat)*22)).take 22).length) 22)&&(beq 22 22))) (cond (ble 8 (e.length)) (Cu N (e.take 8) c 3 a f fun ab=>cond (ble 8 (e.length)) (Av .i64 (((b.drop ((a.toNat)*22)).take 22).drop 1) fun ac=>Ey N (e.take 8) c ac 3 a 1 ab fun ad=>Av .i64 (((b.drop ((a.toNat)*22)).take 22).drop 2) fun ae=>Aq N 0 1048576 [(.int .i64 ae)] 1 false true fun af=>Aa N af 3 a 2 3 ad fun ag=>Av .i64 (((b.drop ((a.toNat)*22)).take 22).drop 2) fun ah=>Av .i64 (((b.drop ((a.toNat)*22)).take 22).drop 3) fun ai=>Aq N ah 1048576 [(.int .i64 ai)] 1 false true fun aj=>Aa N aj 3 a 3 3 ag fun ak=>cond (ble 22 (((b.drop ((a.toNat)*22)).take 22).length)) (Ea N (((b.drop ((a.toNat)*22)).take 22).take 22) c a ak fun al=>Av .i64 (((b.drop ((a.toNat)*22)).take 22).drop 5) fun am=>Aq N 0 1048576 [(.int .i64 am)] 1 false true fun an=>Aa N an 3 a 5 3 al fun ao=>Av .i64 (((b.drop ((a.toNat)*22)).take 22).drop 6) fun ap=>Aq N 0 1048576 [(.int .i64 ap)] 1 false true fun aq=>Aa N aq 3 a 6 3 ao fun ar=>Av .i64 (((b.drop ((a.toNat)*22)).take 22).drop 7) fun au=>Aq N 0 1048576 [(.int .i64 au)] 1 false true fun av=>Aa N av 3 a 7 3 ar fun aw=>Av .i64 (((b.drop ((a.toNat)*22)).take 22).drop 2) fun ax=>Av .i64 (((b.drop ((a.toNat)*22)).take 22).drop 3) fun ay=>Av .i64 (((b.drop ((a.toNat)*22)).take 22).drop 8) fun az=>Aq N ax ay [(.int .i64 az)] 1 false true fun ba=>Aa N ba 3 a 8 3 aw fun bb=>Av .i64 (((b.drop ((a.toNat)*22)).take 22).drop 2) fun bc=>Av .i64 (((b.drop ((a.toNat)*22)).take 22).drop 3) fun bd=>Av .i64 (((b.drop ((a.toNat)*22)).take 22).drop 9) fun be=>Aq N bc bd [(.int .i64 be)] 1 false true fun bf=>Aa N bf 3 a 9 3 bb fun bg=>Av .i64 (((b.drop ((a.toNat)*22)).take 22).drop 10) fun bh=>Aq N 0 24 [(.int .i64 bh)] 1 false true fun bi=>Aa N bi 3 a 10 3 bg fun bj=>Av .i64 (((b.drop ((a.toNat)*22)).take 22).drop 11) fun bk=>Aq N 0 24 [(.int .i64 bk)] 1 false true fun bl=>Aa N bl 3 a 11 3 bj fun bm=>Av .i64 (((b.drop ((a.toNat)*22)).take 22).drop 12) fun bn=>Aq N 0 24 [(.int .i64 bn)] 1 false true fun bo=>Aa N bo 3 a 12 3 bm fun bp=>Av .i64 (((b.drop ((a.toNat)*22)).take 22).drop 13) fun bq=>Aq N 0 1048576 [(.int .i64 bq)] 1 false true fun br=>Aa N br 3 a 13 3 bp fun bs=>Av .i64 (((b.drop ((a.toNat)*22)).take 22).drop 14) fun bt=>Aq N 0 1048576 [(.int .i64 bt)] 1 false true fun bu=>Aa N bu 3 a 14 3 bs fun bv=>Av .i64 (((b.drop ((a.toNat)*22)).take 22).drop 15) fun bw=>Aq N 0 24 [(.int .i64 bw)] 1 false true fun bx=>Aa N bx 3 a 15 3 bv fun bz=>Av .i64 (((b.drop ((a.toNat)*22)).take 22).drop 16) fun ca=>Aq N 0 1048576 [(.int .i64 ca)] 1 false true fun cb=>Aa N cb 3 a 16 3 bz fun cc=>Av .i64 (((b.drop ((a.toNat)*22)).take 22).drop 17) fun cd=>Aq N 0 1048576 [(.int .i64 cd)] 1 false true fun ce=>Aa N ce 3 a 17 3 cc fun cf=>cond (ble 8 (e.length)) (A6 1 (((b.drop ((a.toNat)*22)).take 22).drop 18) fun cg ch=>J6 N (e.take 8) c cg ch false c 3 a 18 cf fun ci=>Av .i64 (((b.drop ((a.toNat)*22)).take 22).drop 19) fun cj=>Aq N 0 2 [(.int .i64 cj)] 1 false true fun ck=>Aa N ck 3 a 19 12 ci fun j=>Av .i64 (((b.drop ((a.toNat)*22)).take 22).drop 19) fun cl=>cond ((cl != 1)==false) (Av .i64 (((b.drop ((a.toNat)*22)).take 22).drop 12) fun cm=>Aa N (cond false true (decide (cm>0))) 3 a 19 16 j fun cn=>q0 cn ((b.drop ((a.toNat)*22)).take 22)) (Aa N true 3 a 19 16 j fun co=>q0 co ((b.drop ((a.toNat)*22)).take 22))) none) none) none) none) none) none) none)
def J9:=(At fun N e c a f r0=>Mw (R:=R) N r0 (Jp N r0 a c) e c a f).1
theorem Vj (e c a f r0):(@J9 R N e c a f r0)=(Mw N r0 (Jp N r0 a c) e c a f):=by rw[J9,(At _).2]
def Ww:Hints:={ H:=(hK 22 (hJ [0,2,6,7] hL (hK 1 (hJ [0,2,6,7] hL hL)))) }
def Zd:EZ:=[Fk N,Mu N,Dv N,Bs N,F' N,Y8 N]
def Wx (F:KF R):=Tj Tryz.f77 Ww (Zd N) [100000] N F
def NZ (a:Int) (c:Bool) (d:LA) (K:St→O R):=fun h=>K ⟨[(0,(.optr 100000 0)),(2,(iv a)),(6,(op 0)),(7,(iv 3))],[(100000,(bQ 0 h)),(300000,(bP c 0 d))]⟩
def N_ (a:Int) (c:Bool) (K:St→O R):=fun g d=>K ⟨[(0,(.optr 100000 0)),(2,(iv a)),(6,(op 0)),(7,(iv 3))],[(100000,(bQ 0 g)),(300000,(bP c 0 d))]⟩
theorem GA (F:KF R) (a c d):NZ a c d (D5 (Wx N F (pz 1501199875790165) []))=(Pg N (Ic F) a c d):=by kernel_rfl
theorem GB (F:KF R) (a c):N_ a c (D5 (Wx N F (pz 93824992236885) []))=(Jp N (Ic F) a c):=(Ee (Nn N (Ic F) a c) (xw fun d=>(jW ..).trans (GA ..)):_)
def QW:=Jl N 77 (Zd N) Ww (fun
 | [(.optr 100000 0),(.pagg e c),(.int .i64 a)],[(100000,⟨false,false,true,false,0,f,false,none⟩)]=>some fun _ k=>J9 N e c a f (Ic k)
 | _,_=>none) fun _ _=>by split;intro R F;exact(Ee (Mw N (Ic F) · _ _ _ _) ((jW ..).trans (GB ..)):_).trans (Vj ..).symm;trivial
def Qm (c:LA) (d:Bool) (a:Int) (e:LA) (r0:LA→O R):O R :=
 (A6 9 (c.drop 5) fun b g=>cond (Aj a g) (cond (ble 9 ((b.drop ((a.toNat)*9)).length)) (cond ((beq 0 0)&&((beq (((b.drop ((a.toNat)*9)).take 9).length) 9)&&(beq 9 9))) (cond (ble 8 (c.length)) (Cu N (c.take 8) d 4 a e fun h=>cond (ble 8 (c.length)) (Av .i64 (((b.drop ((a.toNat)*9)).take 9).drop 1) fun i=>Ey N (c.take 8) d i 4 a 1 h fun j=>Av .i64 (((b.drop ((a.toNat)*9)).take 9).drop 2) fun l=>Aq N 0 1048576 [(.int .i64 l)] 1 false true fun m=>Aa N m 4 a 2 3 j fun n=>Av .i64 (((b.drop ((a.toNat)*9)).take 9).drop 2) fun o=>Av .i64 (((b.drop ((a.toNat)*9)).take 9).drop 3) fun p=>Aq N 0 o [(.int .i64 p)] 1 false true fun q=>Aa N q 4 a 3 3 n fun r=>Av .i64 (((b.drop ((a.toNat)*9)).take 9).drop 2) fun s=>Av .i64 (((b.drop ((a.toNat)*9)).take 9).drop 4) fun t=>Aq N 0 s [(.int .i64 t)] 1 false true fun u=>Aa N u 4 a 4 3 r fun v=>Av .i64 (((b.drop ((a.toNat)*9)).take 9).drop 5) fun w=>Aq N 0 1048576 [(.int .i64 w)] 1 false true fun x=>Aa N x 4 a 5 3 v fun y=>Av .i64 (((b.drop ((a.toNat)*9)).take 9).drop 6) fun z=>Aq N 0 1048576 [(.int .i64 z)] 1 false true fun aa=>Aa N aa 4 a 6 3 y fun f=>cond (ble 2 ((((b.drop ((a.toNat)*9)).take 9).drop 7).length)) (cond ((!d)||(Ax ((((b.drop ((a.toNat)*9)).take 9).drop 7).take 2))) (Ku N ((((b.drop ((a.toNat)*9)).take 9).drop 7).take 2) false fun ab=>cond (ab==true) (Av .i64 (((b.drop ((a.toNat)*9)).take 9).drop 7) fun ac=>cond ((cond true (decide (ac>0)) false)==true) (Av .i64 (((b.drop ((a.toNat)*9)).take 9).drop 7) fun ad=>Av .i64 (((b.drop ((a.toNat)*9)).take 9).drop 8) fun ae=>Aa N (cond true (decide (ad≤ae)) false) 4 a 7 3 f fun af=>r0 af) (Aa N false 4 a 7 3 f fun ag=>r0 ag)) (Aa N false 4 a 7 3 f fun ah=>r0 ah)) none) none) none) none) none) none) none)
def Mx:=(At (@Qm R)).1
theorem Sv:@Mx R=@Qm R:=(At _).2
def N':=Jl N 78 [Fk N,Mu N,Dv N,Bs N,KV N] O7 (fun
 | [(.optr 100000 0),(.pagg c d),(.int .i64 a)],[(100000,⟨false,false,true,false,0,e,false,none⟩)]=>some fun _ k=>Mx N c d a e (Ic k)
 | _,_=>none) fun _ _=>by split;intro R F;dsimp only;rw[Sv];kernel_rfl;trivial
def To (b:LA) (c:Bool) (a:Int) (e:LA) (r0:LA→O R):O R :=
 (A6 5 (b.drop 6) fun d f=>cond (Aj a f) (cond (ble 5 ((d.drop ((a.toNat)*5)).length)) (cond ((beq 0 0)&&((beq (((d.drop ((a.toNat)*5)).take 5).length) 5)&&(beq 5 5))) (cond (ble 8 (b.length)) (Cu N (b.take 8) c 5 a e fun g=>cond (ble 8 (b.length)) (Av .i64 (((d.drop ((a.toNat)*5)).take 5).drop 1) fun h=>Ey N (b.take 8) c h 5 a 1 g fun i=>cond (ble 8 (b.length)) (A6 1 (((d.drop ((a.toNat)*5)).take 5).drop 2) fun j l=>C6 N (b.take 8) c j l false c 0 1048576 5 a 2 i fun m=>cond (ble 8 (b.length)) (A6 1 (((d.drop ((a.toNat)*5)).take 5).drop 3) fun n o=>C6 N (b.take 8) c n o false c 0 1048576 5 a 3 m fun p=>cond (ble 8 (b.length)) (A6 1 (((d.drop ((a.toNat)*5)).take 5).drop 4) fun q r=>C6 N (b.take 8) c q r false c (-1048576) 1048576 5 a 4 p fun s=>r0 s) none) none) none) none) none) none) none) none)
def Qa:=(At (@To R)).1
theorem Wy:@Qa R=@To R:=(At _).2
def SY:=Jl N 79 [Fk N,Mu N,Nh N] O7 (fun
 | [(.optr 100000 0),(.pagg b c),(.int .i64 a)],[(100000,⟨false,false,true,false,0,e,false,none⟩)]=>some fun _ k=>Qa N b c a e (Ic k)
 | _,_=>none) fun _ _=>by split;intro R F;dsimp only;rw[Wy];kernel_rfl;trivial
def Gv (r0:LA→O R) (a:Int) (f:LA) (h:Nat) (b:Bool) (k2:Int→Int→LA→O R) (s l:Int) (t:LA):O R :=
 (cond (decide (l<s)) (cond (Aj l h) (cond (ble 3 ((f.drop ((l.toNat)*3)).length)) (cond ((!b)||(Ax ((f.drop ((l.toNat)*3)).take 3))) (cond ((beq (((f.drop ((l.toNat)*3)).take 3).length) 3)&&((ble 3 3)&&(!false))) (Av .i64 ((setCells [(.int .i64 0),(.int .i64 0),(.int .i64 0)] 0 ((f.drop ((l.toNat)*3)).take 3)).drop 1) fun x=>Av .i64 ((setCells [(.int .i64 0),(.int .i64 0),(.int .i64 0)] 0 ((f.drop ((l.toNat)*3)).take 3)).drop 2) fun y=>Aq N 0 1048576 [(.int .i64 x),(.int .i64 y)] 2 false true fun z=>Aa N z 6 a 3 3 t fun aa=>k2 s (wrap .i64 (l+1)) aa) none) none) none) none) (r0 t))
def Dp (r0:LA→O R) (a:Int) (f:LA) (h:Nat) (b:Bool):Nat→Int→Int→LA→O R
 | 0,_,_,_=>none
 | n+1,s,l,t=>Gv N r0 a f h b (Dp r0 a f h b n) s l t
def Gw (r0:LA→O R) (a:Int) (g:LA) (i:Nat) (b:Bool) (j c d:LA) (k1:Nat→Int→Int→LA→O R) (q2:LA→Nat→Int→Int→LA→O R) (m:Nat) (u o:Int) (r:LA):O R :=
 (cond (decide (o<u)) (cond (Aj o i) (cond (ble 3 ((g.drop ((o.toNat)*3)).length)) (cond ((!b)||(Ax ((g.drop ((o.toNat)*3)).take 3))) (cond ((beq (((g.drop ((o.toNat)*3)).take 3).length) 3)&&((ble 3 3)&&(!false))) (Av .i64 (setCells [(.int .i64 0),(.int .i64 0),(.int .i64 0)] 0 ((g.drop ((o.toNat)*3)).take 3)) fun ab=>cond ((ble (m+1) 140737488355328)&&(ble ((m+1)*8) 140737488355328)) (k1 (m+1) u (wrap .i64 (o+1)) ((r.take (m*1))++[(.int .i64 ab)])) none) none) none) none) none) (A6 22 (c.drop 4) fun bb ac=>Aq N 0 (wrap .i64 ((ac:Int) - 1)) (r.take (m*1)) m false true fun ad=>Aa N ad 6 a 3 12 j fun ae=>Ql N (r.take (m*1)) m false true fun af=>Aa N af 6 a 3 11 ae fun ag=>A6 3 (d.drop 3) fun f h=>q2 f h (h:Int) 0 ag))
def Dq (r0:LA→O R) (a:Int) (g:LA) (i:Nat) (b:Bool) (j c d:LA):Nat→Nat→Int→Int→LA→O R
 | 0,_,_,_,_=>none
 | n+1,m,u,o,r=>Gw N r0 a g i b j c d (Dq r0 a g i b j c d n) (fun f h=>Dp N r0 a f h b N) m u o r
def Kv (r0:LA→O R) (a:Int) (b:Bool) (c:LA) (q1:LA→Nat→LA→LA→Nat→Int→Int→LA→O R) (v d:LA):O R :=
 (A6 3 (d.drop 3) fun bc ah=>Aa N (decide ((ah:Int)≤16)) 6 a 3 8 v fun j=>A6 3 (d.drop 3) fun g i=>q1 g i j d 0 (i:Int) 0 [])
def Hx (r0:LA→O R) (a:Int) (b:Bool) (c:LA) (v d:LA):O R:=(Kv N r0 a b c (fun g i j d=>Dq N r0 a g i b j c d N) v d)
def Jq (r0:LA→O R) (q0:LA→LA→O R) (c:LA) (b:Bool) (a:Int) (q:LA):O R :=
 (A6 4 (c.drop 7) fun p ai=>cond (Aj a ai) (cond (ble 4 ((p.drop ((a.toNat)*4)).length)) (cond ((beq 0 0)&&((beq (((p.drop ((a.toNat)*4)).take 4).length) 4)&&(beq 4 4))) (cond (ble 8 (c.length)) (Cu N (c.take 8) b 6 a q fun aj=>A6 1 (((p.drop ((a.toNat)*4)).take 4).drop 1) fun bd ak=>Aq N 1 2 [(.int .i64 (ak:Int))] 1 false true fun al=>Aa N al 6 a 1 4 aj fun am=>A6 12 (c.drop 3) fun be an=>A6 1 (((p.drop ((a.toNat)*4)).take 4).drop 1) fun ao ap=>Aq N 0 (wrap .i64 ((an:Int) - 1)) ao ap false b fun aq=>Aa N aq 6 a 1 12 am fun ar=>A6 1 (((p.drop ((a.toNat)*4)).take 4).drop 1) fun au av=>Ql N au av false b fun aw=>Aa N aw 6 a 1 11 ar fun w=>qS (((p.drop ((a.toNat)*4)).take 4).drop 2) fun ax=>cond (ax==false) (A6 3 (((p.drop ((a.toNat)*4)).take 4).drop 3) fun bf ay=>Aa N (cond false true ((ay:Int)==0)) 6 a 3 16 w fun az=>q0 az ((p.drop ((a.toNat)*4)).take 4)) (Aa N true 6 a 3 16 w fun ba=>q0 ba ((p.drop ((a.toNat)*4)).take 4))) none) none) none) none)
def Hl:=(At fun N c b a q r0=>Jq (R:=R) N r0 (Hx N r0 a b c) c b a q).1
theorem Rt (c b a q r0):(@Hl R N c b a q r0)=(Jq N r0 (Hx N r0 a b c) c b a q):=by rw[Hl,(At _).2]
def Sw:Hints:={ H:=(hK 6 (hJ [0,2,4,6,7] hL (hK 2 (hS (hK 1 (hS (hP [0,2,4,6,7,8,71,72,73] hL) hL)) (hK 3 (hS (hP [0,2,7,100,101,102] hL) hL)))))),nils:=[(8,1)] }
def Vk:EZ:=[Fk N,Dv N,Bs N,SX N]
def Mm (F:KF R):=Tj Tryz.f80 Sw (Vk N) [100000] N F
def IU (a:Int) (f:LA) (h:Nat) (b:Bool) (K:St→O R):=fun s l t=>K ⟨[(0,(.optr 100000 0)),(2,(iv a)),(7,(iv 6)),(100,(.imm f h 3 false b)),(101,(iv s)),(102,(iv l))],[(100000,(bQ 0 t))]⟩
def IV (a:Int) (g:LA) (i:Nat) (b:Bool) (j c d:LA) (K:St→O R):=fun m u o r=>K ⟨[(0,(.optr 100000 0)),(2,(iv a)),(4,(op 0)),(6,(op 1)),(7,(iv 6)),(8,(.own 300002 0 m)),(71,(.imm g i 3 false b)),(72,(iv u)),(73,(iv o))],[(100000,(bQ 0 j)),(300000,(bP b 0 c)),(300001,(bP b 0 d)),(300002,(bQ 1 r))]⟩
def IW (a:Int) (b:Bool) (c:LA) (K:St→O R):=fun v d=>K ⟨[(0,(.optr 100000 0)),(2,(iv a)),(4,(op 0)),(6,(op 1)),(7,(iv 6))],[(100000,(bQ 0 v)),(300000,(bP b 0 c)),(300001,(bP b 0 d))]⟩
theorem CL (F:KF R) (a f h b):∀ n,IU a f h b (Ao (Mm N F (pz 357913940) []) n)=(Dp N (Ic F) a f h b n):=Ev fun n e=>(Ee (Gv N (Ic F) a f h b) e:_)
theorem CM (F:KF R) (a g i b j c d):∀ n,IV a g i b j c d (Ao (Mm N F (pz 22369604) []) n)=(Dq N (Ic F) a g i b j c d n):=Ev fun n e=>(Sq (Gw N (Ic F) a g i b j c d) e (Yo fun f h=>(lW ..).trans (CL ..)):_)
theorem CN (F:KF R) (a b c):IW a b c (D5 (Mm N F (pz 21845) []))=(Hx N (Ic F) a b c):=(Ee (Kv N (Ic F) a b c) (tk fun g i j d=>(lW ..).trans (CM ..)):_)
def KX:=Jl N 80 (Vk N) Sw (fun
 | [(.optr 100000 0),(.pagg c b),(.int .i64 a)],[(100000,⟨false,false,true,false,0,q,false,none⟩)]=>some fun _ k=>Hl N c b a q (Ic k)
 | _,_=>none) fun _ _=>by split;intro R F;exact(Ee (Jq N (Ic F) · _ _ _ _) ((jW ..).trans (CN ..)):_).trans (Rt ..).symm;trivial
def A_ (N:Nat) (r0:Bool→O R) (b:LA) (a:Nat) (d f:Bool) (c:Int) (k0:Int→O R) (g:Int):O R :=
 (cond (decide (g<(a:Int))) (cond (Aj g a) (Av .i64 (b.drop ((g.toNat)*1)) fun h=>cond (h==c) (r0 true) (k0 (wrap .i64 (g+1)))) none) (r0 false))
def Qn (r0:Bool→O R) (b:LA) (a:Nat) (d f:Bool) (c:Int):Nat→Int→O R
 | 0,_=>none
 | n+1,g=>A_ N r0 b a d f c (Qn r0 b a d f c n) g
def SZ (N:Nat) (r0:Bool→O R) (q0:Int→O R) (b:LA) (a:Nat) (d f:Bool) (c:Int):O R :=
 (q0 0)
def GC:=(At fun N b a d f c r0=>SZ (R:=R) N r0 (Qn N r0 b a d f c N) b a d f c).1
theorem ZM (b a d f c r0):(@GC R N b a d f c r0)=(SZ N r0 (Qn N r0 b a d f c N) b a d f c):=by rw[GC,(At _).2]
def fS:Hints:={ H:=(hK 1 (hS (hK 1 (hS (hP [0,1,5] hL) hL)) hL)) }
def rE (F:KF R):=Tj Tryz.f82 fS [] [] N F
def rF (b:LA) (a:Nat) (d f:Bool) (c:Int) (K:St→O R):=fun g=>K ⟨[(0,(.imm b a 1 d f)),(1,(iv c)),(5,(iv g))],[]⟩
theorem i6 (F:KF R) (b a d f c):∀ n,rF b a d f c (Ao (rE N F (pz 324) []) n)=(Qn N (B8 F) b a d f c n):=Ev fun n e=>(Ee (A_ N (B8 F) b a d f c) e:_)
def WM:=Jl N 82 [] fS (fun
 | [(.imm b a 1 d f),(.int .i64 c)],[]=>some fun _ k=>GC N b a d f c (B8 k)
 | _,_=>none) fun _ _=>by split;intro R F;exact(Ee (SZ N (B8 F) · _ _ _ _ _) ((lW ..).trans (i6 ..)):_).trans (ZM ..).symm;trivial
def My (r0:Nat→LA→O R) (b:Int) (c:Bool) (a:LA) (k0:Nat→Int→LA→O R) (d:Nat) (f:Int) (g:LA):O R :=
 (A6 12 (a.drop 3) fun p h=>cond (decide (f<(h:Int))) (A6 12 (a.drop 3) fun i j=>cond (Aj f j) (A6 1 ((i.drop ((f.toNat)*12)).drop 11) fun l m=>GC N l m false c b fun o=>cond (!o) (cond ((ble (d+1) 140737488355328)&&(ble ((d+1)*8) 140737488355328)) (k0 (d+1) (wrap .i64 (f+1)) ((g.take (d*1))++[(.int .i64 f)])) none) (k0 d (wrap .i64 (f+1)) g)) none) (r0 d g))
def Fl (r0:Nat→LA→O R) (b:Int) (c:Bool) (a:LA):Nat→Nat→Int→LA→O R
 | 0,_,_,_=>none
 | n+1,d,f,g=>My N r0 b c a (Fl r0 b c a n) d f g
def Ru (N:Nat) (r0:Nat→LA→O R) (q0:Nat→Int→LA→O R) (a:LA) (c:Bool) (b:Int):O R :=
 (q0 0 0 [])
def Pr:=(At fun N a c b r0=>Ru (R:=R) N r0 (Fl N r0 b c a N) a c b).1
theorem BA (a c b r0):(@Pr R N a c b r0)=(Ru N r0 (Fl N r0 b c a N) a c b):=by rw[Pr,(At _).2]
def DY:Hints:={ H:=(hK 2 (hS (hK 1 (hS (hP [1,2,5,6] hL) hL)) hL)),nils:=[(4,1),(5,1)],modes:=[(2,1)] }
def II:EZ:=[WM N]
def WN (F:KF R):=Tj Tryz.f124 DY (II N) [] N F
def WO (b:Int) (c:Bool) (a:LA) (K:St→O R):=fun d f g=>K ⟨[(1,(iv b)),(2,(op 0)),(5,(.own 300001 0 d)),(6,(iv f))],(hq [(bP c 0 a),(bQ 1 g)])⟩
theorem OA (F:KF R) (b c a):∀ n,WO b c a (Ao (WN N F (pz 1348) []) n)=(Fl N (M9 F) b c a n):=Ev fun n e=>(Ee (My N (M9 F) b c a) e:_)
def bX:=Jl N 124 (II N) DY (fun
 | [(.pagg a c),(.int .i64 b)],[]=>some fun _ k=>Pr N a c b (M9 k)
 | _,_=>none) fun _ _=>by split;intro R F;exact(Ee (Ru N (M9 F) · _ _ _) ((lW ..).trans (OA ..)):_).trans (BA ..).symm;trivial
def Uj (N:Nat) (r0:Nat→Nat→LA→LA→O R) (b:Nat) (c:Bool) (a d:LA) (k0:Nat→Int→Int→LA→O R) (f:Nat) (i g:Int) (j:LA):O R :=
 (cond (decide (g<i)) (cond (Aj g b) (Av .i64 (d.drop (0+((g.toNat)*1))) fun l=>A6 12 (a.drop 3) fun m o=>cond (Aj l o) (Av .i64 ((m.drop ((l.toNat)*12)).drop 1) fun p=>A6 12 (a.drop 3) fun q r=>cond (Aj l r) (Av .i64 ((q.drop ((l.toNat)*12)).drop 2) fun s=>cond ((ble (f+1) 140737488355328)&&(ble ((f+1)*16) 140737488355328)) (k0 (f+1) i (wrap .i64 (g+1)) ((j.take (f*2))++[(.int .i64 p),(.int .i64 s)])) none) none) none) none) (r0 f b j d))
def Kw (r0:Nat→Nat→LA→LA→O R) (b:Nat) (c:Bool) (a d:LA):Nat→Nat→Int→Int→LA→O R
 | 0,_,_,_,_=>none
 | n+1,f,i,g,j=>Uj N r0 b c a d (Kw r0 b c a d n) f i g j
def GD (r0:Nat→Nat→LA→LA→O R) (q0:Nat→LA→Nat→Int→Int→LA→O R) (a:LA) (c:Bool) (h:Int):O R :=
 (cond (ble 8 (a.length)) (Pr N (a.take 8) c h fun b d=>q0 b d 0 (b:Int) 0 []) none)
def DZ:=(At fun N a c h r0=>GD (R:=R) N r0 (fun b d=>Kw N r0 b c a d N) a c h).1
theorem PC (a c h r0):(@DZ R N a c h r0)=(GD N r0 (fun b d=>Kw N r0 b c a d N) a c h):=by rw[DZ,(At _).2]
def S_:Hints:={ H:=(hK 3 (hS (hK 1 (hS (hP [2,6,7,13,14,15] hL) hL)) hL)),nils:=[(4,2),(5,1),(7,2)],modes:=[(2,2),(2,1)] }
def ZN:EZ:=[bX N]
def lh (F:KF R):=Tj Tryz.f81 S_ (ZN N) [] N F
def Xl (F:KF R):Nat→Nat→LA→LA→O R:=(fun t u v w=>F (.tup [(.own 300000 0 t),(.own 300001 0 u)]) (hq [(bQ 2 v),(bQ 1 w)]))
def li (b:Nat) (c:Bool) (a d:LA) (K:St→O R):=fun f i g j=>K ⟨[(2,(op 0)),(6,(.own 300001 0 b)),(7,(.own 300002 0 f)),(13,(.own 300001 0 b)),(14,(iv i)),(15,(iv g))],(hq [(bP c 0 a),(bQ 1 d),(bQ 2 j)])⟩
theorem bY (F:KF R) (b c a d):∀ n,li b c a d (Ao (lh N F (pz 5444) []) n)=(Kw N (Xl F) b c a d n):=Ev fun n e=>(Ee (Uj N (Xl F) b c a d) e:_)
def oZ:=Jl N 81 (ZN N) S_ (fun
 | [(.pagg a c),(.int .i64 h)],[]=>some fun _ k=>DZ N a c h (Xl k)
 | _,_=>none) fun _ _=>by split;intro R F;exact(Ee (GD N (Xl F) · _ _ _) (Yo fun b d=>(lW ..).trans (bY ..)):_).trans (PC ..).symm;trivial
def Qb (N:Nat) (k1:Bool→LA→O R) (r0:Nat→LA→O R) (a:LA) (b:Nat) (d c:Bool) (f:Nat) (k2:Bool→Int→Int→LA→O R) (q:Bool) (o h:Int) (i:LA):O R :=
 (cond (decide (h<o)) (cond (Aj h b) (cond (ble 2 ((a.drop ((h.toNat)*2)).length)) (cond ((!c)||(Ax ((a.drop ((h.toNat)*2)).take 2))) (cond ((beq (((a.drop ((h.toNat)*2)).take 2).length) 2)&&((ble 2 2)&&(!false))) (Av .i64 (setCells [(.int .i64 0),(.int .i64 0)] 0 ((a.drop ((h.toNat)*2)).take 2)) fun z=>cond (Aj z f) (Av .i64 (i.drop (0+((z.toNat)*1))) fun j=>Av .i64 ((setCells [(.int .i64 0),(.int .i64 0)] 0 ((a.drop ((h.toNat)*2)).take 2)).drop 1) fun aa=>cond (Aj aa f) (Av .i64 (i.drop (0+((aa.toNat)*1))) fun l=>cond (q==false) (Av .i64 (setCells [(.int .i64 0),(.int .i64 0)] 0 ((a.drop ((h.toNat)*2)).take 2)) fun ab=>cond (Aj ab f) (Av .i64 (i.drop (0+((ab.toNat)*1))) fun ad=>cond ((cond false true (ad != (Kg j l)))==false) (Av .i64 ((setCells [(.int .i64 0),(.int .i64 0)] 0 ((a.drop ((h.toNat)*2)).take 2)).drop 1) fun ac=>cond (Aj ac f) (Av .i64 (i.drop (0+((ac.toNat)*1))) fun ae=>Av .i64 (setCells [(.int .i64 0),(.int .i64 0)] 0 ((a.drop ((h.toNat)*2)).take 2)) fun t=>Av .i64 ((setCells [(.int .i64 0),(.int .i64 0)] 0 ((a.drop ((h.toNat)*2)).take 2)).drop 1) fun w=>cond (Aj t f) (cond ((beq 1 1)&&((ble ((0+((t.toNat)*1))+1) (i.length))&&(!false))) (cond (Aj w f) (cond ((beq 1 1)&&((ble ((0+((w.toNat)*1))+1) ((i.set (0+((t.toNat)*1)) (.int .i64 (Kg j l))).length))&&(!false))) (k2 (cond false true (ae != (Kg j l))) o (wrap .i64 (h+1)) ((i.set (0+((t.toNat)*1)) (.int .i64 (Kg j l))).set (0+((w.toNat)*1)) (.int .i64 (Kg j l)))) none) none) none) none) none) (Av .i64 (setCells [(.int .i64 0),(.int .i64 0)] 0 ((a.drop ((h.toNat)*2)).take 2)) fun u=>Av .i64 ((setCells [(.int .i64 0),(.int .i64 0)] 0 ((a.drop ((h.toNat)*2)).take 2)).drop 1) fun x=>cond (Aj u f) (cond ((beq 1 1)&&((ble ((0+((u.toNat)*1))+1) (i.length))&&(!false))) (cond (Aj x f) (cond ((beq 1 1)&&((ble ((0+((x.toNat)*1))+1) ((i.set (0+((u.toNat)*1)) (.int .i64 (Kg j l))).length))&&(!false))) (k2 true o (wrap .i64 (h+1)) ((i.set (0+((u.toNat)*1)) (.int .i64 (Kg j l))).set (0+((x.toNat)*1)) (.int .i64 (Kg j l)))) none) none) none) none)) none) (Av .i64 (setCells [(.int .i64 0),(.int .i64 0)] 0 ((a.drop ((h.toNat)*2)).take 2)) fun v=>Av .i64 ((setCells [(.int .i64 0),(.int .i64 0)] 0 ((a.drop ((h.toNat)*2)).take 2)).drop 1) fun y=>cond (Aj v f) (cond ((beq 1 1)&&((ble ((0+((v.toNat)*1))+1) (i.length))&&(!false))) (cond (Aj y f) (cond ((beq 1 1)&&((ble ((0+((y.toNat)*1))+1) ((i.set (0+((v.toNat)*1)) (.int .i64 (Kg j l))).length))&&(!false))) (k2 true o (wrap .i64 (h+1)) ((i.set (0+((v.toNat)*1)) (.int .i64 (Kg j l))).set (0+((y.toNat)*1)) (.int .i64 (Kg j l)))) none) none) none) none)) none) none) none) none) none) none) (k1 q i))
def Hm (k1:Bool→LA→O R) (r0:Nat→LA→O R) (a:LA) (b:Nat) (d c:Bool) (f:Nat):Nat→Bool→Int→Int→LA→O R
 | 0,_,_,_,_=>none
 | n+1,q,o,h,i=>Qb N k1 r0 a b d c f (Hm k1 r0 a b d c f n) q o h i
def Qc (N:Nat) (r0:Nat→LA→O R) (a:LA) (b:Nat) (d c:Bool) (f:Nat) (k1:Bool→LA→O R) (q2:Bool→Int→Int→LA→O R) (s:Bool) (r:LA):O R :=
 (cond s (q2 false (b:Int) 0 r) (r0 f r))
def C7 (r0:Nat→LA→O R) (a:LA) (b:Nat) (d c:Bool) (f:Nat):Nat→Bool→LA→O R
 | 0,_,_=>none
 | n+1,s,r=>Qc N r0 a b d c f (C7 r0 a b d c f n) (Hm N (C7 r0 a b d c f n) r0 a b d c f N) s r
def Qd (N:Nat) (r0:Nat→LA→O R) (g:Int) (a:LA) (b:Nat) (d c:Bool) (k0:Nat→Int→LA→O R) (q1:Nat→Bool→LA→O R) (f:Nat) (m:Int) (p:LA):O R :=
 (cond (decide (m<g)) (cond (Aj m f) (cond ((beq 1 1)&&((ble ((0+((m.toNat)*1))+1) (p.length))&&(!false))) (k0 f (wrap .i64 (m+1)) (p.set (0+((m.toNat)*1)) (.int .i64 m))) none) none) (q1 f true p))
def Hn (r0:Nat→LA→O R) (g:Int) (a:LA) (b:Nat) (d c:Bool):Nat→Nat→Int→LA→O R
 | 0,_,_,_=>none
 | n+1,f,m,p=>Qd N r0 g a b d c (Hn r0 g a b d c n) (fun f=>C7 N r0 a b d c f N) f m p
def Xm (N:Nat) (r0:Nat→LA→O R) (q0:Nat→Int→LA→O R) (g:Int) (a:LA) (b:Nat) (d c:Bool):O R :=
 (cond ((decide (0≤g))&&((decide (g≤g))&&((decide (g≤140737488355328))&&(decide ((g*((8:Nat):Int))≤140737488355328))))) (q0 (g.toNat) 0 (replicate (g.toNat) (.int .i64 0))) none)
def Qy:=(At fun N g a b d c r0=>Xm (R:=R) N r0 (Hn N r0 g a b d c N) g a b d c).1
theorem IJ (g a b d c r0):(@Qy R N g a b d c r0)=(Xm N r0 (Hn N r0 g a b d c N) g a b d c):=by rw[Qy,(At _).2]
def KY:Hints:={ H:=(hK 2 (hS (hK 1 (hS (hP [0,1,5,6] hL) hL)) (hS (hK 1 (hS (hP [1,5,7] (hK 1 (hS (hK 2 (hS (hP [1,5,7,23,24,25] hL) hL)) hL))) hL)) hL))),nils:=[(4,1)],modes:=[(2,1)] }
def Ze (F:KF R):=Tj Tryz.f126 KY [] [] N F
def fT (a:LA) (b:Nat) (d c:Bool) (f:Nat) (K:St→O R):=fun q o h i=>K ⟨[(1,(.imm a b 2 d c)),(5,(.own 300000 0 f)),(7,(.bool q)),(23,(.imm a b 2 d c)),(24,(iv o)),(25,(iv h))],(hq [(bQ 1 i)])⟩
def Zf (a:LA) (b:Nat) (d c:Bool) (f:Nat) (K:St→O R):=fun s r=>K ⟨[(1,(.imm a b 2 d c)),(5,(.own 300000 0 f)),(7,(.bool s))],(hq [(bQ 1 r)])⟩
def fU (g:Int) (a:LA) (b:Nat) (d c:Bool) (K:St→O R):=fun f m p=>K ⟨[(0,(iv g)),(1,(.imm a b 2 d c)),(5,(.own 300000 0 f)),(6,(iv m))],(hq [(bQ 1 p)])⟩
theorem TA (Q1) (F:KF R) (a b d c f):∀ n,fT a b d c f (Ao (Ze N F (pz 22298900) [Q1]) n)=(Hm N (Zf a b d c f Q1) (M9 F) a b d c f n):=Ev fun n e=>(Ee (Qb N (Zf a b d c f Q1) (M9 F) a b d c f) e:_)
theorem TB (F:KF R) (a b d c f):∀ n,Zf a b d c f (Ao (Ze N F (pz 5444) []) n)=(C7 N (M9 F) a b d c f n):=Ev fun n e=>(Sq (Qc N (M9 F) a b d c f) e ((lW ..).trans ((TA ..).trans (iI (Hm _ · _ _ _ _ _ _ _) e))):_)
theorem TC (F:KF R) (g a b d c):∀ n,fU g a b d c (Ao (Ze N F (pz 1348) []) n)=(Hn N (M9 F) g a b d c n):=Ev fun n e=>(Sq (Qd N (M9 F) g a b d c) e (xw fun f=>(lW ..).trans (TB ..)):_)
def i7:=Jl N 126 [] KY (fun
 | [(.int .i64 g),(.imm a b 2 d c)],[]=>some fun _ k=>Qy N g a b d c (M9 k)
 | _,_=>none) fun _ _=>by split;intro R F;exact(Ee (Xm N (M9 F) · _ _ _ _ _) ((lW ..).trans (TC ..)):_).trans (IJ ..).symm;trivial
def Uk (N:Nat) (r0:Int→O R) (b:LA) (a:Nat) (c d:Bool) (k0:Int→Int→O R) (g f:Int):O R :=
 (cond (decide (f<(a:Int))) (cond (Aj f a) (Av .i64 (b.drop ((f.toNat)*1)) fun h=>cond (h==f) (k0 (wrap .i64 (g+1)) (wrap .i64 (f+1))) (k0 g (wrap .i64 (f+1)))) none) (r0 g))
def Kx (r0:Int→O R) (b:LA) (a:Nat) (c d:Bool):Nat→Int→Int→O R
 | 0,_,_=>none
 | n+1,g,f=>Uk N r0 b a c d (Kx r0 b a c d n) g f
def GF (N:Nat) (r0:Int→O R) (q0:Int→Int→O R) (b:LA) (a:Nat) (c d:Bool):O R :=
 (q0 0 0)
def Yp:=(At fun N b a c d r0=>GF (R:=R) N r0 (Kx N r0 b a c d N) b a c d).1
theorem PD (b a c d r0):(@Yp R N b a c d r0)=(GF N r0 (Kx N r0 b a c d N) b a c d):=by rw[Yp,(At _).2]
def TD:Hints:={ H:=(hK 2 (hS (hK 1 (hS (hP [0,3,4] hL) hL)) hL)) }
def lj (F:KF R):=Tj Tryz.f125 TD [] [] N F
def lk (b:LA) (a:Nat) (c d:Bool) (K:St→O R):=fun g f=>K ⟨[(0,(.imm b a 1 c d)),(3,(iv g)),(4,(iv f))],[]⟩
theorem bZ (F:KF R) (b a c d):∀ n,lk b a c d (Ao (lj N F (pz 1348) []) n)=(Kx N (D4 F) b a c d n):=Ev fun n e=>(Ee (Uk N (D4 F) b a c d) e:_)
def o0:=Jl N 125 [] TD (fun
 | [(.imm b a 1 c d)],[]=>some fun _ k=>Yp N b a c d (D4 k)
 | _,_=>none) fun _ _=>by split;intro R F;exact(Ee (GF N (D4 F) · _ _ _ _) ((lW ..).trans (bZ ..)):_).trans (PD ..).symm;trivial
def Mz (r0:Bool→O R) (c:Int) (a:LA) (b:Nat) (i d:Bool) (f:LA) (g:Nat) (j h:Bool) (k0:Nat→Int→LA→O R) (m:Nat) (l:Int) (o:LA):O R :=
 (cond (decide (l<(b:Int))) (GC N f g false h l fun r=>cond (!r) (cond (Aj l b) (cond (ble 2 ((a.drop ((l.toNat)*2)).length)) (cond ((!d)||(Ax ((a.drop ((l.toNat)*2)).take 2))) (cond ((beq (((a.drop ((l.toNat)*2)).take 2).length) 2)&&(ble 2 2)) (cond ((ble (m+1) 140737488355328)&&(ble ((m+1)*16) 140737488355328)) (k0 (m+1) (wrap .i64 (l+1)) ((o.take (m*2))++((setCells [(.int .i64 0),(.int .i64 0)] 0 ((a.drop ((l.toNat)*2)).take 2)).take 2))) none) none) none) none) none) (k0 m (wrap .i64 (l+1)) o)) (Qy N c (o.take (m*2)) m false true fun p s=>Yp N (s.take (p*1)) p false true fun t=>Qy N c a b false d fun q u=>Yp N (u.take (q*1)) q false true fun v=>r0 (decide (t>v))))
def Fm (r0:Bool→O R) (c:Int) (a:LA) (b:Nat) (i d:Bool) (f:LA) (g:Nat) (j h:Bool):Nat→Nat→Int→LA→O R
 | 0,_,_,_=>none
 | n+1,m,l,o=>Mz N r0 c a b i d f g j h (Fm r0 c a b i d f g j h n) m l o
def Rv (N:Nat) (r0:Bool→O R) (q0:Nat→Int→LA→O R) (c:Int) (a:LA) (b:Nat) (i d:Bool) (f:LA) (g:Nat) (j h:Bool):O R :=
 (q0 0 0 [])
def Ps:=(At fun N c a b i d f g j h r0=>Rv (R:=R) N r0 (Fm N r0 c a b i d f g j h N) c a b i d f g j h).1
theorem BB (c a b i d f g j h r0):(@Ps R N c a b i d f g j h r0)=(Rv N r0 (Fm N r0 c a b i d f g j h N) c a b i d f g j h):=by rw[Ps,(At _).2]
def D_:Hints:={ H:=(hK 2 (hS (hK 1 (hS (hP [0,1,2,7,8] hL) hL)) hL)),nils:=[(7,2)] }
def IK:EZ:=[WM N,i7 N,o0 N]
def WP (F:KF R):=Tj Tryz.f83 D_ (IK N) [] N F
def WQ (c:Int) (a:LA) (b:Nat) (i d:Bool) (f:LA) (g:Nat) (j h:Bool) (K:St→O R):=fun m l o=>K ⟨[(0,(iv c)),(1,(.imm a b 2 i d)),(2,(.imm f g 1 j h)),(7,(.own 300000 0 m)),(8,(iv l))],(hq [(bQ 2 o)])⟩
theorem OB (F:KF R) (c a b i d f g j h):∀ n,WQ c a b i d f g j h (Ao (WP N F (pz 1348) []) n)=(Fm N (B8 F) c a b i d f g j h n):=Ev fun n e=>(Ee (Mz N (B8 F) c a b i d f g j h) e:_)
def b7:=Jl N 83 (IK N) D_ (fun
 | [(.int .i64 c),(.imm a b 2 i d),(.imm f g 1 j h)],[]=>some fun _ k=>Ps N c a b i d f g j h (B8 k)
 | _,_=>none) fun _ _=>by split;intro R F;exact(Ee (Rv N (B8 F) · _ _ _ _ _ _ _ _ _) ((lW ..).trans (OB ..)):_).trans (BB ..).symm;trivial
end
end Gx
namespace Gx.Cf
open Go Go.Proofs
section
variable {R:Type}
def Qo (n N:Nat):Prop:=n<N∧n<4611686018427387904
theorem Ez {j:Nat} (h:j<4611686018427387904):wrap .i64 ((j:Int)+1)=((j+1:Nat):Int):=by rw[Vd _ (by omega)];omega
theorem Zg {l:List Int} {j:Nat} (h:j<l.length) {f:Int→O R}:Av .i64 (drop ((Int.toNat (j:Int))*1) (Az l)) f=f l[j]:=by
 rw[Ad2,Aeh,fG h]
theorem Fn {j n:Nat} (h:j<n):decide ((j:Int)<(n:Int))=true:=by simp;omega
theorem F9 {j n:Nat} (h:n≤j):decide ((j:Int)<(n:Int))=false:=by simp;omega
theorem Ka {α:Type} {l:List α} {j:Nat} (h:j<l.length):l.drop j=l[j]::l.drop (j+1):=Afe h
theorem O8 {α:Type} {l:List α} {j:Nat} (h:l.length≤j):l.drop j=[]:=Agx h
theorem EA {N:Nat} {lo hi:Int} {l:List Int} {t o:Bool} {K:Bool→O R} (hs:l.length<4611686018427387904):∀ (m j fuel:Nat),j+m=l.length→m<fuel →
  Hk N K lo hi (Az l) l.length t o fuel (j:Int)=K ((l.drop j).all (Fa lo hi))
 | 0,j,fuel+1,f,_=>by
  rw[Hk];unfold P9
  rw[F9 (by omega),cf,O8 (by omega)];rfl
 | m+1,j,fuel+1,f,n=>by
  rw[Hk];unfold P9
  have h:j<l.length:=by omega
  rw[Fn h,ct,Ab h,ct,Zg h,ct,Zg h,Ez (by omega),EA hs m (j+1) fuel (by omega) (by omega),Ka h,Aek]
  unfold Fa
  by_cases d:l[j]<lo
  ·have:¬ lo≤l[j]:=by omega
   simp[d,this]
  ·have:lo≤l[j]:=by omega
   by_cases e:l[j]>hi
   ·have:¬ l[j]≤hi:=by omega
    simp[d,e,this]
   ·have k:l[j]≤hi:=by omega
    simp[d,e,this,k]
theorem Hb {N:Nat} {lo hi:Int} {l:List Int} {n:Nat} {t o:Bool} {K:Bool→O R} (hn:n=l.length) (hs:Qo l.length N):Aq N lo hi (Az l) n t o K=K (l.all (Fa lo hi)):=by
 subst hn
 rw[IH];unfold Xj
 have:=EA (R:=R) (N:=N) (lo:=lo) (hi:=hi) (t:=t) (o:=o) (K:=K) hs.2 l.length 0 N (by omega) hs.1
 simpa using this
theorem Dz {N:Nat} {lo hi a:Int} {t o:Bool} {K:Bool→O R} (hN:8≤N):Aq N lo hi [.int .i64 a] 1 t o K=K (Fa lo hi a):=by
 have:=Hb (R:=R) (N:=N) (lo:=lo) (hi:=hi) (l:=[a]) (t:=t) (o:=o) (K:=K) rfl ⟨by simp;omega,by simp⟩
 simpa[Az] using this
theorem b8 {N:Nat} {lo hi a b:Int} {t o:Bool} {K:Bool→O R} (hN:8≤N):Aq N lo hi [.int .i64 a,.int .i64 b] 2 t o K=K (Fa lo hi a&&Fa lo hi b):=by
 have:=Hb (R:=R) (N:=N) (lo:=lo) (hi:=hi) (l:=[a,b]) (t:=t) (o:=o) (K:=K) rfl ⟨by simp;omega,by simp⟩
 simpa[Az] using this
def iJ:List Int→Bool
 | a::b::r=>decide (a<b)&&iJ (b::r)
 | _=>true
theorem EB (a b:Int) (r:List Int):iJ (a::b::r)=(decide (a<b)&&iJ (b::r)):=by rw[iJ]
theorem TE (a:Int):iJ [a]=true:=by rw[iJ];intros;simp_all
theorem lm:iJ []=true:=by rw[iJ];intros;simp_all
theorem fV {j:Nat} (h:j+1<4611686018427387904):wrap .i64 (((j+1:Nat):Int) - 1)=(j:Int):=by rw[Vd _ (by omega)];omega
theorem IL {N:Nat} {l:List Int} {t o:Bool} {K:Bool→O R} (hs:l.length<4611686018427387904):∀ (m j fuel:Nat),j+1+m=l.length→m<fuel →
  G7 N K (Az l) l.length t o fuel ((j+1:Nat):Int)=K (iJ (l.drop j))
 | 0,j,fuel+1,e,_=>by
  rw[G7];unfold Nk
  rw[F9 (by omega),cf,Ka (by omega),O8 (by omega),TE]
 | m+1,j,fuel+1,e,f=>by
  rw[G7];unfold Nk
  have h:j+1<l.length:=by omega
  have h':j<l.length:=by omega
  rw[Fn h,ct,Ab h,ct,Zg h,fV (by omega),Ab h',ct,Zg h',Ez (by omega),IL hs m (j+1) fuel (by omega) (by omega),Ka h',Ka h,EB]
  by_cases d:l[j+1]≤l[j]
  ·have:¬ l[j]<l[j+1]:=by omega
   simp[d,this]
  ·have:l[j]<l[j+1]:=by omega
   simp[d,this]
theorem We {N:Nat} {l:List Int} {n:Nat} {t o:Bool} {K:Bool→O R} (hn:n=l.length) (hs:Qo l.length N):Ql N (Az l) n t o K=K (iJ l):=by
 subst hn
 rw[KW];unfold AZ
 rcases l with _ | ⟨a,r⟩
 ·have hN:=hs.1
  rcases N with _ | N
  ·simp at hN
  ·rw[G7];unfold Nk;simp[lm]
 ·have:=IL (R:=R) (N:=N) (t:=t) (o:=o) (K:=K) hs.2 r.length 0 N (by simp;omega) (by have:=hs.1;simp at this;omega)
  simpa using this
theorem TF {N:Nat} {v:Int} {l:List Int} {t o:Bool} {K:Bool→O R} (hs:l.length<4611686018427387904):∀ (m j fuel:Nat),j+m=l.length→m<fuel →
  Qn N K (Az l) l.length t o v fuel (j:Int)=K ((l.drop j).contains v)
 | 0,j,fuel+1,d,_=>by
  rw[Qn];unfold A_
  rw[F9 (by omega),cf,O8 (by omega)];rfl
 | m+1,j,fuel+1,d,e=>by
  rw[Qn];unfold A_
  have h:j<l.length:=by omega
  rw[Fn h,ct,Ab h,ct,Zg h,Ez (by omega),TF hs m (j+1) fuel (by omega) (by omega),Ka h,Agk,BEq.comm]
  cases f:v==l[j]<;>simp
theorem GG {N:Nat} {v:Int} {l:List Int} {n:Nat} {t o:Bool} {K:Bool→O R} (hn:n=l.length) (hs:Qo l.length N):GC N (Az l) n t o v K=K (l.contains v):=by
 subst hn
 rw[ZM];unfold SZ
 have:=TF (R:=R) (N:=N) (v:=v) (t:=t) (o:=o) (K:=K) hs.2 l.length 0 N (by omega) hs.1
 simpa using this
def H1:I6→Int
 | none=>0
 | some x=>x.2.1
theorem Dc {c:CaseD} {f:Int→O R}:Av .i64 c.av f=f c.hours:=by simp[CaseD.av,Cp]
theorem Tp {c:CaseD} {f:LA→Nat→O R}:A6 1 (drop 1 c.av) f=f (Az c.reserve.l) c.reserve.l.length:=by simp[CaseD.av,Bn,A4]
theorem Bi {c:CaseD} {f:LA→Nat→O R}:A6 3 (drop 2 c.av) f=f (c.buses.l.flatMap BusD.av) c.buses.l.length:=by simp[CaseD.av,Bn]
theorem C1 {c:CaseD} {f:LA→Nat→O R}:A6 12 (drop 3 c.av) f=f (c.lines.l.flatMap LineD.av) c.lines.l.length:=by simp[CaseD.av,Bn]
theorem Dd {c:CaseD} {f:LA→Nat→O R}:A6 22 (drop 4 c.av) f=f (c.units.l.flatMap UnitD.av) c.units.l.length:=by simp[CaseD.av,Bn]
theorem Eb {c:CaseD} {f:LA→Nat→O R}:A6 9 (drop 5 c.av) f=f (c.stores.l.flatMap StoreD.av) c.stores.l.length:=by simp[CaseD.av,Bn]
theorem Gy {c:CaseD} {f:LA→Nat→O R}:A6 5 (drop 6 c.av) f=f (c.ties.l.flatMap TieD.av) c.ties.l.length:=by simp[CaseD.av,Bn]
theorem Fb {c:CaseD} {f:LA→Nat→O R}:A6 4 (drop 7 c.av) f=f (c.outs.l.flatMap OutD.av) c.outs.l.length:=by simp[CaseD.av,Bn]
def C4 (p:I6):LA:=vV p 0 0
theorem Ad {N:Nat} {p:I6} {k i f e:Int} {ok:Bool} {K:LA→O R} (j:e≠0) :
  Aa N ok k i f e (C4 p) K=K (C4 (nd p ok (k,i,f) ⟨e,j⟩)):=by
 rw[Ve];unfold Ms Jn
 rcases p with _ | ⟨⟨a,b,m⟩,l,d⟩
 ·cases ok<;>simp[C4,vV,Cp,nd,Ew,Gt]
 ·have:(l==0)=false:=by simpa using d
  simp[C4,vV,Cp,nd,this]
def jf (h:Int) (l:List Int) (lo hi:Int) (w:Int×Int×Int) (p:I6):I6:=nd (nd p ((l.length:Int)==h) w ⟨4,by decide⟩) (l.all (Fa lo hi)) w ⟨3,by decide⟩
def fW (h:Int) (l:List Int) (w:Int×Int×Int) (p:I6):I6:=nd (nd p (l.all (Fa 0 (wrap .i64 (h - 1)))) w ⟨3,by decide⟩) (iJ l) w ⟨11,by decide⟩
theorem Ec {N:Nat} {c:CaseD} {p:I6} {k i f lo hi:Int} {l:List Int} {n:Nat} {t o o1:Bool} {K:LA→O R} (hn:n=l.length) (hs:Qo l.length N) :
  C6 N c.av o1 (Az l) n t o lo hi k i f (C4 p) K=K (C4 (jf c.hours l lo hi (k,i,f) p)):=by
 rw[Rq];unfold Pc
 rw[Dc,Ad (by decide),Hb hn hs,Ad (by decide),hn];rfl
theorem Sx {N:Nat} {c:CaseD} {p:I6} {k i f:Int} {l:List Int} {n:Nat} {t o o1:Bool} {K:LA→O R} (hn:n=l.length) (hs:Qo l.length N) :
  J6 N c.av o1 (Az l) n t o k i f (C4 p) K=K (C4 (fW c.hours l (k,i,f) p)):=by
 rw[Vh];unfold Rr
 rw[Dc,Hb hn hs,Ad (by decide),We hn hs,Ad (by decide)];rfl
def ZO (c:CaseD) (b:Int):Bool:=decide (0≤b)&&decide (b<(c.buses.l.length:Int))
theorem rG (n:Nat) (b:Int) (h:n<4611686018427387904):Fa 0 (wrap .i64 ((n:Int) - 1)) b=(decide (0≤b)&&decide (b<(n:Int))):=by
 rw[Vd _ (by omega),Fa]
 congr 1
 simp;omega
theorem Ih {N:Nat} {c:CaseD} {p:I6} {k i f b:Int} {o1:Bool} {K:LA→O R} (hN:8≤N) (d:c.buses.l.length<4611686018427387904) :
  Ey N c.av o1 b k i f (C4 p) K=K (C4 (nd p (ZO c b) (k,i,f) ⟨12,by decide⟩)):=by
 rw[Wu];unfold Tn
 rw[Bi,Dz hN,rG _ _ d,Ad (by decide)];rfl
def No (f:FracD):Bool:=Fa 1 1048576 f.den&&Fa (-1048576) 1048576 f.num
theorem BC {N:Nat} {f:FracD} {o:Bool} {K:Bool→O R} (hN:8≤N):Ku N [.int .i64 f.num,.int .i64 f.den] o K=K (No f):=by
 rw[DU];unfold CK
 simp only[Afm,Aeg,Cp,Dz hN]
 unfold No
 cases Fa 1 1048576 f.den<;>simp
def WR (c:UInt8):Bool:=decide (97≤c.toNat)&&decide (c.toNat≤122)
def vX (c:UInt8):Bool:=WR c||(decide (48≤c.toNat)&&decide (c.toNat≤57))||decide (c.toNat=95)
def Df (s:Lu):Bool:=decide (1≤s.length)&&(decide (s.length≤16)&&(!(s==[99,111,114,114,101,99,116,105,118,101])&&(WR (s.getD 0 0)&&s.all vX)))
theorem lp {s:Lu} {j:Nat} (h:j<s.length):List.getD s (Int.toNat (j:Int)) 0=s[j]:=by
 rw[Ad2,Aee,Ad1 h];rfl
theorem PE {N:Nat} {s:Lu} {K:Bool→O R} (hs:s.length<4611686018427387904):∀ (m j fuel:Nat),j+m=s.length→m<fuel →
  Nj N K s fuel (j:Int)=K ((decide (j≠0)||(decide (s.length=0)||WR (s.getD 0 0)))&&(s.drop j).all vX)
 | 0,j,fuel+1,n,_=>by
  rw[Nj];unfold Xk
  rw[F9 (by omega),cf,O8 (by omega)]
  by_cases h:j=0
  ·have:s.length=0:=by omega
   simp[this]
  ·simp[h]
 | m+1,j,fuel+1,n,y=>by
  rw[Nj];unfold Xk AX
  have h:j<s.length:=by omega
  rw[Fn h,ct,Ab h,ct,Ez (by omega),PE hs m (j+1) fuel (by omega) (by omega),Ka h,Aek,lp h]
  have q:j=0→s.getD 0 0=s[j]:=fun e=>by
   have:=lp h;rw[←this,e];rfl
  unfold vX WR
  by_cases d:j=0
  ·rw[q d]
   have f:decide (s.length=0)=false:=decide_eq_false (by omega)
   have e:((j:Int)==0)=true:=by simp;omega
   simp only[ct,d,ne_eq,not_true_eq_false,decide_false,Aew,f,Aec,show decide (¬ (1=0))=true by decide,Agg,Aex]
   simp only[d] at *
   generalize s[0].toNat=v
   by_cases k:97≤v<;>by_cases l:v≤122<;>simp[k,l,show((97:Int)≤v)↔97≤v by omega,show((v:Int)≤122)↔v≤122 by omega]
  ·have e:((j:Int)==0)=false:=by simp;omega
   simp only[ct,e,d,ne_eq,not_false_eq_true,decide_true,Agg,Aex,show decide (¬ (j+1=0))=true by simp]
   generalize s[j].toNat=v
   generalize (s.drop (j+1)).all _=r
   by_cases k:97≤v<;>by_cases l:v≤122<;>by_cases t:48≤v<;>by_cases u:v≤57<;>by_cases x:v=95 <;>
    simp[k,l,t,u,show((97:Int)≤v)↔97≤v by omega,show((v:Int)≤122)↔v≤122 by omega,show((v:Int)<48)↔¬ 48≤v by omega,show((57:Int)<v)↔¬ v≤57 by omega,show((v:Int) != 95)=!decide (v=95) by (by_cases v=95<;>simp_all<;>omega),x]
theorem PF {N:Nat} {s:Lu} {K:Bool→O R} (hN:64≤N):DT N s K=K (Df s):=by
 rw[SW];unfold NC AY FW
 unfold Df
 by_cases d:1≤s.length
 ·by_cases e:s.length≤16
  ·have f:=PE (R:=R) (N:=N) (s:=s) (K:=K) (by omega) s.length 0 N (by omega) (by omega)
   simp only[Aeg,Af9] at f
   rw[f]
   simp only[d,e,show(decide ((s.length:Int)<1))=false by simp;omega,show(decide ((s.length:Int)>16))=false by simp;omega,decide_true,cond_true,cond_false,beq_self_eq_true]
   have:s.length≠0:=by omega
   cases s==[99,111,114,114,101,99,116,105,118,101]<;>simp[this]
  ·simp[d,e,show((s.length:Int)<1)↔¬ 1≤s.length by omega,show((16:Int)<s.length)↔¬ s.length≤16 by omega]
 ·simp[d,show((s.length:Int)<1)↔¬ 1≤s.length by omega]
end
end Gx.Cf
namespace Gx.Ct
open Go Go.Proofs Gx.Cf
abbrev A0:=List UInt8
def KZ:Lu:=[99,97,115,101]
def Mh:Lu:=[114,101,115,101,114,118,101]
def o7:Lu:=[98,117,115]
def Pu:Lu:=[100,101,109,97,110,100]
def lq:Lu:=[115,104,101,100]
def lw:Lu:=[108,105,110,101]
def x9:Lu:=[120]
def dM:Lu:=[115,104,105,102,116]
def dN:Lu:=[108,105,109,105,116]
def GH:Lu:=[97,119,97,121]
def fX:Lu:=[117,110,105,116]
def PG:Lu:=[109,105,110]
def jg:Lu:=[109,97,120]
def Tq:Lu:=[115,101,103,109,101,110,116,115]
def K_:Lu:=[110,111,108,111,97,100]
def fY:Lu:=[114,97,109,112]
def TG:Lu:=[115,116,97,114,116]
def fZ:Lu:=[115,116,111,112]
def TH:Lu:=[116,105,109,101,115]
def f4:Lu:=[99,111,115,116]
def GI:Lu:=[115,116,97,116,101]
def sf:Lu:=[111,102,102]
def GJ:Lu:=[115,116,97,114,116,105,110,103]
def wo:Lu:=[111,110]
def dO:Lu:=[115,116,111,114,101]
def Np:Lu:=[99,97,112,97,99,105,116,121]
def dP:Lu:=[108,101,118,101,108]
def lx:Lu:=[114,97,116,101]
def Xn:Lu:=[101,102,102,105,99,105,101,110,99,121]
def o8:Lu:=[116,105,101]
def Rw:Lu:=[105,109,112,111,114,116]
def K':Lu:=[101,120,112,111,114,116]
def TI:Lu:=[112,114,105,99,101]
def Zh:Lu:=[111,117,116,97,103,101]
def Rx:Lu:=[108,105,110,101,115]
def Ii:Lu:=[99,111,114,114,101,99,116,105,118,101]
def tx (z:Int):A0:=Lib.itoa z
def M0 (f:FracD):A0:=tx f.num++47::tx f.den
def Bb (l:List A0) (i:Int):A0:=l.getD i.toNat []
def Bh (c:CaseD):List A0:=c.buses.l.map BusD.name
def Cl (c:CaseD):List A0:=c.lines.l.map LineD.name
def Bt (c:CaseD):List A0:=c.units.l.map UnitD.name
def Tr (c:CaseD):List A0:=c.stores.l.map StoreD.name
def WS (c:CaseD):List A0:=c.ties.l.map TieD.name
def WT (c:CaseD):List A0:=c.outs.l.map OutD.name
def PH (c:CaseD):List A0:=[KZ,tx c.hours,Mh]++c.reserve.l.map tx
def WU (b:BusD):List A0:=[o7,b.name,Pu]++(b.demand.l.map tx++[lq,tx b.shed])
def Ry (B:List A0) (l:LineD):List A0:=[lw,l.name,Bb B l.fr,Bb B l.tl,x9,M0 l.re,dM,M0 l.smin,M0 l.smax,dN,tx l.limit,tx l.emer,GH]++l.away.l.map tx
def WV (s:SegD):List A0:=[tx s.width,tx s.price]
def Ts (s:Int):List A0:=if s=0 then [sf] else if s=1 then [GJ] else if s=2 then [wo] else []
def O9 (B:List A0) (u:UnitD):List A0:=[fX,u.name,Bb B u.bus,PG,tx u.min,jg,tx u.max,Tq]++(u.segs.l.flatMap WV++([K_,tx u.noLoad,fY,tx u.rampUp,tx u.rampDown,TG,tx u.startRamp,fZ,tx u.stopRamp,TH,tx u.upTime,tx u.downTime,tx u.startTime,f4,tx u.hotCost,tx u.coldCost,tx u.hotHours,Mh,tx u.reserve,tx u.reservePrice,GH]++(u.away.l.map tx++(GI::(Ts u.state++[tx u.hours,tx u.output])))))
def H3 (B:List A0) (s:StoreD):List A0:=[dO,s.name,Bb B s.bus,Np,tx s.capacity,dP,tx s.initial,tx s.final,lx,tx s.charge,tx s.discharge,Xn,M0 s.eff]
def Wf (B:List A0) (t:TieD):List A0:=[o8,t.name,Bb B t.bus,Rw]++(t.imp.l.map tx++(K'::(t.exp.l.map tx++(TI::t.price.l.map tx))))
def Vl (U:List A0) (m:MoveD):List A0:=[Bb U m.unit,tx m.up,tx m.down]
def Qp (L U:List A0) (o:OutD):List A0:=[Zh,o.name,Rx]++(o.lines.l.map (Bb L)++(cond o.corr [Ii] []++o.moves.l.flatMap (Vl U)))
def f6 (c:CaseD):List (List A0):=PH c::(c.buses.l.map WU++(c.lines.l.map (Ry (Bh c))++(c.units.l.map (O9 (Bh c))++(c.stores.l.map (H3 (Bh c))++(c.ties.l.map (Wf (Bh c))++c.outs.l.map (Qp (Cl c) (Bt c)))))))
def jh:List A0→Lu
 | []=>[]
 | [w]=>w
 | w::v::r=>w++32::jh (v::r)
def D3 (ws:List A0):Lu:=jh ws++[10]
def Pa (c:CaseD):Lu:=(f6 c).flatMap D3
theorem I8 (w:A0):∀ l:List A0,jh (w::l)=w++l.flatMap (32::·)
 | []=>by simp[jh]
 | v::r=>by rw[jh,I8 v r];simp
def Wg (v:Int):Bool:=decide (v< -1073741824)||decide (v>1073741824)
def Gh (f:FracD):Bool:=Wg f.num||(decide (f.den<1)||decide (f.den>1073741824))
def Ap (l:List Int):Bool:=l.any Wg
def LB (b:BusD):Bool:=Ap b.demand.l||Wg b.shed
def Rz (l:LineD):Bool:=Gh l.re||(Gh l.smin||(Gh l.smax||(Ap [l.limit,l.emer]||Ap l.away.l)))
def GK (s:SegD):Bool:=Ap [s.width,s.price]
def M1 (u:UnitD):Bool:=Ap [u.min,u.max]||(u.segs.l.any GK||(Ap [u.noLoad,u.rampUp,u.rampDown,u.startRamp,u.stopRamp,u.upTime,u.downTime,u.startTime,u.hotCost,u.coldCost,u.hotHours,u.reserve,u.reservePrice]||(Ap u.away.l||Ap [u.hours,u.output])))
def Ij (s:StoreD):Bool:=Ap [s.capacity,s.initial,s.final,s.charge,s.discharge]||Gh s.eff
def Ph (t:TieD):Bool:=Ap t.imp.l||(Ap t.exp.l||Ap t.price.l)
def GL (m:MoveD):Bool:=Ap [m.up,m.down]
def Gz (o:OutD):Bool:=o.moves.l.any GL
def G0 (c:CaseD):Bool:=Wg c.hours||(Ap c.reserve.l||(c.buses.l.any LB||(c.lines.l.any Rz||(c.units.l.any M1||(c.stores.l.any Ij||(c.ties.l.any Ph||c.outs.l.any Gz))))))
def Ff (c:CaseD):Bool:=decide (c.buses.l.length≤32)&&(decide (c.lines.l.length≤64)&&(decide (c.units.l.length≤16)&&(decide (c.stores.l.length≤8)&&(decide (c.ties.l.length≤8)&&decide (c.outs.l.length≤64)))))
def AN (c:CaseD) (l:Sl Int):Bool:=decide ((l.l.length:Int)=c.hours)
def Xo (c:CaseD):Bool:=AN c c.reserve&&(c.buses.l.all (fun b=>AN c b.demand)&&c.ties.l.all fun t=>AN c t.imp&&(AN c t.exp&&AN c t.price))
def B5 (c:CaseD):List (List A0):=[Bh c,Cl c,Bt c,Tr c,WS c,WT c]
def Dm:List A0→List A0→Bool
 | _,[]=>false
 | seen,w::r=>seen.contains w||Dm (seen++[w]) r
def I9 (c:CaseD):Int:=if (B5 c).all (fun l=>l.all Df) then (if (B5 c).any (Dm []) then 10 else 0) else 9
def Dg (i:Int) (n:Nat):Bool:=decide (0≤i)&&decide (i<(n:Int))
def Mn (c:CaseD):Bool :=
 c.lines.l.all (fun l=>Dg l.fr c.buses.l.length&&Dg l.tl c.buses.l.length)&&(c.units.l.all (fun u=>Dg u.bus c.buses.l.length&&Dg u.state 3)&&(c.stores.l.all (fun s=>Dg s.bus c.buses.l.length)&&(c.ties.l.all (fun t=>Dg t.bus c.buses.l.length) &&
  c.outs.l.all fun o=>o.lines.l.all (fun l=>Dg l c.lines.l.length)&&o.moves.l.all fun m=>Dg m.unit c.units.l.length)))
def Fc (c:CaseD):Bool:=c.outs.l.all fun o=>o.corr||o.moves.l.isEmpty
def Tt (c:CaseD):Int :=
 if Ff c=false then 8 else if c.hours<1∨c.hours>24 then 3 else if Xo c=false then 4 else if I9 c≠0 then I9 c else if Mn c=false then 12 else if Fc c=false then 16 else if G0 c then 3 else if (Pa c).length>1048576 then 8 else 0
def o9 (c:CaseD):Lu:=if Tt c=0 then Pa c else []
def uA (t:Lu):Lu:=if t=[]∨t.getLast?=some 10 then t else t++[32]
def EC (t:Lu) (s:A0):Lu:=uA t++s
def Cm (t:Lu) (s:A0):Lu:=if t.length>1048576 then t else EC t s
def Wh (t:Lu):Lu:=if t.length>1048576 then t else t++[10]
def Rel (t T:Lu):Prop:=t=T∨(t.length>1048576∧T.length>1048576)
theorem vY (t:Lu):t.length≤(uA t).length:=by unfold uA;split<;>simp
theorem Rel.word {t T:Lu} (h:Rel t T) (s:A0):Rel (Cm t s) (EC T s):=by
 have e:T.length≤(EC T s).length:=by unfold EC;rw[Adw];have:=vY T;omega
 unfold Cm
 rcases h with rfl | ⟨d,f⟩
 ·split
  ·exact .inr ⟨by omega,by omega⟩
  ·exact .inl rfl
 ·rw[if_pos d];exact .inr ⟨d,by omega⟩
theorem Rel.fin {t T:Lu} (h:Rel t T):Rel (Wh t) (T++[10]):=by
 unfold Wh
 rcases h with rfl | ⟨d,e⟩
 ·split
  ·exact .inr ⟨by omega,by simp;omega⟩
  ·exact .inl rfl
 ·rw[if_pos d];exact .inr ⟨d,by simp;omega⟩
theorem Rel.words {t T:Lu} (h:Rel t T):∀ ws:List A0,Rel (ws.foldl Cm t) (ws.foldl EC T)
 | []=>h
 | w::r=>(h.word w).words r
def i8 (w:A0):Prop:=w≠[]∧w.getLast?≠some 10
theorem Vm {T w:Lu} (h:w≠[]):(T++w).getLast?=w.getLast?:=by
 rw[Ag0]
 cases d:w.getLast? with
 | none=>rw[List.getLast?_eq_none_iff] at d;exact absurd d h
 | some b=>rfl
theorem vZ {T:Lu} (d:T≠[]) (e:T.getLast?≠some 10) (w:A0):EC T w=T++32::w:=by
 unfold EC uA;rw[if_neg (by simp[d,e])];simp
theorem ji:∀ (ws:List A0) {T:Lu},T≠[]→T.getLast?≠some 10→(∀ w ∈ ws,i8 w)→ws.foldl EC T=T++ws.flatMap (32::·)
 | [],T,_,_,_=>by simp
 | w::r,T,f,j,h=>by
  have d:=h w (by simp)
  have e:T++32::w=(T++[32])++w:=by simp
  rw[Aeq,vZ f j,ji r (by simp) (by rw[e,Vm d.1];exact d.2) (fun x hx=>h x (by simp[hx])),Aen]
  simp
def dQ (T:Lu):Prop:=T=[]∨T.getLast?=some 10
theorem yr {T:Lu} (hT:dQ T) {w:A0} {ws:List A0} (d:i8 w) (h:∀ x ∈ ws,i8 x):(w::ws).foldl EC T++[10]=T++D3 (w::ws):=by
 have e:EC T w=T++w:=by unfold EC uA;rw[if_pos (show T=[]∨T.getLast?=some 10 from hT)]
 rw[Aeq,e,ji ws (by simp[d.1]) (by rw[Vm d.1];exact d.2) h,D3,I8]
 simp
theorem rH {T:Lu} (ws:List A0):dQ (T++D3 ws):=.inr (by rw[D3,←Aea,Vm (by simp)];rfl)
theorem Rel.line {t T:Lu} (h:Rel t T) (hT:dQ T) {w:A0} {ws:List A0} (d:i8 w) (hs:∀ x ∈ ws,i8 x):Rel (Wh ((w::ws).foldl Cm t)) (T++D3 (w::ws)):=by
 rw[←yr hT d hs];exact(h.words (w::ws)).fin
end Gx.Ct
namespace Gx.Ct
open Go Go.Proofs Gx.Cf
theorem o_ {s:A0} (h:Df s=true):i8 s:=by
 unfold Df at h
 simp only[Ad3,decide_eq_true_eq] at h
 obtain⟨d,_,_,_,f⟩:=h
 refine⟨fun e=>by rw[e] at d;simp at d,fun e=>?_⟩
 have j:=List.mem_of_getLast? e
 have:=Ae3.1 f _ j
 revert this;decide
theorem si (a:A0) {b:A0} (h:i8 b):i8 (a++b):=⟨by simp[h.1],by rw[Vm h.1];exact h.2⟩
structure Passed (c:CaseD):Prop where
 txt:∀ z,i8 (tx z)
 names:∀ l ∈ B5 c,∀ s ∈ l,Df s=true
 known:Mn c=true
section
variable {c:CaseD} (h:Passed c)
include h
theorem Passed.nm {l:List A0} (e:l ∈ B5 c) {i:Int} (hi:Dg i l.length=true):i8 (Bb l i):=by
 unfold Dg at hi
 simp only[Ad3,decide_eq_true_eq] at hi
 have d:i.toNat<l.length:=by omega
 unfold Bb
 rw[Aee,Ad1 d]
 exact o_ (h.names l e _ (Ad9 d))
theorem Passed.own {l:List A0} (d:l ∈ B5 c) {s:A0} (hs:s ∈ l):i8 s:=o_ (h.names l d s hs)
theorem Passed.txs (l:List Int):∀ x ∈ l.map tx,i8 x:=fun x hx=>by
 obtain⟨z,_,rfl⟩:=Aef.1 hx;exact h.txt z
theorem Passed.frac (f:FracD):i8 (M0 f):=si (tx f.num) (b:=47::tx f.den) (si [47] (h.txt f.den))
def rI (ws:List A0):Prop:=∃ w r,ws=w::r∧i8 w∧∀ x ∈ r,i8 x
omit h in
theorem Qq:∀ {ws:List A0},ws≠[]→(∀ x ∈ ws,i8 x)→rI ws
 | [],h,_=>absurd rfl h
 | w::r,_,hs=>⟨w,r,rfl,hs w (by simp),fun x hx=>hs x (by simp[hx])⟩
omit h in
theorem kw (w:A0) (hw:decide (w≠[])&&decide (w.getLast?≠some 10)):i8 w:=by simpa[i8] using hw
theorem Passed.lines:∀ ws ∈ f6 c,rI ws:=by
 have f:=h.known
 unfold Mn at f
 simp only[Ad3,Ae3] at f
 obtain⟨v,k2,y,k4,z⟩:=f
 have hB:Bh c ∈ B5 c:=by simp[B5]
 have hL:Cl c ∈ B5 c:=by simp[B5]
 have hU:Bt c ∈ B5 c:=by simp[B5]
 have hS:Tr c ∈ B5 c:=by simp[B5]
 have hT:WS c ∈ B5 c:=by simp[B5]
 have hO:WT c ∈ B5 c:=by simp[B5]
 have nB:(Bh c).length=c.buses.l.length:=by simp[Bh]
 have nL:(Cl c).length=c.lines.l.length:=by simp[Cl]
 have nU:(Bt c).length=c.units.l.length:=by simp[Bt]
 intro ws d
 unfold f6 at d
 simp only[Ad6,Ad7,Aef] at d
 rcases d with rfl | ⟨b,A,rfl⟩ | ⟨l,e,rfl⟩ | ⟨u,k,rfl⟩ | ⟨s,hs,rfl⟩ | ⟨t,n,rfl⟩ | ⟨o,q,rfl⟩
 ·refine Qq (by simp[PH]) fun x hx=>?_
  unfold PH at hx
  simp only[Ad6,Ad7,Aei,or_false,or_assoc] at hx
  rcases hx with rfl | rfl | rfl | hx
  ·exact kw _ (by decide)
  ·exact h.txt _
  ·exact kw _ (by decide)
  ·exact h.txs _ _ hx
 ·refine Qq (by simp[WU]) fun x hx=>?_
  unfold WU at hx
  simp only[Ad6,Ad7,Aei,or_false,or_assoc] at hx
  rcases hx with rfl | rfl | rfl | hx | rfl | rfl
  ·exact kw _ (by decide)
  ·exact h.own hB (Aef.2 ⟨b,A,rfl⟩)
  ·exact kw _ (by decide)
  ·exact h.txs _ _ hx
  ·exact kw _ (by decide)
  ·exact h.txt _
 ·have hq:=v l e
  refine Qq (by simp[Ry]) fun x hx=>?_
  unfold Ry at hx
  simp only[Ad6,Ad7,Aei,or_false,or_assoc] at hx
  rcases hx with rfl | rfl | rfl | rfl | rfl | rfl | rfl | rfl | rfl | rfl | rfl | rfl | rfl | hx
  ·exact kw _ (by decide)
  ·exact h.own hL (Aef.2 ⟨l,e,rfl⟩)
  ·exact h.nm hB (by rw[nB];exact hq.1)
  ·exact h.nm hB (by rw[nB];exact hq.2)
  ·exact kw _ (by decide)
  ·exact h.frac _
  ·exact kw _ (by decide)
  ·exact h.frac _
  ·exact h.frac _
  ·exact kw _ (by decide)
  ·exact h.txt _
  ·exact h.txt _
  ·exact kw _ (by decide)
  ·exact h.txs _ _ hx
 ·have hq:=k2 u k
  have j:∀ x ∈ Ts u.state,i8 x:=fun x hx=>by
   unfold Ts at hx
   split at hx
   ·rw[Ae6] at hx;subst hx;exact kw _ (by decide)
   ·split at hx
    ·rw[Ae6] at hx;subst hx;exact kw _ (by decide)
    ·split at hx
     ·rw[Ae6] at hx;subst hx;exact kw _ (by decide)
     ·cases hx
  refine Qq (by simp[O9]) fun x hx=>?_
  unfold O9 at hx
  simp only[Ad6,Ad7,Aei,or_false,or_assoc,Agq] at hx
  rcases hx with rfl | rfl | rfl | rfl | rfl | rfl | rfl | rfl | ⟨s,_,hx⟩ | rfl | rfl | rfl | rfl | rfl | rfl | rfl | rfl | rfl | rfl | rfl | rfl | rfl | rfl | rfl | rfl | rfl | rfl | rfl | rfl | rfl | hx | rfl | hx | rfl | rfl
  all_goals first
   | exact h.txt _
   | exact kw _ (by decide)
   | exact h.own hU (Aef.2 ⟨u,k,rfl⟩)
   | exact h.nm hB (by rw[nB];exact hq.1)
   | exact h.txs _ _ hx
   | exact j _ hx
   | skip
  simp only[WV,Ad6,Aei,or_false,or_assoc] at hx
  rcases hx with rfl | rfl<;>exact h.txt _
 ·have hq:=y s hs
  refine Qq (by simp[H3]) fun x hx=>?_
  unfold H3 at hx
  simp only[Ad6,Aei,or_false,or_assoc] at hx
  rcases hx with rfl | rfl | rfl | rfl | rfl | rfl | rfl | rfl | rfl | rfl | rfl | rfl | rfl
  all_goals first
   | exact h.txt _
   | exact kw _ (by decide)
   | exact h.frac _
   | exact h.own hS (Aef.2 ⟨s,hs,rfl⟩)
   | exact h.nm hB (by rw[nB];exact hq)
 ·have hq:=k4 t n
  refine Qq (by simp[Wf]) fun x hx=>?_
  unfold Wf at hx
  simp only[Ad6,Ad7,Aei,or_false,or_assoc] at hx
  rcases hx with rfl | rfl | rfl | rfl | hx | rfl | hx | rfl | hx
  all_goals first
   | exact h.txs _ _ hx
   | exact kw _ (by decide)
   | exact h.own hT (Aef.2 ⟨t,n,rfl⟩)
   | exact h.nm hB (by rw[nB];exact hq)
 ·have hq:=z o q
  refine Qq (by simp[Qp]) fun x hx=>?_
  unfold Qp at hx
  simp only[Ad6,Ad7,Aei,or_false,or_assoc,Aef,Agq] at hx
  rcases hx with rfl | rfl | rfl | ⟨l,e,rfl⟩ | hx | ⟨m,B,hx⟩
  ·exact kw _ (by decide)
  ·exact h.own hO (Aef.2 ⟨o,q,rfl⟩)
  ·exact kw _ (by decide)
  ·exact h.nm hL (by rw[nL];exact hq.1 l e)
  ·cases C:o.corr<;>rw[C] at hx
   ·cases hx
   ·rw[cond_true,Ae6] at hx;subst hx;exact kw _ (by decide)
  ·simp only[Vl,Ad6,Aei,or_false,or_assoc] at hx
   rcases hx with rfl | rfl | rfl
   ·exact h.nm hU (by rw[nU];exact hq.2 m B)
   ·exact h.txt _
   ·exact h.txt _
end
def Ho (t:Lu) (ls:List (List A0)):Lu:=ls.foldl (fun t ws=>Wh (ws.foldl Cm t)) t
theorem jj:∀ (ls:List (List A0)) {t T:Lu},Rel t T→dQ T→(∀ ws ∈ ls,rI ws)→Rel (Ho t ls) (T++ls.flatMap D3)
 | [],t,T,h,_,_=>by rw[Aft,Aej];exact h
 | ws::r,t,T,h,d,hs=>by
  obtain⟨w,e,rfl,f,j⟩:=hs ws (by simp)
  have:=jj r (h.line d f j) (rH (w::e)) fun x hx=>hs x (by simp[hx])
  rw[Aea] at this
  rw[Aen]
  exact this
theorem v7 {c:CaseD} (h:Passed c):Rel (Ho [] (f6 c)) (Pa c):=by
 have:=jj (f6 c) (t:=[]) (T:=[]) (.inl rfl) (.inl rfl) h.lines
 exact this
theorem Rel.out {t T:Lu} (h:Rel t T):(1048576<t.length↔1048576<T.length)∧(t.length≤1048576→t=T):=by
 rcases h with rfl | ⟨d,e⟩
 ·exact⟨Iff.rfl,fun _=>rfl⟩
 ·exact⟨⟨fun _=>e,fun _=>d⟩,fun h=>absurd h (by omega)⟩
end Gx.Ct
namespace Gx
def val:List Nat→Nat
 | []=>0
 | x::r=>x+4294967296*val r
def Cw (l:List Nat):Prop:=∀ x ∈ l,x<4294967296
def oa:Nat→Nat→List Nat
 | 0,_=>[]
 | f+1,n=>if n=0 then [] else n%4294967296::oa f (n/4294967296)
def C2 (n:Nat):List Nat:=oa n n
theorem sj:∀ (f n:Nat),n≤f→∀ g,n≤g→oa f n=oa g n
 | 0,n,h,g,_=>by
  have:n=0:=by omega
  subst this;cases g<;>simp[oa]
 | f+1,n,h,g,e=>by
  by_cases d:n=0
  ·subst d;cases g<;>simp[oa]
  ·cases g with
   | zero=>omega
   | succ g=>simp only[oa,d,if_false];rw[sj f _ (by omega) g (by omega)]
theorem Nq:C2 0=[]:=rfl
theorem ND {n:Nat} (h:n≠0):C2 n=n%4294967296::C2 (n/4294967296):=by
 unfold C2
 cases n with
 | zero=>omega
 | succ n=>simp only[oa,h,if_false];rw[sj n _ (by omega) ((n+1)/4294967296) (by omega)]
theorem Dn:∀ n,val (C2 n)=n:=by
 intro n
 induction n using Nat.strongRecOn with
 | _ n d =>
  by_cases h:n=0
  ·subst h;rfl
  ·rw[ND h,val,d _ (by omega)];omega
theorem Bw:∀ n,Cw (C2 n):=by
 intro n
 induction n using Nat.strongRecOn with
 | _ n d =>
  by_cases h:n=0
  ·subst h;intro x hx;simp[Nq] at hx
  ·rw[ND h];intro x hx
   simp at hx
   rcases hx with rfl | hx
   ·omega
   ·exact d _ (by omega) x hx
theorem uB:Cw []:=by intro x hx;simp at hx
theorem Nr {x:Nat} {r:List Nat}:Cw (x::r)↔x<4294967296∧Cw r:=by simp[Cw]
theorem Tu {a:List Nat} (h:Cw a) (n:Nat):Cw (a.take n):=fun x hx=>h x (Ag2 hx)
theorem ED {a:List Nat} (h:Cw a) {i:Nat} (hi:i<a.length):a[i]<4294967296:=h _ (Ad9 hi)
theorem WW {a:List Nat} (h:Cw a) {v:Nat} (e:v<4294967296) (i:Nat):Cw (a.set i v):=fun x hx=>by
 rcases List.mem_or_eq_of_mem_set hx with d | d
 ·exact h x d
 ·omega
theorem Wi (n:Nat):Cw (replicate n 0):=fun x hx=>by simp at hx;omega
theorem QX:∀ (a b:List Nat),val (a++b)=val a+4294967296 ^ a.length*val b
 | [],b=>by simp[val]
 | x::r,b=>by
  simp only[Aeb,val,Adx,QX r b,Ae1]
  rw[Af5,←Afl,←Af8];congr 2;rw[Afu]
theorem Ul:∀ n,val (replicate n 0)=0
 | 0=>rfl
 | n+1=>by rw[Ag6,val,Ul n]
theorem R2:∀ {a:List Nat},Cw a→val a<4294967296 ^ a.length
 | [],_=>by simp[val]
 | x::r,h=>by
  have d:=Nr.1 h
  have e:=R2 d.2
  rw[val,Adx,Ae1]
  omega
theorem rJ (a:List Nat) (x:Nat):val (a++[x])=val a+4294967296 ^ a.length*x:=by rw[QX];simp[val]
theorem QY {n:Nat} (h:n≠0):C2 n≠[]:=by rw[ND h];simp
theorem rK {n:Nat}:C2 n=[]↔n=0:=by
 constructor
 ·intro h;by_cases d:n=0;exact d;exact absurd h (QY d)
 ·intro h;rw[h];rfl
theorem Ly {n:Nat}:(C2 n).length=0↔n=0:=by rw[Agv,rK]
theorem Xp:∀ {l:List Nat},Cw l→l=C2 (val l)++replicate (l.length - (C2 (val l)).length) 0∧(C2 (val l)).length≤l.length
 | [],_=>by simp[val,Nq]
 | x::r,h=>by
  have f:=Nr.1 h
  obtain⟨d,j⟩:=Xp f.2
  rw[val]
  by_cases e:x+4294967296*val r=0
  ·have hx:x=0:=by omega
   have hr:val r=0:=by omega
   rw[e,Nq]
   rw[hr,Nq] at d
   simp at d
   subst hx
   refine⟨?_,by simp⟩
   rw[Afr,Ady,Nat.sub_zero,Adx,Ag6,←d]
  ·rw[ND e,show(x+4294967296*val r)%4294967296=x by omega,show(x+4294967296*val r)/4294967296=val r by omega]
   refine⟨?_,by simp;exact j⟩
   rw[Aeb,Adx,Adx,Nat.add_sub_add_right,←d]
theorem v8:∀ (n:Nat) (h:C2 n≠[]),(C2 n).getLast h≠0:=by
 intro n
 induction n using Nat.strongRecOn with
 | _ n j =>
  intro h
  have k:n≠0:=fun e=>h (by rw[e];rfl)
  have e:=ND k
  by_cases f:n/4294967296=0
  ·rw[f,Nq] at e
   have:n<4294967296:=by omega
   simp[e];omega
  ·have d:=QY f
   have:=j _ (by omega) d
   have l:(C2 n).getLast h=(C2 (n/4294967296)).getLast d:=by
    simp only[e];rw[List.getLast_cons d]
   rw[l];exact this
theorem yD:∀ {l:List Nat},Cw l→(∀ h:l≠[],l.getLast h≠0)→C2 (val l)=l:=by
 intro l h n
 obtain⟨d,q⟩:=Xp h
 by_cases j:l.length - (C2 (val l)).length=0
 ·rw[j] at d;simpa using d.symm
 ·exfalso
  obtain⟨k,j⟩:=Nat.exists_eq_succ_of_ne_zero j
  rw[j,List.replicate_succ',←Aea] at d
  have f:l≠[]:=by intro e;rw[e] at d;simp at d
  apply n f
  have m:l.getLast?=some 0:=by rw[d,Ag0];rfl
  rw[List.getLast?_eq_some_getLast f] at m
  simpa using m
theorem f7 {n k:Nat} (h:n<4294967296 ^ k):(C2 n).length≤k:=by
  induction k generalizing n with
  | zero => have : n = 0 := by simpa using h
            subst this;simp[Nq]
  | succ k e =>
    by_cases d:n=0
    · subst d;simp[Nq]
    · rw[ND d,Adx]
      have:n/4294967296<4294967296 ^ k:=by
        rw[Ae1] at h
        exact Nat.div_lt_of_lt_mul (by rw[Afu];exact h)
      have:=e this
      omega
theorem Mi {a b:Nat} (h:a≤b):(C2 a).length≤(C2 b).length:=by
 apply f7
 have:=R2 (Bw b)
 rw[Dn] at this
 omega
end Gx
namespace Gx
open Go
section
variable {R:Type}
def Bj (l:List Nat):LA:=l.map fun n:Nat=>.int .u32 (n:Int)
theorem jk (x:Nat) (l:List Nat):Bj (x::l)=.int .u32 (x:Int)::Bj l:=rfl
theorem G8 (l:List Nat):(Bj l).length=l.length:=by simp[Bj]
theorem uC (l:List Nat) (n:Nat):(Bj l).drop n=Bj (l.drop n):=by simp[Bj,List.map_drop]
theorem WX (l:List Nat) (n:Nat):(Bj l).take n=Bj (l.take n):=by simp[Bj,Ah3]
theorem v_ (l:List Nat) (j:Nat) (v:Nat):List.set (Bj l) j (.int .u32 (v:Int))=Bj (l.set j v):=by simp[Bj,List.map_set]
theorem Zi (n:Nat):replicate n (AV.int .u32 0)=Bj (replicate n 0):=by simp[Bj]
theorem va {l:List Nat} {i:Nat} (h:i<l.length) {f:Int→O R}:Av .u32 (drop i (Bj l)) f=f (l[i]:Nat):=by
 rw[uC,Afe h,jk,Cp]
theorem LC:∀ l:List Nat,Ax (Bj l)=true
 | []=>rfl
 | x::r=>by rw[jk,Ax];exact LC r
theorem yE (a b:Nat):(a:Int)+(b:Int)=((a+b:Nat):Int):=by omega
theorem Aa1 (a b:Nat):(a:Int)*(b:Int)=((a*b:Nat):Int):=by simp
theorem oc {a:Nat} (h:a<18446744073709551616):wrap .u64 (a:Int)=(a:Int):=wrap_u64 a h
theorem Aam {a:Nat} (h:a<4294967296):wrap .u32 (a:Int)=(a:Int):=wrap_u32 a h
theorem yF (a:Nat):wrap .u32 (a:Int)=((a%4294967296:Nat):Int):=tu a
theorem wq (a:Int):wrap .u64 a=a%18446744073709551616:=IntKind.wrap_u64 a
theorem vd {a b:Nat} (d:a<18446744073709551616) (e:b≤a):wrap .u64 ((a:Int) - (b:Int))=((a - b:Nat):Int):=by rw[wq];omega
theorem yG (a:Nat):Int.fdiv (a:Int) (2 ^ 32)=((a/4294967296:Nat):Int):=fF a 32
theorem i64 {a:Int} (h:-9223372036854775808≤a∧a≤9223372036854775807):wrap .i64 a=a:=Vd a h
theorem Aa2 {a b:Nat} (d:a<18446744073709551616) (e:b<18446744073709551616):fB .u64 (a:Int) (b:Int)=((a ||| b:Nat):Int):=je rfl d e
theorem ve {a b k:Nat} (h:b<2 ^ k):a*2 ^ k ||| b=a*2 ^ k+b:=by
 rw[←Nat.shiftLeft_eq,Nat.shiftLeft_add_eq_or_of_lt h]
end
end Gx
namespace Gx
open Go Go.Proofs
section
variable {R:Type}
def fit (k N:Nat):Prop:=100*k+1000≤N∧k≤1000000000
theorem fit.le {j k N:Nat} (h:fit k N) (d:j≤k):fit j N:=⟨by have:=h.1;omega,by have:=h.2;omega⟩
theorem ct (x y:O R):cond true x y=x:=rfl
theorem cf (x y:O R):cond false x y=y:=rfl
theorem Aan (x y:Bool):cond true x y=x:=rfl
theorem Aa3 (c:Nat):((decide (((c+1:Nat):Int)>(0:Int)))==true)=true:=by simp
theorem Fn {j n:Nat} (h:j<n):decide ((j:Int)<(n:Int))=true:=by simp;omega
theorem F9 {j n:Nat} (h:n≤j):decide ((j:Int)<(n:Int))=false:=by simp;omega
theorem wS {j:Nat} (h:j≤1000000000000):wrap .i64 ((j:Int)+1)=((j+1:Nat):Int):=by rw[i64 (by omega)];omega
theorem wP {j:Nat} (h:j≤1000000000000):wrap .i64 (((j+1:Nat):Int) - 1)=(j:Int):=by rw[i64 (by omega)];omega
theorem yt {l:List Nat} {j:Nat} (h:j<l.length) {f:Int→O R}:Av .u32 (drop ((Int.toNat (j:Int))*1) (Bj l)) f=f (l[j]:Nat):=by
 rw[Ad2,Aeh,va h]
theorem f8 {l:List Nat} {j:Nat} (h:j<l.length) {f:Int→O R}:Av .u32 (drop (0+((Int.toNat (j:Int))*1)) (Bj l)) f=f (l[j]:Nat):=by
 rw[Aec,yt h]
theorem Acs {c a:Nat} (h:c≤a):((decide ((0:Int)≤(0:Int)))&&((decide ((0:Int)≤(c:Int)))&&((decide ((c:Int)≤(a:Int)))&&(decide ((a:Int)≤(a:Int))))))=true:=by
 simp;omega
theorem Aa4 {n:Nat} (h:n≤1000000000000):((decide ((0:Int)≤(n:Int)))&&((decide ((n:Int)≤(n:Int)))&&((decide ((n:Int)≤(140737488355328:Int)))&&(decide (((n:Int)*((4:Nat):Int))≤(140737488355328:Int))))))=true:=by
 simp;omega
theorem x6 {x:Nat} {m:List Nat} (h:x<m.length):((beq 1 1)&&((ble ((0+((Int.toNat (x:Int))*1))+1) (List.length (Bj m)))&&(!false)))=true:=by
 rw[G8,Ad2];simp;omega
theorem vf {x v:Nat} {m:List Nat}:List.set (Bj m) (0+((Int.toNat (x:Int))*1)) (.int .u32 (v:Int))=Bj (m.set x v):=by
 rw[Ad2,Aeh,Aec,v_]
theorem vg {l:List Nat} (h:Cw l):l.take (C2 (val l)).length=C2 (val l):=by
 obtain⟨d,e⟩:=Xp h
 rw[congrArg (take (C2 (val l)).length) d,List.take_left]
theorem uD {l:List Nat} (h:Cw l):take ((C2 (val l)).length*1) (Bj l)=Bj (C2 (val l)):=by rw[Aeh,WX,vg h]
theorem Mj {l:List Nat} {c:Nat} (h:c<l.length):val (l.take (c+1))=val (l.take c)+4294967296 ^ c*l[c]:=by
 rw[Aeo h,rJ,Afc,Ae9 (by omega)]
theorem wt {l:List Nat} {c:Nat} (d:Cw l) (h:c<l.length) (e:l[c]≠0):C2 (val (l.take (c+1)))=l.take (c+1):=by
 apply yD (Tu d _)
 intro f
 rw[Ahi]
 simp only[Afc,Ae9 (show c+1≤l.length by omega),Ah5,List.getElem_take]
 exact e
end
end Gx
namespace Gx.Cf
open Go Go.Proofs
section
variable {R:Type}
def TJ (names:List Lu) (k i:Int) (s:Lu) (p:I6):I6:=nd (nd p (Df s) (k,i,0) ⟨9,by decide⟩) (names.all fun x=>!(x==s)) (k,i,0) ⟨10,by decide⟩
theorem Kb (a:BusD):a.av.length=3:=rfl
theorem Gi (a:LineD):a.av.length=12:=rfl
theorem H7 (a:UnitD):a.av.length=22:=rfl
theorem Ns (a:StoreD):a.av.length=9:=rfl
theorem Lz (a:TieD):a.av.length=5:=rfl
theorem Nt (a:OutD):a.av.length=4:=rfl
structure Small (c:CaseD) (N:Nat):Prop where
 n64:64≤N
 res:Qo c.reserve.l.length N
 bus:Qo c.buses.l.length N
 lin:Qo c.lines.l.length N
 uni:Qo c.units.l.length N
 sto:Qo c.stores.l.length N
 tie:Qo c.ties.l.length N
 out:Qo c.outs.l.length N
 dem:∀ b ∈ c.buses.l,Qo b.demand.l.length N
 law:∀ b ∈ c.lines.l,Qo b.away.l.length N
 seg:∀ b ∈ c.units.l,Qo b.segs.l.length N
 uaw:∀ b ∈ c.units.l,Qo b.away.l.length N
 tim:∀ b ∈ c.ties.l,Qo b.imp.l.length N
 tex:∀ b ∈ c.ties.l,Qo b.exp.l.length N
 tpr:∀ b ∈ c.ties.l,Qo b.price.l.length N
 oli:∀ b ∈ c.outs.l,Qo b.lines.l.length N
 omo:∀ b ∈ c.outs.l,Qo b.moves.l.length N
 omb:∀ b ∈ c.outs.l,b.moves.l.length<8796093022208
 top:c.buses.l.length≤1000000∧c.lines.l.length≤1000000∧c.units.l.length≤1000000∧c.stores.l.length≤1000000∧c.ties.l.length≤1000000∧c.outs.l.length≤1000000
def Gj {α:Type} (f:Nat→α→I6→I6):List α→Nat→I6→I6
 | [],_,p=>p
 | a::r,j,p=>Gj f r (j+1) (f j a p)
theorem Nu {α:Type} {f:Nat→α→I6→I6} {x:(Int×Int×Int)×{ e:Int // e≠0 }} (d:∀ j a,f j a (some x)=some x):∀ (l:List α) (j:Nat),Gj f l j (some x)=some x
 | [],_=>rfl
 | a::r,j=>by rw[Gj,d];exact Nu d r (j+1)
abbrev e1:{ e:Int // e≠0 }:=⟨1,by decide⟩
abbrev e3:{ e:Int // e≠0 }:=⟨3,by decide⟩
abbrev e4:{ e:Int // e≠0 }:=⟨4,by decide⟩
abbrev e8:{ e:Int // e≠0 }:=⟨8,by decide⟩
abbrev yH:{ e:Int // e≠0 }:=⟨11,by decide⟩
abbrev uE:{ e:Int // e≠0 }:=⟨12,by decide⟩
abbrev Adg:{ e:Int // e≠0 }:=⟨13,by decide⟩
abbrev Aao:{ e:Int // e≠0 }:=⟨16,by decide⟩
def rL (c:CaseD) (p:I6):I6 :=
 let p:=nd p (Fa 1 24 c.hours) (0,0,0) e3
 let p:=jf c.hours c.reserve.l 0 1048576 (0,0,1) p
 let p:=nd p (Fa 1 32 (c.buses.l.length:Int)) (0,0,2) e8
 let p:=nd p (decide ((c.lines.l.length:Int)≤64)) (0,0,3) e8
 let p:=nd p (decide ((c.units.l.length:Int)≤16)) (0,0,4) e8
 let p:=nd p (decide ((c.stores.l.length:Int)≤8)) (0,0,5) e8
 let p:=nd p (decide ((c.ties.l.length:Int)≤8)) (0,0,6) e8
 nd p (decide ((c.outs.l.length:Int)≤64)) (0,0,7) e8
def wu (c:CaseD) (j:Nat) (b:BusD) (p:I6):I6 :=
 let p:=TJ ((c.buses.l.map (·.name)).take j) 1 j b.name p
 let p:=jf c.hours b.demand.l 0 1048576 (1,j,1) p
 nd p (Fa 0 1048576 b.shed) (1,j,2) e3
def jl (c:CaseD) (j:Nat) (x:LineD) (p:I6):I6 :=
 let p:=TJ ((c.lines.l.map (·.name)).take j) 2 j x.name p
 let p:=nd p (ZO c x.fr) (2,j,1) uE
 let p:=nd p (ZO c x.tl) (2,j,2) uE
 let p:=nd p (x.tl != x.fr) (2,j,2) e1
 let p:=nd p (No x.re&&decide (x.re.num>0)) (2,j,3) e3
 let p:=nd p (No x.smin&&decide (x.smin.num≤0)) (2,j,4) e3
 let p:=nd p (No x.smax&&decide (x.smax.num≥0)) (2,j,5) e3
 let p:=nd p (Fa 0 1048576 x.limit) (2,j,6) e3
 let p:=nd p (Fa x.limit 1048576 x.emer) (2,j,7) e3
 fW c.hours x.away.l (2,j,8) p
def f9 (c:CaseD) (j:Nat) (x:StoreD) (p:I6):I6 :=
 let p:=TJ ((c.stores.l.map (·.name)).take j) 4 j x.name p
 let p:=nd p (ZO c x.bus) (4,j,1) uE
 let p:=nd p (Fa 0 1048576 x.capacity) (4,j,2) e3
 let p:=nd p (Fa 0 x.capacity x.initial) (4,j,3) e3
 let p:=nd p (Fa 0 x.capacity x.final) (4,j,4) e3
 let p:=nd p (Fa 0 1048576 x.charge) (4,j,5) e3
 let p:=nd p (Fa 0 1048576 x.discharge) (4,j,6) e3
 nd p (No x.eff&&(decide (x.eff.num>0)&&decide (x.eff.num≤x.eff.den))) (4,j,7) e3
def wv (c:CaseD) (j:Nat) (x:TieD) (p:I6):I6 :=
 let p:=TJ ((c.ties.l.map (·.name)).take j) 5 j x.name p
 let p:=nd p (ZO c x.bus) (5,j,1) uE
 let p:=jf c.hours x.imp.l 0 1048576 (5,j,2) p
 let p:=jf c.hours x.exp.l 0 1048576 (5,j,3) p
 jf c.hours x.price.l (-1048576) 1048576 (5,j,4) p
theorem Zj (a:SegD):a.av.length=2:=rfl
theorem On (a:MoveD):a.av.length=3:=rfl
def ZP (s:SegD):Bool:=Fa 1 1048576 s.width&&Fa (-1048576) 1048576 s.price
def QZ (a:Int):List SegD→Int
 | []=>a
 | s::r=>QZ (wrap .i64 (a+s.width)) r
def Q_:List SegD→Bool
 | a::b::r=>decide (b.price≥a.price)&&Q_ (b::r)
 | _=>true
theorem GM (a b:SegD) (r:List SegD):Q_ (a::b::r)=(decide (b.price≥a.price)&&Q_ (b::r)):=by rw[Q_]
theorem f_ (a:SegD):Q_ [a]=true:=by rw[Q_];intros;simp_all
theorem od:Q_ []=true:=by rw[Q_];intros;simp_all
def vh (u:UnitD) (j:Nat) (p:I6):I6 :=
 let p:=nd p (decide ((u.segs.l.length:Int)≤8)) (3,j,4) e8
 let p:=nd p (u.segs.l.all ZP) (3,j,4) e3
 let p:=nd p (Q_ u.segs.l) (3,j,4) yH
 nd p (QZ 0 u.segs.l==wrap .i64 (u.max - u.min)) (3,j,4) e4
theorem LD {u:UnitD} {f:LA→Nat→O R}:A6 2 (drop 4 u.av) f=f (u.segs.l.flatMap SegD.av) u.segs.l.length:=by simp[UnitD.av,Bn]
theorem x_ {u:UnitD} {f:Int→O R}:Av .i64 (drop 3 u.av) f=f u.max:=by simp[UnitD.av,Cp]
theorem xa {u:UnitD} {f:Int→O R}:Av .i64 (drop 2 u.av) f=f u.min:=by simp[UnitD.av,Cp]
theorem jm {l:List SegD} {j:Nat} (h:j<l.length) {f:Int→O R}:Av .i64 (drop 1 (drop ((Int.toNat (j:Int))*2) (l.flatMap SegD.av))) f=f l[j].price:=by
 rw[Ad2,Be Zj _ _ h];simp[SegD.av,Cp]
theorem uF {l:List SegD} {j:Nat} (h:j<l.length) {f:Int→O R}:Av .i64 (drop ((Int.toNat (j:Int))*2) (l.flatMap SegD.av)) f=f l[j].width:=by
 rw[Ad2,Be Zj _ _ h];simp[SegD.av,Cp]
def oe (c:CaseD) (j:Nat) (u:UnitD) (p:I6):I6 :=
 let p:=TJ ((c.units.l.map (·.name)).take j) 3 j u.name p
 let p:=nd p (ZO c u.bus) (3,j,1) uE
 let p:=nd p (Fa 0 1048576 u.min) (3,j,2) e3
 let p:=nd p (Fa u.min 1048576 u.max) (3,j,3) e3
 let p:=vh u j p
 let p:=nd p (Fa 0 1048576 u.noLoad) (3,j,5) e3
 let p:=nd p (Fa 0 1048576 u.rampUp) (3,j,6) e3
 let p:=nd p (Fa 0 1048576 u.rampDown) (3,j,7) e3
 let p:=nd p (Fa u.min u.max u.startRamp) (3,j,8) e3
 let p:=nd p (Fa u.min u.max u.stopRamp) (3,j,9) e3
 let p:=nd p (Fa 0 24 u.upTime) (3,j,10) e3
 let p:=nd p (Fa 0 24 u.downTime) (3,j,11) e3
 let p:=nd p (Fa 0 24 u.startTime) (3,j,12) e3
 let p:=nd p (Fa 0 1048576 u.hotCost) (3,j,13) e3
 let p:=nd p (Fa 0 1048576 u.coldCost) (3,j,14) e3
 let p:=nd p (Fa 0 24 u.hotHours) (3,j,15) e3
 let p:=nd p (Fa 0 1048576 u.reserve) (3,j,16) e3
 let p:=nd p (Fa 0 1048576 u.reservePrice) (3,j,17) e3
 let p:=fW c.hours u.away.l (3,j,18) p
 let p:=nd p (Fa 0 2 u.state) (3,j,19) uE
 let p:=nd p (u.state != 1||u.startTime != 0) (3,j,19) Aao
 let p:=nd p (Fa 1 48 u.hours) (3,j,20) e3
 let p:=nd p (u.state != 1||decide (u.hours≤u.startTime)) (3,j,20) e3
 cond (u.state==2) (nd p (Fa u.min u.max u.output) (3,j,21) e3) (nd p (Fa 0 0 u.output) (3,j,21) e3)
def ww (c:CaseD) (m:MoveD):Bool:=decide (0≤m.unit)&&decide (m.unit<(c.units.l.length:Int))
def rM (m:MoveD):Bool:=Fa 0 1048576 m.up&&Fa 0 1048576 m.down
def rN (c:CaseD) (o:OutD) (j:Nat) (p:I6):I6 :=
 let p:=nd p ((o.moves.l.length:Int)==0||o.corr) (6,j,3) Aao
 let p:=nd p (decide ((o.moves.l.length:Int)≤16)) (6,j,3) e8
 let p:=nd p (o.moves.l.all (ww c)) (6,j,3) uE
 let p:=nd p (iJ (o.moves.l.map (·.unit))) (6,j,3) yH
 nd p (o.moves.l.all rM) (6,j,3) e3
theorem sk {u:OutD} {f:LA→Nat→O R}:A6 3 (drop 3 u.av) f=f (u.moves.l.flatMap MoveD.av) u.moves.l.length:=by simp[OutD.av,Bn]
theorem yI {u:OutD} {f:Bool→O R}:qS (drop 2 u.av) f=f u.corr:=by simp[OutD.av,vU]
def uG (c:CaseD) (j:Nat) (x:OutD) (p:I6):I6 :=
 let p:=TJ ((c.outs.l.map (·.name)).take j) 6 j x.name p
 let p:=nd p ((x.lines.l.length:Int)==1||(x.lines.l.length:Int)==2) (6,j,1) e4
 let p:=nd p (x.lines.l.all fun n=>decide (0≤n)&&decide (n<(c.lines.l.length:Int))) (6,j,1) uE
 let p:=nd p (iJ x.lines.l) (6,j,1) yH
 rN c x j p
theorem WY {c:CaseD} {j:Nat} {x:OutD} {y:(Int×Int×Int)×{ e:Int // e≠0 }}:uG c j x (some y)=some y:=rfl
theorem wx {u:OutD} {f:LA→Nat→O R}:A6 1 (drop 1 u.av) f=f (Az u.lines.l) u.lines.l.length:=by simp[OutD.av,Bn,A4]
end
end Gx.Cf
