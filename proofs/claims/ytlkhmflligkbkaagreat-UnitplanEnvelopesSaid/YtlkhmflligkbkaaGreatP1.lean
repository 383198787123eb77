/- A part of the proof: what it holds is said by each theorem. -/
import Derived.IntWalk
import Derived.Test.YtlkhmflligkbkaaGreatProg
import Derived.ProofKit
import Derived.OpenShut
import Derived.ChangeOld
import Derived.Below
import Derived.Test.YtlkhmflligkbkaaGreatP0
set_option linter.unusedVariables false
namespace Gx
open Go
section
variable {R:Type} {E:Env} {ops:Array Oper} {o p:Oper} {st Aln uT st3:St}
def A1y (ops:Array Oper) (o:Oper):List Nat:=match fh ops o with | some p=>[p.1] | none=>[]
def MO (o:Oper) (s:Ho):List AV:=o.op.operands.toList.map (ev s)
def Apk (h:Am) (F:List Nat):B8:=fun b=>cond (Kj F b) (Au h b) none
def Bdl (o:Oper):Nat:=o.dst.getD 50000
def Vg (E:Env) (ops:Array Oper) (o:Oper) (st:St):Option (AV×If×Foot) :=
  (SH ops st.s o).bind fun wanted=>cond wanted
    ((Ain E (Apk st.h (Z3 st.h o.op (MO o st.s))) (Bdl o) (ev st.s) o.op pr).bind fun q =>
      cond (iS (Bdl o) (Z3 st.h o.op (MO o st.s)) st.h q.2) (some (q.1,q.2,{ r:=A1y ops o++lO o.op.operands.toList,w:=o.dst,f:=Z3 st.h o.op (MO o st.s),u:=q.2.map (·.1) })) none)
    (some (.tup [],[],{ r:=A1y ops o,w:=o.dst,f:=[],u:=[] }))
def after (E:Env) (o:Oper) (st:St) (q:AV×If×Foot):St:={ s:=Axl E.nt st.s o.dst q.1,h:=At q.2.1 st.h }
theorem fw (k:St→Foot→Option R):Asy E ops o st k=(Vg E ops o st).bind fun q=>k (after E o st q) q.2.2:=by
 unfold Asy Vg
 rw[Option.bind_assoc]
 congr 1;funext t
 rw[Ax]
 congr 1
 rw[A3g,Option.bind_assoc]
 congr 1;funext q
 rw[Ax]
 rfl
theorem Aai:∀ {l:List Operand} {t:Nat},Operand.tmp t ∈ l→t ∈ lO l
 | [],t,h=>by simp at h
 | x::r,t,h=>by
  rcases List.mem_cons.1 h with e | h'
  ·subst e;simp[lO]
  ·have k:=Aai h'
   cases x<;>simp[lO]<;>first | exact .inr k | exact k
theorem ud {d:Nat} {F:List Nat} {h k:Am}:∀ {ups:If},(∀ b ∈ ups.map (·.1),Au k b=Au h b)→iS d F k ups=iS d F h ups
 | [],_=>rfl
 | (b,_)::r,A=>by rw[iS,iS,A b (by simp),ud (fun c B=>A c (by simp at B ⊢;exact .inr B))]
theorem iZ {s s2:Ho} (h:∀ t ∈ A1y ops o,Gu s2 t=Gu s t):SH ops s2 o=SH ops s o:=by
 unfold SH
 cases k:o.guard with
 | none=>rfl
 | some q =>
  obtain⟨j,want⟩:=q
  simp only
  cases A:(ops[j]?).bind (·.dst) with
  | none=>rfl
  | some t =>
   have:Gu s2 t=Gu s t:=h t (by simp[A1y,fh,k,A])
   simp only[this]
theorem bD {q:AV×If×Foot} (F:Vg E ops o st=some q) (hr:∀ t ∈ q.2.2.r,Gu uT.s t=Gu st.s t) (k:∀ b,b ∈ q.2.2.f∨b ∈ q.2.2.u→Au uT.h b=Au st.h b):Vg E ops o uT=some q:=by
 have O:=F
 unfold Vg at F
 obtain⟨t,C,D⟩:=ub F
 cases t with
 | false =>
  simp at D;subst D
  unfold Vg
  rw[iZ (s:=st.s) hr,C];rfl
 | true =>
  rw[cond_true] at D
  obtain⟨x,S,T⟩:=ub D
  obtain⟨U,L⟩:=uc T
  simp at L;subst L
  simp only at hr k
  have M:∀ y ∈ o.op.operands.toList,ev uT.s y=ev st.s y:=fun y V=>by
   cases y with
   | tmp t=>exact hr t (List.mem_append.2 (.inr (Aai V)))
   | const _=>rfl
   | global _=>rfl
   | func _=>rfl
  have A:MO o uT.s=MO o st.s:=List.map_congr_left M
  have hF:Z3 uT.h o.op (MO o st.s)=Z3 st.h o.op (MO o st.s):=by
   unfold Z3 at k ⊢
   cases G:A1q o.op with
   | true =>
    rw[G] at k
    cases I:A1r o.op with
    | true=>rfl
    | false=>rw[I] at k;exact Ati (fun b B=>k b (.inl B))
   | false=>rfl
  have Y:Apk uT.h (Z3 st.h o.op (MO o st.s))=Apk st.h (Z3 st.h o.op (MO o st.s)):=by
   funext b
   unfold Apk
   cases B:Kj (Z3 st.h o.op (MO o st.s)) b with
   | false=>rfl
   | true=>simp only[cond_true];exact k b (.inl (Ms.1 B))
  unfold Vg
  rw[iZ (s:=st.s) (fun t C=>hr t (List.mem_append.2 (.inl C))),C]
  simp only[Option.bind_some,cond_true]
  rw[A,hF,Y,Ax1 M,S]
  simp only[Option.bind_some]
  rw[ud (h:=st.h) (fun b B=>k b (.inr B)),U]
  rfl
theorem fx:∀ {ups:If} {b:Nat},Bh ups b=true↔b ∈ ups.map (·.1)
 | [],b=>by simp[Bh]
 | (i,_)::r,b=>by
  rw[Bh]
  cases hi:Nat.beq i b with
  | true=>have:=Nat.eq_of_beq_eq_true hi;subst this;simp
  | false =>
   have ne:=AN hi
   simp only[cond_false]
   rw[fx]
   simp only[List.map_cons,List.mem_cons]
   constructor
   ·exact fun h=>.inr h
   ·rintro(h | h)
    ·exact absurd h.symm ne
    ·exact h
theorem A1z {q:AV×If×Foot} (A:Vg E ops o st=some q):q.2.2.w=o.dst∧q.2.2.u=q.2.1.map (·.1):=by
 unfold Vg at A
 obtain⟨t,D,k⟩:=ub A
 cases t with
 | false=>simp at k;subst k;simp
 | true =>
  rw[cond_true] at k
  obtain⟨x,F,C⟩:=ub k
  obtain⟨G,B⟩:=uc C
  simp at B;subst B;simp
theorem Hr:∀ (ups:If) {h A:Am},(∀ b,Au A b=Au h b)→∀ b,Au (At ups A) b=Au (At ups h) b
 | [],_,_,k,b=>k b
 | (i,some x)::r,h,A,k,b=>Hr r (fun c=>by rw[Ai,Ai,k c]) b
 | (i,none)::r,h,A,k,b=>by
  rw[At,At]
  refine Hr r (fun c=>?_) b
  rw[k i]
  split
  ·rw[Ai,Ai,k c]
  ·exact k c
theorem Atj {q:AV×If×Foot} (h:Eqv st uT):Eqv (after E o st q) (after E o uT q):=by
 refine⟨fun t=>?_,fun b=>?_⟩
 ·unfold after;simp only;rw[Pw,Pw,h.1 t]
 ·exact(Hr q.2.1 (fun b=>(h.2 b).symm) b).symm
theorem T2 {i:Nat} {y:Blk}:∀ (ups:If) {h:Am},Bh ups i=false→∀ b,Au (At ups (G0 h i y)) b=if b=i then some y else Au (At ups h) b
 | [],h,_,b=>Ai h i y b
 | (j,some x)::r,h,hi,b=>by
  rw[Bh] at hi
  cases k:Nat.beq j i with
  | true=>rw[k] at hi;simp at hi
  | false =>
   rw[k] at hi
   have ne:=AN k
   rw[At,At,Hr r (h:=G0 (G0 h j x) i y) (fun c=>by
    rw[Ai,Ai,Ai,Ai]
    by_cases e1:c=j
    ·subst e1;simp[ne]
    ·simp[e1]) b]
   exact T2 r hi b
 | (j,none)::r,h,hi,b=>by
  rw[Bh] at hi
  cases k:Nat.beq j i with
  | true=>rw[k] at hi;simp at hi
  | false =>
   rw[k] at hi
   have ne:=AN k
   rw[At,At,Ai,if_neg ne]
   split
   ·rename_i x A
    rw[Hr r (h:=G0 (G0 h j { x with dead:=true,pure:=true,cells:=[] }) i y) (fun c=>by
     rw[Ai,Ai,Ai,Ai]
     by_cases e1:c=j
     ·subst e1;simp[ne]
     ·simp[e1]) b]
    exact T2 r hi b
   ·exact T2 r hi b
theorem W8:∀ (u1 u2:If) (h:Am),(∀ b,Bh u1 b=true→Bh u2 b=false)→∀ b,Au (At u2 (At u1 h)) b=Au (At u1 (At u2 h)) b
 | [],u2,h,_,b=>rfl
 | (i,some x)::r,u2,h,k,b=>by
  rw[At,At]
  have hi:Bh u2 i=false:=k i (by simp[Bh])
  rw[W8 r u2 (G0 h i x) (fun c A=>k c (by rw[Bh,A];cases Nat.beq i c<;>rfl)) b]
  refine Hr r (fun c=>?_) b
  rw[T2 u2 hi,Ai]
 | (i,none)::r,u2,h,k,b=>by
  rw[At,At]
  have hi:Bh u2 i=false:=k i (by simp[Bh])
  rw[C9 u2 h i hi]
  split
  ·rename_i x B
   rw[W8 r u2 _ (fun c A=>k c (by rw[Bh,A];cases Nat.beq i c<;>rfl)) b]
   refine Hr r (fun c=>?_) b
   rw[T2 u2 hi,Ai]
  ·exact W8 r u2 h (fun c A=>k c (by rw[Bh,A];cases Nat.beq i c<;>rfl)) b
theorem Aaj:∀ {a l:List Nat},Asx a l=true→∀ b ∈ a,b ∉ l
 | [],l,_,b,k=>by simp at k
 | i::r,l,h,b,k=>by
  rw[Asx] at h;simp at h
  rcases List.mem_cons.1 k with e | k
  ·subst e;intro A;rw[Ms.2 A] at h;simp at h
  ·exact Aaj h.2 b k
theorem Aak {q:AV×If×Foot} {t:Nat} (h:o.dst≠some t):Gu (after E o st q).s t=Gu st.s t:=by
 unfold after;simp only;rw[Pw,if_neg (fun k=>h k.1)]
theorem Aal {q:AV×If×Foot} {b:Nat} (h:b ∉ q.2.1.map (·.1)):Au (after E o st q).h b=Au st.h b:=by
 unfold after;simp only
 rw[C9]
 cases hi:Bh q.2.1 b with
 | false=>rfl
 | true=>exact absurd (fx.1 hi) h
theorem Alp {w:Option Nat} {l:List Nat} (h:Bcv w l=false):∀ t ∈ l,w≠some t:=by
 intro t k e
 subst e
 rw[Bcv,Ms.2 k] at h;cases h
theorem Bc4 {B k:AV×If×Foot} (I:Vg E ops p st=some B) (L:Vg E ops o (after E p st B)=some k) (hi:uL B.2.2 k.2.2=true) :
  Vg E ops o st=some k∧Vg E ops p (after E o st k)=some B∧Eqv (after E p (after E o st k) B) (after E o (after E p st B) k):=by
 unfold uL at hi
 simp only[Bool.and_eq_true,Bool.not_eq_true'] at hi
 obtain⟨⟨⟨⟨i1,i2⟩,i3⟩,i4⟩,i5⟩:=hi
 obtain⟨M,u1⟩:=A1z I
 obtain⟨O,u2⟩:=A1z L
 have F:=Aaj i4
 have S:=Aaj i5
 have a1:Vg E ops o st=some k:=bD L (fun t G=>(Aak (by rw[←M];exact Alp i1 t G)).symm) (fun b A=>(Aal (fun D=>by
  rw[←u1] at D
  exact F b D (by rcases A with A | A<;>simp[A]))).symm)
 have a2:Vg E ops p (after E o st k)=some B:=bD I (fun t G=>Aak (by rw[←O];exact Alp i2 t G)) (fun b A=>Aal (fun D=>by
  rw[←u2] at D
  rcases A with A | A
  ·exact S b D A
  ·exact F b A (by simp[D])))
 refine⟨a1,a2,fun t=>?_,fun b=>?_⟩
 ·unfold after;simp only
  rw[Pw,Pw,Pw,Pw]
  by_cases e1:p.dst=some t∧t<E.nt
  ·by_cases C:o.dst=some t∧t<E.nt
   ·exfalso
    rw[M,O,e1.1,C.1] at i3
    simp at i3
   ·rw[if_pos e1,if_neg C,if_pos e1]
  ·by_cases C:o.dst=some t∧t<E.nt
   ·rw[if_neg e1,if_pos C,if_pos C]
   ·rw[if_neg e1,if_neg C,if_neg C,if_neg e1]
 ·unfold after;simp only
  refine(W8 B.2.1 k.2.1 st.h (fun c T=>?_) b).symm
  cases U:Bh k.2.1 c with
  | false=>rfl
  | true =>
   have m1:c ∈ B.2.2.u:=by rw[u1];exact fx.1 T
   have m2:c ∈ k.2.2.u:=by rw[u2];exact fx.1 U
   exact absurd (by simp[m2]) (F c m1)
def RunF (E:Env) (ops:Array Oper) (fp:Nat→Foot):List (Nat×Oper)→St→St→Prop
 | [],st,e=>Eqv st e
 | (i,o)::r,st,e=>∃ q,Vg E ops o st=some q∧q.2.2=fp i∧RunF E ops fp r (after E o st q) e
theorem RunF.congr {fp:Nat→Foot}:∀ {l:List (Nat×Oper)} {st uT e:St},RunF E ops fp l st e→Eqv st uT→RunF E ops fp l uT e
 | [],st,uT,e,h,k=>k.symm.trans h
 | (i,o)::r,st,uT,e,h,k=>by
  rw[RunF] at h ⊢
  obtain⟨q,A,B,C⟩:=h
  exact⟨q,bD A (fun t _=>(k.1 t).symm) (fun b _=>(k.2 b).symm),B,RunF.congr C (Atj k)⟩
theorem RunF.pull {fp:Nat→Foot} {i:Nat} {o:Oper} {B:List (Nat×Oper)}:∀ {A:List (Nat×Oper)} {st e:St},RunF E ops fp (A++(i,o)::B) st e→(∀ jp ∈ A,uL (fp jp.1) (fp i)=true) →
  ∃ q,Vg E ops o st=some q∧q.2.2=fp i∧RunF E ops fp (A++B) (after E o st q) e
 | [],st,e,h,_=>h
 | (j,p)::A,st,e,h,hA=>by
  rw[List.cons_append,RunF] at h
  obtain⟨k,G,C,I⟩:=h
  obtain⟨D,L,F,M⟩:=RunF.pull I (fun jp O=>hA jp (by simp[O]))
  have hi:uL k.2.2 D.2.2=true:=by rw[C,F];exact hA (j,p) (by simp)
  obtain⟨a1,a2,a3⟩:=Bc4 G L hi
  refine⟨D,a1,F,?_⟩
  rw[List.cons_append,RunF]
  exact⟨k,a2,C,RunF.congr M a3.symm⟩
end
end Gx

namespace Gx
open Go
def A10:Nat→List Oper→List (Nat×Oper)
 | _,[]=>[]
 | n,o::r=>(n,o)::A10 (n+1) r
theorem z9:∀ {l:List Oper} {n:Nat} {p:Nat×Oper},p ∈ A10 n l↔n≤p.1∧l[p.1 - n]?=some p.2
 | [],n,p=>by simp[A10]
 | o::r,n,p=>by
  rw[A10,List.mem_cons,z9]
  constructor
  ·rintro(rfl | ⟨A,k⟩)
   ·simp
   ·refine⟨by omega,?_⟩
    rw[show p.1 - n=(p.1 - (n+1))+1 by omega];simpa using k
  ·rintro⟨A,k⟩
   by_cases e:p.1=n
   ·left
    rw[e] at k;simp at k
    obtain⟨a,b⟩:=p
    simp at e k;subst e k;rfl
   ·right
    refine⟨by omega,?_⟩
    rw[show p.1 - n=(p.1 - (n+1))+1 by omega] at k;simpa using k
theorem Aam:∀ (l:List Oper) (n:Nat),(A10 n l).Pairwise (fun a b=>a.1<b.1)
 | [],n=>List.Pairwise.nil
 | o::r,n=>by
  rw[A10]
  refine List.pairwise_cons.2 ⟨fun p k=>?_,Aam r (n+1)⟩
  have:=(z9.1 k).1
  show n<p.1;omega
section
variable {R:Type} {r:R} {Z:Start} {E:Env} {ops:Array Oper}
def RunL (E:Env) (ops:Array Oper):List Oper→List Foot→St→St→Prop
 | [],[],st,e=>st=e
 | o::l,f::fs,st,e=>∃ st' q,Eqv st st'∧Vg E ops o st'=some q∧q.2.2=f∧RunL E ops l fs (after E o st' q) e
 | _,_,_,_=>False
theorem Atk:∀ {l:List Oper} {st:St} {tr:List Foot} {k:St→List Foot→Option R},zk E ops l st tr k=some r→∃ fs e,k e (fs.reverse++tr)=some r∧RunL E ops l fs st e
 | [],st,tr,k,h=>⟨[],st,by simpa[zk] using h,rfl⟩
 | o::l,st,tr,k,h=>by
  rw[zk] at h
  obtain⟨st',A,h⟩:=Aaa h
  rw[fw] at h
  obtain⟨q,B,C⟩:=ub h
  obtain⟨fs,e,D,F⟩:=Atk C
  exact⟨q.2.2::fs,e,by simpa using D,st',q,A,B,rfl,F⟩
theorem RunL.length:∀ {l:List Oper} {fs:List Foot} {st e:St},RunL E ops l fs st e→fs.length=l.length
 | [],[],_,_,_=>rfl
 | [],_::_,_,_,h=>h.elim
 | _::_,[],_,_,h=>h.elim
 | o::l,f::fs,st,e,⟨_,q,_,_,_,h⟩=>by simp[RunL.length h]
theorem RunL.runF {fp:Nat→Foot}:∀ {l:List Oper} {fs:List Foot} {n:Nat} {st e:St},RunL E ops l fs st e→(∀ (j:Nat) (f:Foot),fs[j]?=some f→fp (n+j)=f)→RunF E ops fp (A10 n l) st e
 | [],[],n,st,e,h,_=>by subst h;exact Eqv.refl _
 | [],_::_,_,_,_,h,_=>h.elim
 | _::_,[],_,_,_,h,_=>h.elim
 | o::l,f::fs,n,st,e,⟨st',q,A,B,C,D⟩,k=>by
  rw[A10]
  refine RunF.congr ?_ A.symm
  rw[RunF]
  refine⟨q,B,by rw[C];exact(k 0 f (by simp)).symm,RunL.runF D (fun j g F=>?_)⟩
  have:=k (j+1) g (by simpa using F)
  rwa [show n+(j+1)=n+1+j by omega] at this
theorem ue {f:Foot} {anc:List Nat}:∀ {seen:List Foot} {i:Nat},nS f anc i seen=true→∀ (j:Nat) (g:Foot),seen[j]?=some g→(i+j) ∈ anc∨uL g f=true
 | [],i,_,j,g,k=>by simp at k
 | x::r,i,h,j,g,k=>by
  rw[nS] at h;simp only[Bool.and_eq_true,Bool.or_eq_true] at h
  cases j with
  | zero =>
   simp at k;subst k
   rcases h.1 with A | A
   ·exact .inl (Ms.1 A)
   ·exact .inr A
  | succ j =>
   have:=ue h.2 j g (by simpa using k)
   rwa [show i+1+j=i+(j+1) by omega] at this
theorem Aan:∀ {fs:List Foot} {az9:List (List Nat)} {seen:List Foot},fi fs az9 seen=true→∀ (i:Nat) (f:Foot),fs[i]?=some f →
  ∃ a,az9[i]?=some a∧∀ (j:Nat) (g:Foot),(seen++fs)[j]?=some g→j<seen.length+i→j ∈ a∨uL g f=true
 | [],az9,seen,_,i,f,k=>by simp at k
 | x::r,[],seen,h,i,f,k=>by simp[fi] at h
 | x::r,a::az9,seen,h,i,f,k=>by
  rw[fi] at h;simp only[Bool.and_eq_true] at h
  cases i with
  | zero =>
   simp at k;subst k
   refine⟨a,by simp,fun j g A B=>?_⟩
   rw[List.getElem?_append,if_pos (by omega)] at A
   simpa using ue h.1 j g A
  | succ i =>
   obtain⟨a',C,D⟩:=Aan h.2 i f (by simpa using k)
   refine⟨a',by simpa using C,fun j g A B=>D j g ?_ (by simp;omega)⟩
   simpa using A
theorem MP:∀ {l:List Oper} {acc:List (List Nat)} {i:Nat},i<acc.length→(Hf l acc)[i]?=acc[i]?
 | [],acc,i,_=>rfl
 | o::r,acc,i,hi=>by
  rw[Hf,NQ,MP (by simp;omega),List.getElem?_append,if_pos hi]
theorem ST:∀ {l:List Oper} {acc:List (List Nat)} {i:Nat} {a:List Nat},(Hf l acc)[i]?=some a→acc.length≤i→∃ o,l[i - acc.length]?=some o ∧
  ∀ k ∈ a,k ∈ SI o∨∃ j a',j ∈ SI o∧j<i∧(Hf l acc)[j]?=some a'∧k ∈ a'
 | [],acc,i,a,h,hi=>by
  rw[Hf,List.getElem?_eq_none hi] at h;cases h
 | o::r,acc,i,a,h,hi=>by
  by_cases e:i=acc.length
  ·subst e
   rw[Hf,NQ,MP (by simp)] at h
   simp only[List.getElem?_concat_length,Option.some.injEq] at h
   refine⟨o,by simp,fun k A=>?_⟩
   rw[←h,NW] at A
   replace A:=A.resolve_right (by simp)
   rcases List.mem_append.1 A with A | A
   ·exact .inl A
   ·right
    obtain⟨j,F,A⟩:=List.mem_flatMap.1 A
    cases C:acc[j]? with
    | none=>rw[C] at A;simp at A
    | some a' =>
     rw[C] at A;simp at A
     have B:j<acc.length:=(List.getElem?_eq_some_iff.1 C).1
     exact⟨j,a',F,B,by rw[MP B];exact C,A⟩
  ·rw[Hf,NQ] at h
   obtain⟨o',D,G⟩:=ST h (by simp;omega)
   refine⟨o',?_,fun k A=>?_⟩
   ·simp at D
    rw[show i - acc.length=(i - (acc.length+1))+1 by omega];simpa using D
   ·rw[Hf,NQ];exact G k A
theorem n8:∀ {l:List Oper} {n i:Nat} {o:Oper},DQ n l=true→l[i]?=some o→∀ e ∈ o.after,a6 e=true→e.on<n+i
 | [],n,i,o,_,hi,_,_,_=>by simp at hi
 | x::r,n,i,o,h,hi,e,k,A=>by
  rw[DQ] at h;simp only[Bool.and_eq_true] at h
  cases i with
  | zero =>
   simp at hi;subst hi
   have:=List.all_eq_true.1 h.1 e (by simpa using k)
   rw[A] at this;simpa using this
  | succ i =>
   have:=n8 h.2 (by simpa using hi) e k A
   omega
theorem Alq (e:Edge):Region.binds .any e=a6 e:=by
 unfold Region.binds a6
 cases e.ground<;>rfl
theorem Ax2 {listed:Array Bool} (hclosed:∀ (j:Nat) (o:Oper),ops[j]?=some o→listed.getD j true=true→∀ k ∈ SI o,listed.getD k false=true) :
  ∀ (i:Nat) (a:List Nat) (o:Oper),(Hf ops.toList [])[i]?=some a→ops[i]?=some o→(∀ k ∈ SI o,listed.getD k false=true)→∀ k ∈ a,listed.getD k false=true:=by
 intro i
 induction i using Nat.strongRecOn with
 | _ i M =>
  intro a o O S G k T
  obtain⟨o',C,U⟩:=ST O (by simp)
  simp at C
  rw[S] at C;simp at C;subst C
  rcases U k T with D | ⟨j,a',D,V,I,Y⟩
  ·exact G k D
  ·have A:=G j D
   obtain⟨oj,B,_⟩:=ST I (by simp)
   simp at B
   have F:listed.getD j true=true:=by
    rw[Array.getD_eq_getD_getElem?] at A ⊢
    cases L:listed[j]? with
    | none=>rw[L] at A;simp at A
    | some b=>rw[L] at A;simpa using A
   exact M j V a' oj I B (hclosed j oj B F) k Y
def Vf (ops:Array Oper) (listed:Array Bool):List (Nat×Oper):=(A10 0 ops.toList).filter fun p=>!listed.getD p.1 true
theorem bE (listed:Array Bool):(Vf ops listed).Pairwise (fun a b=>a.1<b.1):=(Aam _ _).filter _
theorem NX {listed:Array Bool} {p:Nat×Oper}:p ∈ Vf ops listed↔ops[p.1]?=some p.2∧listed.getD p.1 true=false:=by
 unfold Vf
 rw[List.mem_filter,z9]
 simp
theorem Atl {listed:Array Bool} {i:Nat} {o:Oper} {A B:List (Nat×Oper)} (h:Vf ops listed=A++(i,o)::B):Vf ops (listed.setIfInBounds i true)=A++B:=by
 have hi:(i,o) ∈ Vf ops listed:=by rw[h];simp
 have k:=(NX.1 hi).2
 have D:i<listed.size:=by
  rw[Array.getD_eq_getD_getElem?] at k
  rcases Nat.lt_or_ge i listed.size with F | F
  ·exact F
  ·rw[Array.getElem?_eq_none F] at k;simp at k
 have I:Vf ops (listed.setIfInBounds i true)=(Vf ops listed).filter fun p=>!Nat.beq p.1 i:=by
  unfold Vf
  rw[List.filter_filter]
  congr 1;funext p
  by_cases e:p.1=i
  ·rw[e];simp[D]
  ·rw[getD_set_ne true (fun e'=>e e'.symm),gv e];simp
 rw[I,h,List.filter_append,List.filter_cons]
 have hs:=bE (ops:=ops) listed
 rw[h] at hs
 have C:=List.pairwise_append.1 hs
 have hB:=List.pairwise_cons.1 C.2.1
 have e1:A.filter (fun p=>!Nat.beq p.1 i)=A:=List.filter_eq_self.2 (fun p G=>by
  have:p.1<i:=C.2.2 p G (i,o) (by simp)
  rw[gv (by omega)];rfl)
 have L:B.filter (fun p=>!Nat.beq p.1 i)=B:=List.filter_eq_self.2 (fun p G=>by
  have:i<p.1:=hB.1 p G
  rw[gv (by omega)];rfl)
 rw[e1,L];simp
theorem A3h (hC:lU E) {Q:Exit→Act→World→Prop} {fp:Nat→Foot} {e:St} (hfw:DQ 0 ops.toList=true)
  (V:∀ (i j:Nat) (o:Oper),ops[i]?=some o→j<i→∃ a,(Hf ops.toList [])[i]?=some a∧(j ∈ a∨uL (fp j) (fp i)=true))
  (hQ:∀ a' w' J' β',Inv Z E.nt J' β' e a' w'→Q .normal a' w') :
  ∀ (fuel:Nat) (listed:Array Bool) {st:St} {a:Act} {w:World} {J:Bool→Nat→Prop} {β:C1},listed.size=ops.size→(Vf ops listed).length=fuel →
   (∀ (j:Nat) (o:Oper),ops[j]?=some o→listed.getD j true=true→∀ k ∈ SI o,listed.getD k false=true) →
   RunF E ops fp (Vf ops listed) st e→Inv Z E.nt J β st a w→wpAny E.P .any ops Q fuel listed a w:=by
 intro fuel
 have fin:∀ (listed:Array Bool) {st:St} {a:Act} {w:World} {J:Bool→Nat→Prop} {β:C1},Vf ops listed=[]→RunF E ops fp (Vf ops listed) st e→Inv Z E.nt J β st a w→Region.ready .any ops listed=[]∧Q .normal a w:=by
  intro listed st a w J β hr C I
  refine⟨List.eq_nil_iff_forall_not_mem.2 (fun i hi=>?_),?_⟩
  ·obtain⟨Y,o,L,_⟩:=mem_ready.1 hi
   have:(i,o) ∈ Vf ops listed:=NX.2 ⟨L,Y⟩
   rw[hr] at this;simp at this
  ·rw[hr,RunF] at C
   exact hQ _ _ J β (I.eqv C)
 induction fuel with
 | zero =>
  intro listed st a w J β _ D _ C I
  exact fin listed (List.length_eq_zero_iff.1 D) C I
 | succ fuel ih =>
  intro listed st a w J β hsz D hclosed C I
  refine⟨fun hnil=>?_,fun i hi=>?_⟩
  ·
   cases F:Vf ops listed with
   | nil=>rw[F] at D;simp at D
   | cons p r =>
    exfalso
    have hp:p ∈ Vf ops listed:=by rw[F];simp
    obtain⟨G,hl⟩:=NX.1 hp
    have hs:=bE (ops:=ops) listed
    rw[F] at hs
    have hmin:=(List.pairwise_cons.1 hs).1
    have:p.1 ∈ Region.ready .any ops listed:=mem_ready.2 ⟨hl,p.2,G,fun ed T hb=>by
     rw[Alq] at hb
     have M:=n8 hfw (i:=p.1) (o:=p.2) (by simpa using G) ed T hb
     simp at M
     have hops:ed.on<ops.size:=by have:=(Array.getElem?_eq_some_iff.1 G).1;omega
     cases U:listed.getD ed.on true with
     | true =>
      rw[Array.getD_eq_getD_getElem?] at U ⊢
      rw[Array.getElem?_eq_getElem (by omega)] at U ⊢
      simpa using U
     | false =>
      have hm:(ed.on,ops[ed.on]) ∈ Vf ops listed:=NX.2 ⟨by simp[hops],U⟩
      rw[F] at hm
      rcases List.mem_cons.1 hm with e1 | e1
      ·have:ed.on=p.1:=by rw[←e1]
       omega
      ·have:=hmin _ e1
       simp at this;omega⟩
    rw[hnil] at this;simp at this
  ·obtain⟨hl,o,G,hall⟩:=mem_ready.1 hi
   have hmem:(i,o) ∈ Vf ops listed:=NX.2 ⟨G,hl⟩
   obtain⟨A,B,hAB⟩:=List.append_of_mem hmem
   have S:∀ k ∈ SI o,listed.getD k false=true:=by
    intro k hk
    unfold SI at hk
    obtain⟨ed,T,rfl⟩:=List.mem_map.1 hk
    obtain⟨Y,L⟩:=List.mem_filter.1 T
    exact hall ed (by simpa using Y) (by rw[Alq];exact L)
   have hs:=bE (ops:=ops) listed
   rw[hAB] at hs
   have hs':=List.pairwise_append.1 hs
   rw[hAB] at C
   obtain⟨q,g1,g2,g3⟩:=C.pull (fun jp hjp=>by
    have M:jp.1<i:=hs'.2.2 jp hjp (i,o) (by simp)
    obtain⟨an,Y,L⟩:=V i jp.1 o G M
    rcases L with L | L
    ·exfalso
     have:=Ax2 hclosed i an o Y G S jp.1 L
     have hjm:jp ∈ Vf ops listed:=by rw[hAB];simp[hjp]
     have h3:=(NX.1 hjm).2
     rw[Array.getD_eq_getD_getElem?] at this h3
     cases U:listed[jp.1]? with
     | none=>rw[U] at this;simp at this
     | some b=>rw[U] at this h3;simp at this h3;rw[this] at h3;cases h3
    ·exact L)
   have hone:Asy E ops o st (fun s f=>some (s,f))=some (after E o st q,q.2.2):=by rw[fw,g1];rfl
   obtain⟨st',f,h4,h5⟩:=zy (K:=wpAny E.P .any ops Q fuel (listed.setIfInBounds i true)) (Q:=Q) hC I hone
   simp only[Option.some.injEq,Prod.mk.injEq] at h4
   obtain⟨rfl,rfl⟩:=h4
   have M:i<listed.size:=by rw[hsz];exact(Array.getElem?_eq_some_iff.1 G).1
   have:=h5 (fun a' w' J' β' I'=>ih (listed.setIfInBounds i true) (by simp[hsz]) (by
     rw[Atl hAB];rw[hAB] at D;simp at D ⊢;omega) (fun j oj O hj k hk=>?_) (by rw[Atl hAB];exact g3) I')
   ·unfold wpOp
    rw[G]
    simp only
    split
    ·rename_i hw;rw[if_pos hw] at this;exact .inl this
    ·rename_i hw;rw[if_neg hw] at this;exact this
   ·by_cases e1:j=i
    ·subst e1
     rw[G] at O;simp at O;subst O
     exact getD_set_true (S k hk)
    ·rw[getD_set_ne true (fun e'=>e1 e'.symm)] at hj
     exact getD_set_true (hclosed j oj O hj k hk)
end
end Gx

namespace Gx
open Go
section
variable {R:Type} {r:R} {Z:Start} {E:Env}
theorem Ais (hC:lU E) (hm:E.P.follows .mixedOrders=true) {roots:List Nat} {id:Nat} {ops:Array Oper} {draw:Bool} {st:St} {k:St→Option R} {a:Act} {w:World} {J:Bool→Nat→Prop} {β:C1} {Q:Exit→Act→World→Prop}
  (I:Inv Z E.nt J β st a w) (S:fj E roots ops draw st k=some r) (hQ:∀ st' a' w' J' β',Inv Z E.nt J' β' st' a' w'→k st'=some r→Q .normal a' w'):(Code.region id ops draw).wp E.P Q a w:=by
 unfold fj at S
 have done:∀ {st':St} {tr:List Foot} {a':Act} {w':World} {J':Bool→Nat→Prop} {β':C1},Inv Z E.nt J' β' st' a' w' →
   cond (!draw||(DQ 0 ops.toList&&fi tr.reverse (Hf ops.toList []) [])) ((clean (st'.s.map (·.1)) roots st').bind k) none=some r→Q .normal a' w':=by
  intro st' tr a' w' J' β' I' h'
  obtain⟨_,M⟩:=uc h'
  obtain⟨uT,O,Y⟩:=ub M
  obtain⟨β2,I2⟩:=Ate I' O
  exact hQ _ _ _ _ _ I2 Y
 cases draw with
 | false=>exact wp_region_list (Aab hC _ I S (fun st' tr' a' w' J' β' I' h'=>done I' h'))
 | true =>
  obtain⟨fs,e,M,O⟩:=Atk S
  obtain⟨hc,Y⟩:=uc M
  simp at hc
  obtain⟨T,D⟩:=hc
  have F:=O.length
  refine wp_region_any hm ?_
  have I':Inv Z E.nt J β st a w.drew:=I.step (Step.drew I.sim) (fun b x hx hn=>by rw[hx] at hn;cases hn)
  have A:Vf ops (Array.replicate ops.size false)=A10 0 ops.toList:=by
   unfold Vf
   refine List.filter_eq_self.2 (fun p hp=>?_)
   have:=(z9.1 hp).2
   have B:p.1<ops.size:=by
    simp at this
    exact(Array.getElem?_eq_some_iff.1 this).1
   simp[B]
  have G:(A10 0 ops.toList).length=ops.size:=by
   have:∀ (l:List Oper) (n:Nat),(A10 n l).length=l.length:=by
    intro l
    induction l with
    | nil=>intro n;rfl
    | cons o r ih=>intro n;simp[A10,ih]
   rw[this];simp
  have L:RunF E ops (fun i=>fs.getD i { r:=[],w:=none,f:=[],u:=[] }) (A10 0 ops.toList) st e:=O.runF (fun j f C=>by simp[C])
  refine A3h hC (fp:=fun i=>fs.getD i { r:=[],w:=none,f:=[],u:=[] }) (e:=e) T (fun i j o U V=>?_) (fun a' w' J' β' Ie=>done (tr:=fs.reverse++[]) Ie M) ops.size _ (by simp) (by rw[A,G]) (fun j o U C=>?_) (by rw[A];exact L) I'
  ·have hi:i<fs.length:=by rw[F];simpa using(Array.getElem?_eq_some_iff.1 U).1
   obtain⟨an,g1,g2⟩:=Aan D i fs[i] (List.getElem?_eq_getElem hi)
   refine⟨an,g1,?_⟩
   have C:j<fs.length:=by omega
   have:=g2 j fs[j] (by simp[C]) (by simpa using V)
   simpa[hi,C] using this
  ·exfalso
   have B:j<ops.size:=(Array.getElem?_eq_some_iff.1 U).1
   simp[B] at C
end
end Gx

namespace Gx
open Go
theorem n9 (ρ:Nat→Nat):∀ c:List AV,(AM ρ c).length=c.length
 | []=>rfl
 | x::r=>by rw[AM,List.length_cons,List.length_cons,n9 ρ r]
theorem Oe (ρ:Nat→Nat) (x:Blk):(MJ ρ x).cells.length=x.cells.length:=by
 unfold MJ;cases x.pure
 ·simp;exact n9 _ _
 ·rfl
theorem Alr {ρ:Nat→Nat}:∀ {c:List AV} {j:Nat} {y:AV},(AM ρ c)[j]?=some y→∃ x,c[j]?=some x∧y=gt ρ x
 | [],j,y,k=>by simp[AM] at k
 | x::r,j,y,k=>by
  rw[AM] at k
  cases j with
  | zero=>simp at k;exact⟨x,by simp,k.symm⟩
  | succ j=>obtain⟨x',A,B⟩:=Alr (c:=r) (j:=j) (by simpa using k);exact⟨x',by simpa using A,B⟩
section
variable {R:Type} {r:R} {J J':Bool→Nat→Prop} {β β':C1} {h h':Am} {w w':World} {ids:List Nat} {ρ:Nat→Nat}
theorem Px {g:B8}:∀ {ids:List Nat},(ids.map ρ).Nodup→∀ c y,Au (sub g ρ ids) c=some y→∃ b x,b ∈ ids∧ρ b=c∧g b=some x∧y=MJ ρ x
 | [],_,c,y,k=>by simp[sub,Au] at k
 | b::r,hn,c,y,k=>by
  rw[List.map_cons,List.nodup_cons] at hn
  rw[sub] at k
  split at k
  ·rename_i x F
   rw[Ai] at k
   by_cases e:c=ρ b
   ·rw[if_pos e] at k;simp at k
    exact⟨b,x,by simp,e.symm,F,k.symm⟩
   ·rw[if_neg e] at k
    obtain⟨b',x',A,B,C,D⟩:=Px hn.2 c y k
    exact⟨b',x',by simp[A],B,C,D⟩
  ·obtain⟨b',x',A,B,C,D⟩:=Px hn.2 c y k
   exact⟨b',x',by simp[A],B,C,D⟩
theorem IS {g:B8}:∀ {ids:List Nat},(ids.map ρ).Nodup→∀ b x,b ∈ ids→g b=some x→Au (sub g ρ ids) (ρ b)=some (MJ ρ x)
 | [],_,b,x,k,_=>by simp at k
 | b'::r,hn,b,x,k,A=>by
  rw[List.map_cons,List.nodup_cons] at hn
  rw[sub]
  by_cases e:b=b'
  ·subst e
   rw[A]
   simp only
   rw[Ai,if_pos rfl]
  ·have B:b ∈ r:=by simpa[e] using k
   have ne:ρ b≠ρ b':=fun h=>hn.1 (by rw[←h];exact List.mem_map.2 ⟨b,B,rfl⟩)
   split
   ·rw[Ai,if_neg ne];exact IS hn.2 b x B A
   ·exact IS hn.2 b x B A
def A6r (ρ:Nat→Nat) (ids:List Nat) (c:Nat):Option Nat:=ids.find? fun b=>Nat.beq (ρ b) c
theorem A6s (hn:(ids.map ρ).Nodup) {b:Nat} (k:b ∈ ids):A6r ρ ids (ρ b)=some b:=by
 induction ids with
 | nil=>simp at k
 | cons i r A =>
  rw[List.map_cons,List.nodup_cons] at hn
  unfold A6r at A ⊢
  rw[List.find?_cons]
  by_cases e:b=i
  ·subst e;simp
  ·have B:b ∈ r:=by simpa[e] using k
   have ne:ρ i≠ρ b:=fun h=>hn.1 (by rw[h];exact List.mem_map.2 ⟨b,B,rfl⟩)
   rw[gv ne];exact A hn.2 B
def WJ (ρ:Nat→Nat) (ids:List Nat) (β:C1):C1:=fun c=>(A6r ρ ids c).bind β
theorem Hs (hn:(ids.map ρ).Nodup) {b:Nat} (k:b ∈ ids):WJ ρ ids β (ρ b)=β b:=by
 unfold WJ;rw[A6s hn k];rfl
mutual
theorem Rep.ren (hn:(ids.map ρ).Nodup):∀ {x:AV} {v:Value},(∀ b ∈ Hp x,b ∈ ids)→Rep J β h w x v→Rep J (WJ ρ ids β) (sub (Au h) ρ ids) w (gt ρ x) v
 | .own b off n,v,hm,hr=>by
  rw[Rep] at hr
  obtain⟨x,A,cap,⟨hx,hmp⟩,h1,h2,h3⟩:=hr
  have hb:=hm b (by simp[Hp])
  rw[gt,Rep]
  refine⟨MJ ρ x,A,cap,⟨IS hn b x hb hx,hmp⟩,h1,h2,?_⟩
  rw[Oe,Hs hn hb]
  exact h3
 | .optr b off,v,hm,hr=>by
  rw[Rep] at hr
  obtain⟨x,k,o,⟨hx,hmp⟩,h1,h2⟩:=hr
  have hb:=hm b (by simp[Hp])
  rw[gt,Rep]
  refine⟨MJ ρ x,k,o,⟨IS hn b x hb hx,hmp⟩,h1,?_⟩
  rw[Hs hn hb]
  exact h2
 | .omap b,v,hm,hr=>by
  rw[Rep] at hr
  obtain⟨x,k,⟨hx,hmp⟩,h1,h2⟩:=hr
  have hb:=hm b (by simp[Hp])
  rw[gt,Rep]
  refine⟨MJ ρ x,k,⟨IS hn b x hb hx,hmp⟩,h1,?_⟩
  rw[Hs hn hb]
  exact h2
 | .agg c,v,hm,hr=>by
  rw[Rep] at hr
  obtain⟨cs,h1,h2⟩:=hr
  rw[gt,Rep]
  exact⟨cs,h1,Reps.ren hn (by simpa[Hp] using hm) h2⟩
 | .tup c,v,hm,hr=>by
  rw[Rep] at hr
  obtain⟨cs,h1,h2⟩:=hr
  rw[gt,Rep]
  exact⟨cs,h1,Reps.ren hn (by simpa[Hp] using hm) h2⟩
 | .fn f c,v,hm,hr=>by
  rw[Rep] at hr
  obtain⟨cs,h1,h2⟩:=hr
  rw[gt,Rep]
  exact⟨cs,h1,Reps.ren hn (by simpa[Hp] using hm) h2⟩
 | .pagg c o,v,hm,hr=>by show Rep J _ _ w (.pagg c o) v;rw[Rep] at hr ⊢;exact hr
 | .undef,v,hm,hr=>by show Rep J _ _ w (.undef) v;rw[Rep] at hr ⊢;exact hr
 | .imm c n sz t o,v,hm,hr=>by show Rep J _ _ w (.imm c n sz t o) v;rw[Rep] at hr ⊢;exact hr
 | .iptr c o,v,hm,hr=>by show Rep J _ _ w (.iptr c o) v;rw[Rep] at hr ⊢;exact hr
 | .int k n,v,hm,hr=>by show Rep J _ _ w (.int k n) v;rw[Rep] at hr ⊢;exact hr
 | .bool b,v,hm,hr=>by show Rep J _ _ w (.bool b) v;rw[Rep] at hr ⊢;exact hr
 | .str s,v,hm,hr=>by show Rep J _ _ w (.str s) v;rw[Rep] at hr ⊢;exact hr
 | .nsl,v,hm,hr=>by show Rep J _ _ w (.nsl) v;rw[Rep] at hr ⊢;exact hr
 | .nilptr,v,hm,hr=>by show Rep J _ _ w (.nilptr) v;rw[Rep] at hr ⊢;exact hr
 | .nilfn,v,hm,hr=>by show Rep J _ _ w (.nilfn) v;rw[Rep] at hr ⊢;exact hr
theorem Reps.ren (hn:(ids.map ρ).Nodup):∀ {c:List AV} {cs:List Value},(∀ b ∈ Jl c,b ∈ ids)→Reps J β h w c cs→Reps J (WJ ρ ids β) (sub (Au h) ρ ids) w (AM ρ c) cs
 | [],cs,hm,hr=>by rw[Reps] at hr;rw[AM,Reps];exact hr
 | x::r,cs,hm,hr=>by
  rw[Reps] at hr
  obtain⟨u,us,h1,h2,h3⟩:=hr
  rw[AM,Reps]
  exact⟨u,us,h1,Rep.ren hn (fun b hb=>hm b (by simp[Jl,hb])) h2,Reps.ren hn (fun b hb=>hm b (by simp[Jl,hb])) h3⟩
end
theorem SimH.ren (S:SimH J β h w) (hn:(ids.map ρ).Nodup) (T:∀ b ∈ Mq (Au h) ids,b ∈ ids):SimH J (WJ ρ ids β) (sub (Au h) ρ ids) w:=by
 refine⟨S.jlt,S.jft,fun c y G I U=>?_,fun c y G I U=>by
   obtain⟨b,x,B,rfl,D,rfl⟩:=Px hn c y G
   obtain⟨F,L,k,es,clk,V,Y,O,g6⟩:=S.mblk b x D I U
   have:(MJ ρ x).cells=x.cells:=by unfold MJ;rw[F];rfl
   exact⟨F,L,k,es,clk,by rw[Hs hn B];exact V,Y,by rw[this];exact O,g6⟩,?_⟩
 ·obtain⟨b,x,B,rfl,D,rfl⟩:=Px hn c y G
  rcases S.blk b x D I U with⟨F,L⟩ | ⟨k,o,cs,ty,fr,F,L,V,Y,O,g6,g7⟩
  ·refine .inl ⟨by rw[Hs hn B];exact F,?_⟩
   have:=Oe ρ x;rw[L] at this;simpa using this
  ·refine .inr ⟨k,o,cs,ty,fr,by rw[Hs hn B];exact F,L,V,by rw[Oe];exact Y,⟨fun hp=>?_,fun hp j q hj=>?_⟩,g6,g7⟩
   ·have A:x.pure=true:=hp
    have:(MJ ρ x).cells=x.cells:=by unfold MJ;rw[A];rfl
    rw[this];exact O.1 A
   ·have A:x.pure=false:=hp
    have:(MJ ρ x).cells=AM ρ x.cells:=by unfold MJ;rw[A];rfl
    rw[this] at hj
    obtain⟨q',hq,rfl⟩:=Alr hj
    obtain⟨u,hu,hr,ho⟩:=O.2 A j q' hq
    exact⟨u,hu,Rep.ren hn (fun b' C=>T b' (sD B D A b' (sE hq b' C))) hr,ho⟩
 ·intro c c' y y' k o o' G hy' I hd' hs hβ M
  obtain⟨b,x,B,rfl,D,rfl⟩:=Px hn c y G
  obtain⟨b',x',C,rfl,hx',rfl⟩:=Px hn c' y' hy'
  rw[Hs hn B] at hβ
  rw[Hs hn C] at M
  rw[S.sep b b' x x' k o o' D hx' I hd' hs hβ M]
theorem Apl (hn:(ids.map ρ).Nodup) {k:Nat} (B:As0 (WJ ρ ids β) (sub (Au h) ρ ids) k):As0 β h k:=by
 obtain⟨c,y,o,C,D,hs,A⟩:=B
 obtain⟨b,x,F,rfl,G,rfl⟩:=Px hn c y C
 rw[Hs hn F] at A
 exact⟨b,x,o,G,D,hs,A⟩
end
end Gx

namespace Gx
open Go
theorem Qy {ids:List Nat}:∀ {l:List Nat},WB ids l=true→∀ b ∈ l,b ∈ ids
 | [],_,b,k=>by simp at k
 | i::r,h,b,k=>by
  rw[WB] at h
  simp at h
  rcases List.mem_cons.1 k with rfl | k
  ·exact Ms.1 h.1
  ·exact Qy h.2 b k
theorem EQ {d:Nat}:∀ {l:List Nat} {base b:Nat},b ∈ l→base≤J6 d (A8 base l) b∧J6 d (A8 base l) b<base+l.length
 | [],base,b,k=>by simp at k
 | i::r,base,b,k=>by
  rw[A8,J6]
  cases hi:Nat.beq i b with
  | true=>simp
  | false =>
   have A:=AN hi
   have B:b ∈ r:=by
    rcases List.mem_cons.1 k with h | h
    ·exact absurd h.symm A
    ·exact h
   have:=EQ (d:=d) (base:=base+1) B
   simp only[cond_false,List.length_cons]
   omega
theorem Atm {free ids:List Nat} {b:Nat} (h:NR free b=true):EL free ids b=b:=by unfold EL;rw[h];rfl
theorem Apm {free ids:List Nat} {b:Nat} (h:NR free b=false) (k:b ∈ ids):300000≤EL free ids b:=by
 unfold EL A6j;rw[h]
 exact(EQ (List.mem_filter.2 ⟨k,by simp[h]⟩)).1
theorem Aao {b:Nat}:zn b=true↔100000≤b∧b<200000:=by unfold zn;simp
theorem uf {free ids:List Nat} {b c:Nat} (A:b ∈ ids) (B:100000≤c∧c<200000) (k:EL free ids b=c):b=c:=by
 cases hr:NR free b with
 | true=>rw[Atm hr] at k;exact k
 | false=>have:=Apm hr A;omega
theorem NY {ρ:Nat→Nat} {K:List Nat}:∀ {s:Ho} {i:Nat},Gu (A6k ρ K s) i=if Kj K i=true then gt ρ (Gu s i) else .undef
 | [],i=>by
  show AV.undef=if Kj K i=true then gt ρ .undef else AV.undef
  simp[gt]
 | (t,v)::r,i=>by
  rw[A6k]
  by_cases e:t=i
  ·subst e
   cases k:Kj K t with
   | true=>simp[Gu]
   | false=>simp only[cond_false];rw[NY];simp[k]
  ·have A:Nat.beq t i=false:=gv e
   cases k:Kj K t with
   | true=>simp only[cond_true,Gu,A,cond_false];exact NY
   | false=>simp only[cond_false,Gu,A];exact NY
theorem Atn {g:B8} {l:List Nat} {b:Nat} (h:b ∈ IM g l):∃ x,g b=some x∧x.dead=false:=by
 unfold IM at h
 obtain⟨_,k⟩:=List.mem_filter.1 h
 unfold Kh at k
 cases A:g b with
 | none=>simp[A] at k
 | some x =>
  cases B:x.dead with
  | false=>exact⟨x,rfl,B⟩
  | true=>simp[A,B] at k
section
variable {Z:Start} {nt:Nat} {J:Bool→Nat→Prop} {β:C1} {st st':St} {a:Act} {w:World}
def AV.isz:AV→Nat
 | .imm _ _ s _ _=>s
 | _=>0
theorem Py {live:List Nat}:∀ (nils:List (Nat×Nat)) {st:St} {J:Bool→Nat→Prop} {β:C1},Inv Z nt J β st a w→SK live nils st=some st'→∃ J' β',Inv Z nt J' β' st' a w
 | [],st,J,β,I,k=>by simp[SK] at k;subst k;exact⟨J,β,I⟩
 | (t,sz)::r,st,J,β,I,k=>by
  rw[SK] at k
  cases G:Nat.ble 1000000 sz with
  | true =>
   rw[G,cond_true] at k
   split at k
   ·rename_i Y hs
    refine Py r (J:=J) (β:=β) (st:={ s:=lL st.s t (.imm [] 0 (sz - 1000000) false false),h:=st.h }) ?_ k
    refine { I with ss:=⟨fun i v C=>?_,fun i hi=>?_⟩ }
    ·rw[Pu]
     by_cases e:i=t
     ·subst e
      have:=I.ss.slot i v C
      rw[hs,Rep] at this
      subst this
      rw[if_pos rfl,Rep,RepC]
      exact⟨by simp,none,0,rfl,Nat.le_refl _,fun _=>rfl,.inl rfl⟩
     ·rw[if_neg e];exact I.ss.slot i v C
    ·rw[Pu]
     by_cases e:i=t
     ·subst e
      have:=I.ss.out i hi
      rw[hs] at this;cases this
     ·rw[if_neg e];exact I.ss.out i hi
   ·rename_i b off n Y hs
    obtain⟨⟨v',ups,org⟩,L,h1⟩:=ub k
    by_cases M:∃ v,a.tmps[t]?=some v
    ·obtain⟨v0,O⟩:=M
     have hr:=I.ss.slot t v0 O
     rw[hs] at hr
     obtain⟨J1,A,D,_⟩:=a_ I.sim (fun b x hb=>⟨x,hb,rfl⟩) L hr
     have I1:=I.step A (fun c x F hn=>by
      exfalso
      unfold iR at L
      obtain⟨y,T,B⟩:=ub L
      obtain⟨_,B⟩:=uc B
      simp at B
      obtain⟨_,B,_⟩:=B
      subst B
      simp only[At,Ai] at F
      unfold Kh at T
      obtain⟨y0,S,_⟩:=ub T
      by_cases e:c=b
      ·subst e;rw[hn] at S;cases S
      ·rw[if_neg e,hn] at F;cases F)
     refine Py r (J:=J1) (β:=β) (st:={ s:=lL st.s t v',h:=At ups st.h }) ?_ h1
     have U:∃ c,v'=.imm c n (v'.isz) false org:=by
      unfold iR at L
      obtain⟨y,T,B⟩:=ub L
      obtain⟨_,B⟩:=uc B
      simp at B
      obtain⟨B,_,h3⟩:=B
      subst B h3
      exact⟨_,rfl⟩
     refine { I1 with ss:=⟨fun i v C=>?_,fun i hi=>?_⟩ }
     ·rw[Pu]
      by_cases e:i=t
      ·subst e
       rw[if_pos rfl]
       rw[O] at C;simp at C;subst C
       obtain⟨c,hc⟩:=U
       rw[hc] at D ⊢
       rw[Rep];exact D
      ·rw[if_neg e];exact I1.ss.slot i v C
     ·rw[Pu]
      by_cases e:i=t
      ·subst e
       have:=I.ss.out i hi
       rw[hs] at this;cases this
      ·rw[if_neg e];exact I1.ss.out i hi
    ·exfalso
     have:=I.ss.out t (by
      cases h:a.tmps[t]? with
      | none=>simp at h;omega
      | some v=>exact absurd ⟨v,h⟩ M)
     rw[hs] at this;cases this
   ·exact Py r I k
  | false =>
   rw[G,cond_false] at k
   split at k
   ·rename_i Y hs
    cases V:Au st.h (nid t+15) with
    | some x=>simp[V] at k
    | none =>
     simp[V] at k
     have A:=Step.newNone I.sim (d:=nid t+15) (x:=Gv sz) V rfl
     have I1:=I.step A (fun b x F hn=>by
      rw[Ai] at F
      by_cases e:b=nid t+15
      ·subst e;unfold nid H9;omega
      ·rw[if_neg e,hn] at F;cases F)
     refine Py r (J:=J) (β:=fun b=>if b=nid t+15 then none else β b) (st:={ s:=lL st.s t (.own (nid t+15) 0 0),h:=G0 st.h (nid t+15) (Gv sz) }) ?_ k
     refine { I1 with ss:=⟨fun i v C=>?_,fun i hi=>?_⟩ }
     ·rw[Pu]
      by_cases e:i=t
      ·subst e
       rw[if_pos rfl,Rep]
       have:=I.ss.slot i v C
       rw[hs,Rep] at this
       subst this
       exact⟨Gv sz,none,0,⟨by rw[Ai,if_pos rfl],rfl⟩,rfl,Nat.le_refl _,.inl rfl⟩
      ·rw[if_neg e];exact I1.ss.slot i v C
     ·rw[Pu]
      by_cases e:i=t
      ·subst e
       have:=I.ss.out i hi
       rw[hs] at this;cases this
      ·rw[if_neg e];exact I1.ss.out i hi
   ·exact Py r I k
theorem bF {E:Env} {live roots:List Nat} (I:Inv Z nt J β st a w) (D:nT E live roots st=some st'):∃ J' β',Inv Z nt J' β' st' a w:=by
 unfold nT at D
 obtain⟨s1,M,O⟩:=ub D
 obtain⟨J1,β1,I1⟩:=Py _ I M
 obtain⟨F,G⟩:=uc O
 simp at F G
 subst G
 obtain⟨hn,hs,hi,_⟩:=F
 have hn:=V6 hn
 have B:∀ b ∈ Mq (Au s1.h) (IM (Au s1.h) (EI (Au s1.h) (zl live s1.s++roots))),b ∈ IM (Au s1.h) (EI (Au s1.h) (zl live s1.s++roots)):=Qy hi
 refine⟨J1,WJ _ _ β1,{ I1 with sim:=I1.sim.ren hn B,ss:=⟨fun i v S=>?_,fun i hi=>?_⟩,wr:=fun k T=>I1.wr k (Apl hn T),outs:=fun b x0 x C U V=>?_ }⟩
 ·rw[NY]
  cases Y:Kj live i with
  | false=>simp[Rep]
  | true =>
   simp only[if_true]
   exact Rep.ren hn (fun b hb=>Qy hs b (Aad Y b hb)) (I1.ss.slot i v S)
 ·rw[NY,I1.ss.out i hi];simp[gt]
 ·obtain⟨b',x',A,L,hg,rfl⟩:=Px hn b x U
  have:=uf A ⟨I1.zge b x0 C,I1.zlt b x0 C⟩ L
  subst this
  obtain⟨⟨e1,em⟩,e2,e3,e4⟩:=I1.outs b' x0 x' C hg V
  refine⟨⟨?_,em⟩,e2,by rw[Oe];exact e3,e4⟩
  have:=Hs (β:=β1) hn A
  rw[L] at this
  rw[this];exact e1
end
end Gx

namespace Gx
open Go
section
variable {R:Type} {r:R} {Z:Start} {E:Env}
theorem Ato (hC:lU E) (T:E.P.follows .mixedOrders=true) {roots:List Nat} {N:Nat}:∀ (c:Code) {H:Hint} {kn:St→Option R} {kx:Nat→St→Option R} {kr:St→Option R} {st:St} {a:Act} {w:World} {J:Bool→Nat→Prop} {β:C1} {Q:Exit→Act→World→Prop},
  Inv Z E.nt J β st a w→Gw E roots N c H kn kx kr st=some r →
  (∀ st' a' w' J' β',Inv Z E.nt J' β' st' a' w'→kn st'=some r→Q .normal a' w') →
  (∀ id st' a' w' J' β',Inv Z E.nt J' β' st' a' w'→kx id st'=some r→Q (.exit id) a' w') →
  (∀ st' a' w' J' β',Inv Z E.nt J' β' st' a' w'→kr st'=some r→Q .ret a' w')→c.wp E.P Q a w:=by
 intro c
 induction c with
 | skip=>intro H kn kx kr st a w J β Q I A hn B hr;exact wp_skip (hn _ _ _ _ _ I A)
 | region id ops draw=>intro H kn kx kr st a w J β Q I A hn B hr;exact Ais hC T I A hn
 | seq x y D C =>
  intro H kn kx kr st a w J β Q I A hn B hr
  rw[Gw] at A
  refine wp_seq (D I A (fun st' a' w' J' β' I' h'=>?_) (fun id st' a' w' J' β' I' h'=>B id st' a' w' J' β' I' h') (fun st' a' w' J' β' I' h'=>hr st' a' w' J' β' I' h'))
  unfold A28 at h'
  cases F:H.isJoin with
  | true =>
   rw[F,cond_true,IN] at h'
   obtain⟨s2,G,L⟩:=ub h'
   obtain⟨J2,β2,I2⟩:=bF I' G
   exact C I2 L hn B hr
  | false=>rw[F] at h';exact C I' h' hn B hr
 | cond c x y D C =>
  intro H kn kx kr st a w J β Q I A hn B hr
  rw[Gw] at A
  split at A
  ·rename_i t U
   have S:=Bp I.ss c
   rw[U,Rep] at S
   refine wp_cond S ?_
   cases t with
   | true=>exact D I A hn B hr
   | false=>exact C I A hn B hr
  ·simp at A
 | block id c M =>
  intro H kn kx kr st a w J β Q I A hn B hr
  rw[Gw] at A
  refine wp_block (M I A (fun st' a' w' J' β' I' h'=>hn _ _ _ _ _ I' h') (fun j st' a' w' J' β' I' h'=>?_) (fun st' a' w' J' β' I' h'=>hr _ _ _ _ _ I' h'))
  cases F:Nat.beq j id with
  | true =>
   rw[F] at h'
   have:=Nat.eq_of_beq_eq_true F
   subst this
   simp only[Exit.inBlock,if_true]
   exact hn _ _ _ _ _ I' h'
  | false =>
   rw[F] at h'
   simp only[Exit.inBlock]
   rw[if_neg (AN F)]
   exact B _ _ _ _ _ _ I' h'
 | loop c M =>
  intro H kn kx kr st a w J β Q I A hn B hr
  rw[Gw,IN] at A
  refine wp_loop_rounds N ?_
  have key:∀ (n:Nat) {st:St} {a:Act} {w:World} {J:Bool→Nat→Prop} {β:C1},Inv Z E.nt J β st a w→a7 (nT E H.live roots) (fun k st=>Gw E roots N c H.a k kx kr st) n st=some r→Code.rounds E.P c Q n a w:=by
   intro n
   induction n with
   | zero=>intro st a w J β I h';simp[a7] at h'
   | succ n O =>
    intro st a w J β I h'
    rw[a7] at h'
    rw[rounds_succ]
    refine M I h' (fun st' a' w' J' β' I' h''=>?_) (fun id st' a' w' J' β' I' h''=>B _ _ _ _ _ _ I' h'') (fun st' a' w' J' β' I' h''=>hr _ _ _ _ _ I' h'')
    obtain⟨s2,G,L⟩:=ub h''
    obtain⟨J2,β2,I2⟩:=bF I' G
    exact O I2 L
  obtain⟨s2,G,L⟩:=ub A
  obtain⟨J2,β2,I2⟩:=bF I G
  exact key N I2 L
 | exit id=>intro H kn kx kr st a w J β Q I A hn B hr;exact wp_exit (B _ _ _ _ _ _ I A)
 | ret=>intro H kn kx kr st a w J β Q I A hn B hr;exact wp_ret (hr _ _ _ _ _ I A)
 | rangeFunc=>intro H kn kx kr st a w J β Q I A;simp[Gw] at A
 | scope=>intro H kn kx kr st a w J β Q I A;simp[Gw] at A
 | label=>intro H kn kx kr st a w J β Q I A;simp[Gw] at A
 | goto=>intro H kn kx kr st a w J β Q I A;simp[Gw] at A
 | refuse=>intro H kn kx kr st a w J β Q I A;simp[Gw] at A
end
end Gx

namespace Gx
open Go
structure FDone (Z:Start) (J:Bool→Nat→Prop) (β:C1) (h:Am) (w:World):Prop where
 sim:SimH J β h w
 os:w.os=Z.w.os
 tape:w.tape=Z.w.tape
 output:w.output=Z.w.output
 size:Z.w.heap.size≤w.heap.size
 frame:∀ k,k<Z.w.heap.size→¬ As0 Z.β Z.h k→w.heap[k]?=Z.w.heap[k]?
 wr:∀ k,As0 β h k→k<Z.w.heap.size→As0 Z.β Z.h k
 jsub:∀ o k,Z.J o k→J o k
 jup:∀ o k,J o k→Z.J o k∨As0 Z.β Z.h k∨Z.w.heap.size≤k
 sizes:∀ k,Bt Z.w k≤Bt w k
 outs:∀ b x0 x,Au Z.h b=some x0→Au h b=some x→x.dead=false→(β b=Z.β b∧x.mp=x0.mp)∧x.sz=x0.sz∧(x0.mp=false→x.cells.length=x0.cells.length)∧x0.dead=false
 live:∀ b x,Au h b=some x→x.dead=false
def Bc5 (P:Program) (f:Nat) (args:List AV) (h:Am) (res:AV) (h':Am):Prop :=
 ∀ (J:Bool→Nat→Prop) (β:C1) (w:World) (vs:List Value),SimH J β h w→Reps J β h w args vs →
  Calls P f vs.toArray w fun e w'=>∃ vc J' β',e=.returned vc∧FDone ⟨J,β,h,w⟩ J' β' h' w'∧Rep J' β' h' w' res vc
def A1 (P:Program) (f:Nat) (t:Tw):Prop:=∀ args h res h',(t.runK args h fun v h'=>some (v,h'))=some (res,h')→Bc5 P f args h res h'
def Aap (P:Program):List (Nat×Tw)→Prop
 | []=>True
 | p::r=>A1 P p.1 p.2∧Aap P r
theorem Atp {P:Program} {R:Type} {r:R}:∀ {T:List (Nat×Tw)},Aap P T→∀ {f:Nat} {args:List AV} {h:Am} {k:AV→Am→Option R},nQ T f args h k=some r →
  ∃ res h',Bc5 P f args h res h'∧k res h'=some r
 | [],_,f,args,h,k,A=>by simp[nQ] at A
 | (g,t)::T,hT,f,args,h,k,A=>by
  rw[nQ] at A
  cases B:Nat.beq g f with
  | false=>rw[B] at A;exact Atp hT.2 A
  | true =>
   rw[B] at A
   have:=Nat.eq_of_beq_eq_true B
   subst this
   simp only[cond_true] at A
   rw[t.eq] at A
   obtain⟨⟨res,h'⟩,C,D⟩:=ub A
   exact⟨res,h',hT.1 args h res h' C,D⟩
section
variable {R:Type} {r:R} {Z:Start} {nt:Nat} {J:Bool→Nat→Prop} {β:C1} {st:St} {a:Act} {w:World}
def n_ (tmps:Array Value):ResultVar→Sem Value
 | .tmp t=>pure (tmps.getD t undef)
 | .cell a t=>do loadVar t (←Go.asAddr (tmps.getD a undef))
theorem A6t {α β:Type} (f:α→Sem β) (xs:Array α):xs.mapM f=(List.toArray <$> xs.toList.mapM f):=by
 rw[←List.mapM_toArray]
theorem Ax3 (fn:Func) (tmps:Array Value):results fn tmps=(do let vs ←fn.results.mapM (n_ tmps);pure (if h:vs.size=1 then vs[0] else .tuple vs)):=by
 unfold results
 congr 1
def Atq (l:List Value):Value:=match l with | [v]=>v | l=>.tuple l.toArray
theorem Atr {P:Program} (fn:Func) (tmps:Array Value) {vs:List Value} (h:(fn.results.toList.mapM (n_ tmps)).run P w=.ok vs w):(results fn tmps).run P w=.ok (Atq vs) w:=by
 rw[Ax3,A6t]
 simp only[map_eq_pure_bind,Sem.run_bind,h,Result.andThen_ok,Sem.run_pure]
 congr 1
 match vs with
 | []=>rfl
 | [v]=>rfl
 | v::u::r=>simp[Atq]
theorem Ats {P:Program} {t:TypeId} {v vc:Value} (h:(Instr.loadAt t v).run P w=.ok vc w):(do loadVar t (←Go.asAddr v):Sem Value).run P w=.ok vc w:=by
 unfold Instr.loadAt at h
 cases v with
 | pointer a =>
  cases a with
  | some a=>exact h
  | none=>simp[Instr.sureAddr] at h
 | _=>simp[Instr.sureAddr] at h
theorem MQ {E:Env} (S:SimH J β st.h w) (SS:SimS J β st.h w st.s a.tmps):∀ (l:List ResultVar) {acc:List AV} {k:List AV→Option R},Pt E st l acc k=some r →
  ∃ vals vs,k (acc.reverse++vals)=some r∧(l.mapM (n_ a.tmps)).run E.P w=.ok vs w∧Reps J β st.h w vals vs
 | [],acc,k,A=>⟨[],[],by simpa[Pt] using A,by simp,by rw[Reps]⟩
 | .tmp t::l,acc,k,A=>by
  rw[Pt] at A
  obtain⟨vals,vs,B,C,D⟩:=MQ S SS l A
  refine⟨Gu st.s t::vals,a.tmps.getD t undef::vs,by simpa using B,?_,by rw[Reps];exact⟨_,_,rfl,Bp SS (.tmp t),D⟩⟩
  simp only[List.mapM_cons,n_,Sem.run_bind,Sem.run_pure,Result.andThen_ok,C]
 | .cell ad t::l,acc,k,A=>by
  rw[Pt] at A
  obtain⟨v,vc,F,B,C⟩:=uO S (fun _ _ h=>h) A (Bp SS (.tmp ad))
  obtain⟨vals,vs,D,G,I⟩:=MQ S SS l F
  refine⟨v::vals,vc::vs,by simpa using D,?_,by rw[Reps];exact⟨_,_,rfl,C,I⟩⟩
  have:(n_ a.tmps (.cell ad t)).run E.P w=.ok vc w:=Ats B
  simp only[List.mapM_cons,Sem.run_bind,this,Sem.run_pure,Result.andThen_ok,G]
theorem Ax4 {i:Nat} {m:Nat×Nat} {v v':AV} {ups:If} {vc:Value} {h:Am} (S:SimH J β h w) (k:Baz (Au h) i m v=some (v',ups)) (B:Rep J β h w v vc) :
  ∃ J' β',Step J β h w J' β' (At ups h) w∧Rep J' β' (At ups h) w v' vc∧(∀ b x,Au (At ups h) b=some x→Au h b=none→H9≤b):=by
 have old:∀ {ups:If},(∀ b,Bh ups b=true→∃ x,Au h b=some x)→∀ b x,Au (At ups h) b=some x→Au h b=none→H9≤b:=by
  intro ups U b x C hn
  cases hi:Bh ups b with
  | true=>obtain⟨y,V⟩:=U b hi;rw[V] at hn;cases hn
  | false=>rw[C9 _ _ _ hi,hn] at C;cases C
 unfold Baz at k
 cases M:Nat.beq m.1 0 with
 | true =>
  rw[M] at k;simp at k
  obtain⟨rfl,rfl⟩:=k
  exact⟨J,β,Step.refl S,B,old (by simp[Bh])⟩
 | false =>
  rw[M,cond_false] at k
  cases O:Nat.beq m.1 1 with
  | true =>
   rw[O,cond_true] at k
   split at k
   ·simp at k;obtain⟨rfl,rfl⟩:=k
    rw[Rep] at B;subst B
    refine⟨J,β,Step.refl S,?_,old (by simp[Bh])⟩
    rw[Rep,RepC]
    exact⟨by simp,none,0,rfl,Nat.le_refl _,by simp,.inl rfl⟩
   ·simp at k;obtain⟨rfl,rfl⟩:=k
    refine⟨J,β,Step.refl S,?_,old (by simp[Bh])⟩
    rw[Rep,RepC] at B ⊢
    obtain⟨e1,A,cap,Y,e3,e4,e5⟩:=B
    exact⟨e1,A,cap,Y,e3,by simp,e5⟩
   ·obtain⟨⟨q1,q2,q3⟩,D,G⟩:=ub k
    simp at G;obtain⟨rfl,rfl⟩:=G
    obtain⟨J',A,hA,_⟩:=a_ S (Looks.s fun _ _ h=>h) D B
    refine⟨J',β,A,?_,old (All D)⟩
    unfold iR at D
    obtain⟨x,C,F⟩:=ub D
    obtain⟨_,T⟩:=uc F
    simp at T
    obtain⟨rfl,rfl,rfl⟩:=T
    rw[Rep];exact hA
   ·simp at k
  | false =>
   rw[O,cond_false] at k
   cases G:Nat.beq m.1 2 with
   | true =>
    rw[G,cond_true] at k
    split at k
    ·obtain⟨hn,F⟩:=Axn k
     simp at F;obtain⟨rfl,rfl⟩:=F
     have L:Au h (nid 90000+i)=none:=by cases C:Au h (nid 90000+i)<;>simp_all
     have A:=Step.newNone S (x:=Gv m.2) L rfl
     refine⟨J,fun b=>if b=nid 90000+i then none else β b,A,?_,fun b x C hb=>?_⟩
     ·rw[Rep] at B;subst B;rw[Rep]
      exact⟨Gv m.2,none,0,⟨by simp only[At];rw[Ai,if_pos rfl],rfl⟩,rfl,Nat.le_refl _,.inl rfl⟩
     ·simp only[At] at C
      rw[Ai] at C
      by_cases e:b=nid 90000+i
      ·subst e;unfold nid H9;omega
      ·rw[if_neg e,hb] at C;cases C
    ·simp at k;obtain⟨rfl,rfl⟩:=k
     exact⟨J,β,Step.refl S,B,old (by simp[Bh])⟩
   | false =>
    rw[G,cond_false] at k
    split at k
    ·rename_i c
     obtain⟨⟨q1,q2,q3⟩,D,F⟩:=ub k
     simp at F;obtain⟨rfl,rfl⟩:=F
     rw[Rep] at B
     obtain⟨cs,rfl,hc⟩:=B
     obtain⟨J',A,hA,I,_⟩:=T0 S (Looks.s fun _ _ h=>h) D hc
     refine⟨J',β,A,?_,old (EM D)⟩
     rw[Rep]
     exact⟨cs,rfl,I.symm,hA⟩
    ·simp at k;obtain⟨rfl,rfl⟩:=k
     exact⟨J,β,Step.refl S,B,old (by simp[Bh])⟩
    ·simp at k
theorem uh {s:Ho}:∀ (vals:List AV) {i:Nat} {ms:List (Nat×Nat)} {h h':Am} {vals':List AV} {vs:List Value} {J:Bool→Nat→Prop} {β:C1},
  Inv Z nt J β { s:=s,h:=h } a w→Asz h i ms vals=some (vals',h')→Reps J β h w vals vs →
  ∃ J' β',Inv Z nt J' β' { s:=s,h:=h' } a w∧Reps J' β' h' w vals' vs∧∀ x v,Rep J β h w x v→Rep J' β' h' w x v
 | [],i,ms,h,h',vals',vs,J,β,I,k,C=>by
  simp[Asz] at k;obtain⟨rfl,rfl⟩:=k
  exact⟨J,β,I,C,fun _ _ h=>h⟩
 | v::r,i,ms,h,h',vals',vs,J,β,I,k,C=>by
  rw[Asz] at k
  obtain⟨⟨v1,u1⟩,M,O⟩:=ub k
  obtain⟨⟨T,hr⟩,S,G⟩:=ub O
  simp at G;obtain⟨rfl,rfl⟩:=G
  rw[Reps] at C
  obtain⟨u,us,rfl,D,F⟩:=C
  obtain⟨J1,β1,A,hA,B⟩:=Ax4 I.sim M D
  have I1:=I.step A B
  obtain⟨J2,β2,I2,hB,L⟩:=uh r I1 S (Reps.ext A.ext F)
  refine⟨J2,β2,I2,?_,fun x v h=>L x v (Rep.ext A.ext h)⟩
  rw[Reps]
  exact⟨u,us,rfl,L _ _ hA,hB⟩
theorem Ait {E:Env} {fn:Func} {modes:List (Nat×Nat)} {outs:List Nat} {k:AV→Am→Option R} (I:Inv Z nt J β st a w) (O:CH E fn modes outs k st=some r) :
  ∃ res h' vc J' β',k res h'=some r∧(results fn a.tmps).run E.P w=.ok vc w∧FDone Z J' β' h' w∧Rep J' β' h' w res vc:=by
 unfold CH at O
 obtain⟨vals,vs,S,V,Y⟩:=MQ I.sim I.ss _ O
 simp only[List.reverse_nil,List.nil_append] at S
 obtain⟨⟨vals',h'⟩,h4,h5⟩:=ub S
 obtain⟨J1,β1,I1,hR,_⟩:=uh (s:=st.s) vals I h4 Y
 obtain⟨T,h6⟩:=uc h5
 simp at T
 obtain⟨hn,hs,hi,_⟩:=T
 have hn:=V6 hn
 have C:=Qy hi
 have hs:=Qy hs
 refine⟨_,_,Atq vs,J1,WJ _ _ β1,h6,Atr fn a.tmps V,?_,Rep.ren hn hs ?_⟩
 ·exact⟨I1.sim.ren hn C,I1.os,I1.tape,I1.output,I1.size,I1.frame,fun k hm=>I1.wr k (Apl hn hm),I1.jsub,I1.jup,I1.sizes,fun b x0 x D F hd=>by
   obtain⟨b',x',B,G,L,rfl⟩:=Px hn b x F
   have:=uf B ⟨I1.zge b x0 D,I1.zlt b x0 D⟩ G
   subst this
   obtain⟨⟨e1,em⟩,e2,e3,e4⟩:=I1.outs b' x0 x' D L hd
   refine⟨⟨?_,em⟩,e2,by rw[Oe];exact e3,e4⟩
   have:=Hs (β:=β1) hn B
   rw[G] at this
   rw[this];exact e1,fun b x F=>by
   obtain⟨b',x',B,G,L,rfl⟩:=Px hn b x F
   obtain⟨x2,M,h8⟩:=Atn B
   rw[L] at M;simp at M;subst M;exact h8⟩
 ·match vals',vs,hR with
  | [],vs,hR=>rw[Reps] at hR;subst hR;simp only[Atq,Ba0];rw[Rep];exact⟨[],rfl,by rw[Reps]⟩
  | [v],vs,hR =>
   rw[Reps] at hR
   obtain⟨u,us,rfl,U,A⟩:=hR
   rw[Reps] at A;subst A
   exact U
  | v::v2::l,vs,hR =>
   have hR':=hR
   rw[Reps] at hR
   obtain⟨u,us,rfl,U,A⟩:=hR
   rw[Reps] at A
   obtain⟨u2,us2,rfl,_,_⟩:=A
   simp only[Atq,Ba0]
   rw[Rep]
   exact⟨_,rfl,hR'⟩
end
end Gx

namespace Gx
open Go
section
variable {J J':Bool→Nat→Prop} {β:C1} {h:Am} {w:World}
mutual
theorem Rep.noOrg:∀ {x:AV} {v:Value},MK x=false→Rep J β h w x v→Rep (fun _=>J false) β h w x v
 | .own ..,v,_,hr=>by rw[Rep] at hr ⊢;exact hr
 | .optr ..,v,_,hr=>by rw[Rep] at hr ⊢;exact hr
 | .omap ..,v,_,hr=>by rw[Rep] at hr ⊢;exact hr
 | .pagg c o,v,ho,hr=>by
  rw[MK] at ho;subst ho
  rw[Rep] at hr ⊢;exact hr
 | .agg c,v,ho,hr=>by
  rw[MK] at ho
  rw[Rep] at hr ⊢
  obtain⟨cs,h1,h2⟩:=hr
  exact⟨cs,h1,Reps.noOrg ho h2⟩
 | .tup c,v,ho,hr=>by
  rw[MK] at ho
  rw[Rep] at hr ⊢
  obtain⟨cs,h1,h2⟩:=hr
  exact⟨cs,h1,Reps.noOrg ho h2⟩
 | .fn f c,v,ho,hr=>by
  rw[MK] at ho
  rw[Rep] at hr ⊢
  obtain⟨cs,h1,h2⟩:=hr
  exact⟨cs,h1,Reps.noOrg ho h2⟩
 | .undef,_,_,_=>by rw[Rep];trivial
 | .imm c n sz t o,v,ho,hr=>by
  rw[MK] at ho;subst ho
  rw[Rep] at hr ⊢;exact hr
 | .iptr c o,v,ho,hr=>by
  rw[MK] at ho;subst ho
  rw[Rep] at hr ⊢;exact hr
 | .int ..,v,_,hr=>by rw[Rep] at hr ⊢;exact hr
 | .bool _,v,_,hr=>by rw[Rep] at hr ⊢;exact hr
 | .str _,v,_,hr=>by rw[Rep] at hr ⊢;exact hr
 | .nsl,v,_,hr=>by rw[Rep] at hr ⊢;exact hr
 | .nilptr,v,_,hr=>by rw[Rep] at hr ⊢;exact hr
 | .nilfn,v,_,hr=>by rw[Rep] at hr ⊢;exact hr
theorem Reps.noOrg:∀ {c:List AV} {cs:List Value},W4 c=false→Reps J β h w c cs→Reps (fun _=>J false) β h w c cs
 | [],_,_,hr=>by rw[Reps] at hr ⊢;exact hr
 | x::r,cs,ho,hr=>by
  rw[W4] at ho
  simp at ho
  rw[Reps] at hr ⊢
  obtain⟨u,us,h1,h2,h3⟩:=hr
  exact⟨u,us,h1,Rep.noOrg ho.1 h2,Reps.noOrg ho.2 h3⟩
end
theorem Aaq:∀ {c:List AV} {j:Nat} {x:AV},W4 c=false→c[j]?=some x→MK x=false
 | [],j,x,_,k=>by simp at k
 | y::r,j,x,A,k=>by
  rw[W4] at A
  simp at A
  cases j with
  | zero=>simp at k;subst k;exact A.1
  | succ j=>exact Aaq A.2 (by simpa using k)
theorem Aar:∀ {h:Am} {b:Nat} {x:Blk},nR h=false→Au h b=some x→x.taint=false∧(x.pure=false→W4 x.cells=false)
 | [],b,x,_,k=>by simp[Au] at k
 | (i,y)::r,b,x,A,k=>by
  rw[nR] at A
  simp at A
  rw[Au] at k
  cases hi:Nat.beq i b with
  | true =>
   rw[hi] at k;simp at k;subst k
   refine⟨A.1.1,fun B=>?_⟩
   have:=A.1.2
   rw[B] at this;simpa using this
  | false=>rw[hi] at k;exact Aar A.2 (by simpa using k)
theorem SimH.noOrg (S:SimH J β h w) (U:nR h=false):SimH (fun _=>J false) β h w:=by
 refine⟨fun _ k A=>S.jlt _ k A,fun k A=>A,fun b x B D F=>?_,fun b x B D F=>by
   obtain⟨G,I,k,es,clk,L,V,Y,g6⟩:=S.mblk b x B D F
   exact⟨G,I,k,es,clk,L,V,Y,fun _ hg=>g6 false hg⟩,S.sep⟩
 obtain⟨O,hc⟩:=Aar U B
 rcases S.blk b x B D F with M | ⟨k,o,cs,ty,fr,M,h2,h3,h4,T,h6,h7⟩
 ·exact .inl M
 ·refine .inr ⟨k,o,cs,ty,fr,M,h2,h3,h4,⟨fun C=>?_,fun C j c A=>?_⟩,fun hs _=>h6 hs _,fun hs=>?_⟩
  ·have:=T.1 C;rw[O] at this;exact this
  ·obtain⟨u,G,I,L⟩:=T.2 C j c A
   exact⟨u,G,Rep.noOrg (Aaq (hc C) A) I,L⟩
  ·have:=h7 hs;rw[O] at this;exact this
theorem Ext.grow (hJ:∀ o k,J o k→J' o k):Ext J β h w J' β h w:=⟨hJ,fun _ _ _=>rfl,fun b x A=>⟨x,⟨A,rfl⟩,by cases B:x.dead<;>simp⟩,fun _ _ _ _=>Nat.le_refl _⟩
theorem SimH.grow (S:SimH J β h w) (hJ:∀ o k,J o k→J' o k) (F:∀ o k,J' o k→k<w.heap.size) (G:∀ k,J' false k→J' true k)
  (A:∀ b x k o,Au h b=some x→x.dead=false→x.sealed=false→β b=some (k,o)→∀ g,¬ J' g k):SimH J' β h w:=by
 refine⟨F,G,fun b x B C I=>?_,fun b x B C I=>by
   obtain⟨O,L,k,es,clk,M,T,U,g6⟩:=S.mblk b x B C I
   exact⟨O,L,k,es,clk,M,T,U,A b x k 0 B C L M⟩,S.sep⟩
 rcases S.blk b x B C I with D | ⟨k,o,cs,ty,fr,D,V,Y,h4,h5,h6,h7⟩
 ·exact .inl D
 ·exact .inr ⟨k,o,cs,ty,fr,D,V,Y,h4,h5.ext (Ext.grow hJ),fun hs=>A b x k o B C hs D,fun hs=>hJ _ _ (h7 hs)⟩
def Bcc (β:C1) (h:Am) (fz:List Nat) (k:Nat):Prop:=∃ b x o,b ∈ fz∧Au h b=some x∧x.dead=false∧x.sealed=false∧β b=some (k,o)
def JS (J:Bool→Nat→Prop) (β:C1) (h:Am) (fz:List Nat):Bool→Nat→Prop:=fun o k=>J o k∨(o=true∧Bcc β h fz k)
theorem Aas {g:B8} {b off n:Nat} {x:Blk} {vc:Value} {fz:List Nat} (S:SimH J β h w) (T:Looks g h) (A:Kh g b=some x) (U:x.pure=true) (V:x.sealed=false→b ∈ fz) (M:Rep J β h w (.own b off n) vc) :
  Rep (JS J β h fz) β h w (.imm ((x.cells.drop off).take (n*x.sz)) n x.sz false (!x.sealed||x.taint)) vc:=by
 unfold Kh at A
 obtain⟨x0,G,A⟩:=ub A
 obtain⟨I,A⟩:=Axn A
 simp at A;subst A
 have F:=T b _ G
 rw[Rep]
 have key:=(A1u (J':=fun o k=>o≠x0.taint∨JS J β h fz (!x0.sealed||x0.taint) k) S F I U M (fun k o L=>.inr ?_) (fun o k C=>?_) false (!x0.sealed||x0.taint)).2 (by simp)
 ·exact RepC.keep (fun k D=>by rcases D with D | D;exact absurd rfl D;exact D) (fun _ _=>rfl) key
 ·cases hs:x0.sealed with
  | false =>
   simp only[Bool.not_false,Bool.true_or]
   exact .inr ⟨rfl,b,x0,o,V hs,F,I,hs,L⟩
  | true =>
   simp only[Bool.not_true,Bool.false_or]
   rcases S.blk b x0 F I (A6m F M) with⟨B,_⟩ | ⟨k',o',cs,ty,fr,B,h2,h3,h4,h5,h6,Y⟩
   ·rw[L] at B;cases B
   ·rw[L] at B;simp at B;obtain⟨rfl,rfl⟩:=B
    exact .inl (Y hs)
 ·by_cases e:o=x0.taint
  ·subst e
   right
   cases hs:x0.sealed with
   | false =>
    simp only[Bool.not_false,Bool.true_or]
    left
    cases O:x0.taint with
    | false=>rw[O] at C;exact S.jft k C
    | true=>rw[O] at C;exact C
   | true=>simp only[Bool.not_true,Bool.false_or];exact .inl C
  ·exact .inl e
theorem JS.mono (S:SimH J β h w) {fz:List Nat} {a b:Bool} (k:Nat) (A:JS J β h fz a k):JS J β h fz (a||b) k:=by
 cases a
 ·cases b
  ·exact A
  ·rcases A with A | ⟨B,_⟩
   ·exact .inl (S.jft k A)
   ·cases B
 ·exact A
theorem Aiu {g:B8} {v v':AV} {o:Bool} {vc:Value} {fz:List Nat} (S:SimH J β h w) (M:Looks g h) (B:SG g v=some (v',o)) (O:∀ b off n x,v=.own b off n→g b=some x→x.sealed=false→b ∈ fz) (D:Rep J β h w v vc) :
  RepC (JS J β h fz o) w v' vc:=by
 cases v
 case own b off n =>
  rw[SG] at B
  obtain⟨x,C,T⟩:=ub B
  obtain⟨U,L⟩:=uc T
  simp at L
  obtain⟨rfl,rfl⟩:=L
  have:=Aas S M C U (fun hs=>by
   unfold Kh at C
   obtain⟨x0,F,C⟩:=ub C
   obtain⟨hd,C⟩:=Axn C
   simp at C;subst C
   exact O b off n x0 rfl F hs) D
  rw[Rep] at this;exact this
 case imm c n sz t org =>
  simp[SG] at B;obtain⟨rfl,rfl⟩:=B
  rw[Rep,RepC] at D
  rw[RepC]
  obtain⟨e1,A,cap,V,e3,e4,G⟩:=D
  refine⟨e1,A,cap,V,e3,by simp,?_⟩
  rcases G with G | ⟨a,Y,e7,e8⟩
  ·exact .inl G
  ·exact .inr ⟨a,Y,.inl e7,RepCs.keep (fun k I=>.inl I) (fun _ _=>rfl) (fun _=>rfl) e8⟩
 case iptr c org =>
  simp[SG] at B;obtain⟨rfl,rfl⟩:=B
  rw[Rep] at D
  exact RepC.keep (fun k I=>.inl I) (fun _ _=>rfl) D
 all_goals first
  | (simp[SG] at B;done)
  | (simp[SG] at B;obtain⟨rfl,rfl⟩:=B;rw[Rep] at D;rw[RepC];exact D)
theorem bG {g:B8} {fz:List Nat} (S:SimH J β h w) (L:Looks g h):∀ {c c':List AV} {o:Bool} {cs:List Value},aX g c=some (c',o)→(∀ b ∈ Ll g c,b ∈ fz)→Reps J β h w c cs →
  cs.length=c'.length∧∀ (j:Nat) (x:AV),c'[j]?=some x→∃ u,cs[j]?=some u∧RepC (JS J β h fz o) w x u
 | [],c',o,cs,A,D,B=>by
  simp[aX] at A;obtain⟨rfl,rfl⟩:=A
  rw[Reps] at B;subst B
  exact⟨rfl,fun j x C=>by simp at C⟩
 | v::r,c',o,cs,A,D,B=>by
  rw[aX] at A
  obtain⟨⟨v1,o1⟩,M,A⟩:=ub A
  obtain⟨⟨r1,o2⟩,O,A⟩:=ub A
  simp at A;obtain⟨rfl,rfl⟩:=A
  rw[Reps] at B
  obtain⟨u,us,rfl,T,U⟩:=B
  have F:∀ b ∈ Ll g r,b ∈ fz:=fun b G=>D b (by
   cases v<;>simp only[Ll]<;>try exact G
   split
   ·rename_i x _;cases x.sealed<;>simp[G]
   ·exact G)
  have a1:=Aiu (fz:=fz) S L M (fun b off n x e V hs=>D b (by subst e;simp[Ll,V,hs])) T
  obtain⟨Y,b2⟩:=bG S L O F U
  refine⟨by simp[Y],fun j x C=>?_⟩
  cases j with
  | zero=>simp at C;subst C;exact⟨u,by simp,RepC.keep (fun k I=>JS.mono S k I) (fun _ _=>rfl) a1⟩
  | succ j =>
   obtain⟨u',e1,e2⟩:=b2 j x (by simpa using C)
   exact⟨u',by simpa using e1,RepC.keep (fun k I=>by rw[Bool.or_comm];exact JS.mono S k I) (fun _ _=>rfl) e2⟩
theorem Aiv {g:B8} {v v':AV} {q:Bool} {vc:Value} {fz:List Nat} (S:SimH J β h w) (U:Looks g h) (C:Ao2 g v=some (v',q)) (V:∀ b ∈ NO g v,b ∈ fz) (F:Rep J β h w v vc) :
  Rep (JS J β h fz) β h w v' vc∧Hp v'=[]:=by
 unfold Ao2 at C
 split at C
 ·rename_i b off n
  obtain⟨x,B,D⟩:=ub C
  obtain⟨Y,I⟩:=uc D
  simp at I
  obtain⟨rfl,_⟩:=I
  exact⟨Aas S U B Y (fun hs=>by
   unfold Kh at B
   obtain⟨x0,L,B⟩:=ub B
   obtain⟨O,B⟩:=Axn B
   simp at B;subst B
   exact V b (by simp[NO,L,hs])) F,by simp[Hp]⟩
 ·simp at C;obtain⟨rfl,_⟩:=C
  refine⟨?_,by simp[Hp]⟩
  rw[Rep,RepC] at F ⊢
  obtain⟨e1,A,cap,e2,e3,e4,e5⟩:=F
  refine⟨e1,A,cap,e2,e3,by simp,?_⟩
  rcases e5 with e5 | ⟨a,e6,e7,e8⟩
  ·exact .inl e5
  ·exact .inr ⟨a,e6,.inl e7,RepCs.keep (fun k hk=>.inl hk) (fun _ _=>rfl) (fun _=>rfl) e8⟩
 ·rename_i b off
  obtain⟨x,B,D⟩:=ub C
  obtain⟨Y,I⟩:=uc D
  simp at I
  obtain⟨rfl,_⟩:=I
  unfold Kh at B
  obtain⟨x0,L,B⟩:=ub B
  obtain⟨O,B⟩:=Axn B
  simp at B;subst B
  have hy:=U b _ L
  refine⟨?_,by simp[Hp]⟩
  rw[Rep] at F
  obtain⟨x1,k,o,⟨g1,gm⟩,g2,M⟩:=F
  rw[hy] at g1;simp at g1;subst g1
  rcases M with M | M
  ·simp[O] at M
  ·rcases S.blk b x0 hy O gm with⟨D,_⟩ | ⟨k',o',cs,ty,fr,D,I,h3,h4,h5,h6,h7⟩
   ·rw[M] at D;cases D
   ·rw[M] at D;simp at D;obtain⟨rfl,rfl⟩:=D
    have hin:∀ T,J x0.taint T→JS J β h fz (!x0.sealed||x0.taint) T:=by
     intro T G
     left
     cases hs:x0.sealed with
     | false =>
      simp only[Bool.not_false,Bool.true_or]
      cases ht:x0.taint with
      | false=>rw[ht] at G;exact S.jft T G
      | true=>rw[ht] at G;exact G
     | true=>simp only[Bool.not_true,Bool.false_or];exact G
    rw[Rep,RepC]
    refine⟨_,g2,?_,?_⟩
    ·cases hs:x0.sealed with
     | false =>
      simp only[Bool.not_false,Bool.true_or]
      exact .inr ⟨rfl,b,x0,o,V b (by simp[NO,L,hs]),hy,O,hs,M⟩
     | true =>
      simp only[Bool.not_true,Bool.false_or]
      exact .inl (h7 hs)
    ·refine RepCs.keep hin (fun _ _=>rfl) (fun j=>?_) ((h5.1 Y).drop off)
     rw[Addr.add_mid,Yg I,Nat.add_assoc]
 ·rename_i c
  obtain⟨⟨c1,o1⟩,D,I⟩:=ub C
  simp at I;obtain⟨rfl,_⟩:=I
  rw[Rep] at F
  obtain⟨cs,rfl,F⟩:=F
  obtain⟨b1,b2⟩:=bG (fz:=fz) S U D (by simpa[NO] using V) F
  refine⟨?_,by simp[Hp]⟩
  rw[Rep]
  refine⟨cs,rfl,b1,?_⟩
  rw[Cw]
  intro j x G
  obtain⟨u,e1,e2⟩:=b2 j x G
  exact⟨u,by simpa using e1,e2⟩
 ·simp at C;obtain⟨rfl,_⟩:=C
  exact⟨Rep.ext (Ext.grow fun _ _ G=>.inl G) F,by simp[Hp,Jl]⟩
 ·simp at C
 ·simp at C
 ·simp at C
 ·simp at C
 ·simp at C;obtain⟨rfl,_⟩:=C
  refine⟨Rep.ext (Ext.grow fun _ _ G=>.inl G) F,?_⟩
  cases v<;>first | rfl | simp_all
theorem ER {g:B8} {fz:List Nat} (S:SimH J β h w) (I:Looks g h):∀ {args:List AV} {ms:List Bool} {args':List AV} {im fz':List Nat} {vs:List Value},
  NP g ms args=some (args',im,fz')→(∀ b ∈ fz',b ∈ fz)→Reps J β h w args vs→Reps (JS J β h fz) β h w args' vs∧∀ b ∈ Jl args',b ∈ im
 | [],ms,args',im,fz',vs,A,G,B=>by
  simp[NP] at A;obtain⟨rfl,rfl,rfl⟩:=A
  rw[Reps] at B;subst B
  exact⟨by rw[Reps],by simp[Jl]⟩
 | v::r,ms,args',im,fz',vs,A,G,B=>by
  rw[NP] at A
  rw[Reps] at B
  obtain⟨u,us,rfl,C,D⟩:=B
  cases T:ms.headD false with
  | true =>
   rw[T,cond_true] at A
   obtain⟨⟨a2,i2,U⟩,L,F⟩:=ub A
   simp at F;obtain⟨rfl,rfl,rfl⟩:=F
   obtain⟨M,O⟩:=ER S I L G D
   refine⟨by rw[Reps];exact⟨u,us,rfl,Rep.ext (Ext.grow fun _ _ V=>.inl V) C,M⟩,fun b k=>?_⟩
   rw[Jl] at k
   rcases List.mem_append.1 k with k | k
   ·exact List.mem_append.2 (.inl k)
   ·exact List.mem_append.2 (.inr (O b k))
  | false =>
   rw[T,cond_false] at A
   obtain⟨⟨v1,b1⟩,Y,A⟩:=ub A
   obtain⟨⟨a2,i2,U⟩,L,F⟩:=ub A
   simp at F;obtain⟨rfl,rfl,rfl⟩:=F
   obtain⟨e1,e2⟩:=Aiv S I Y (fun b k=>G b (List.mem_append.2 (.inl k))) C
   obtain⟨M,O⟩:=ER S I L (fun b k=>G b (List.mem_append.2 (.inr k))) D
   refine⟨by rw[Reps];exact⟨u,us,rfl,e1,M⟩,fun b k=>?_⟩
   rw[Jl,e2] at k
   exact O b (by simpa using k)
end
end Gx

namespace Gx
open Go
theorem Als {g g':B8} {ρ:Nat→Nat}:∀ {ids:List Nat},(∀ b ∈ ids,g b=g' b)→sub g ρ ids=sub g' ρ ids
 | [],_=>rfl
 | b::r,h=>by
  rw[sub,sub,h b (by simp),Als (fun c k=>h c (by simp[k]))]
theorem bH {g:B8}:∀ {l:List Nat},aZ g l=true→∀ b ∈ l,∃ x,g b=some x∧x.dead=false
 | [],_,b,k=>by simp at k
 | i::r,h,b,k=>by
  rw[aZ] at h
  simp at h
  rcases List.mem_cons.1 k with rfl | k
  ·cases A:g b with
   | none=>rw[A] at h;simp at h
   | some x=>rw[A] at h;exact⟨x,rfl,by simpa using h.1⟩
  ·exact bH h.2 b k
theorem A11:∀ {l m:List Nat},Asx l m=true→∀ b ∈ l,b ∉ m
 | [],m,_,b,k=>by simp at k
 | i::r,m,h,b,k=>by
  rw[Asx] at h
  simp at h
  rcases List.mem_cons.1 k with rfl | k
  ·intro A;have:=Ms.2 A;rw[this] at h;simp at h
  ·exact A11 h.2 b k
theorem NZ {d:Nat}:∀ {l:List (Nat×Nat)} {b:Nat},b ∈ l.map (·.1)→J6 d l b ∈ l.map (·.2)
 | [],b,k=>by simp at k
 | (i,x)::r,b,k=>by
  rw[J6]
  cases hi:Nat.beq i b with
  | true=>simp
  | false =>
   have A:b ∈ r.map (·.1):=by
    rw[List.map_cons] at k
    rcases List.mem_cons.1 k with h | h
    ·exact absurd h.symm (AN hi)
    ·exact h
   simp only[cond_false,List.map_cons]
   exact List.mem_cons_of_mem _ (NZ A)
theorem CK {d:Nat}:∀ {l m:List (Nat×Nat)} {b:Nat},J6 d (l++m) b=if b ∈ l.map (·.1) then J6 d l b else J6 d m b
 | [],m,b=>by simp
 | (i,x)::r,m,b=>by
  rw[List.cons_append,J6,J6,CK]
  cases hi:Nat.beq i b with
  | true=>have:=Nat.eq_of_beq_eq_true hi;subst this;simp
  | false =>
   have:=AN hi
   simp only[cond_false,List.map_cons,List.mem_cons]
   by_cases k:b ∈ r.map (·.1)
   ·rw[if_pos k,if_pos (.inr k)]
   ·rw[if_neg k,if_neg (by rintro(h | h);exact this h.symm;exact k h)]
theorem Ln:∀ {base:Nat} {l:List Nat},(A8 base l).map (·.1)=l
 | _,[]=>rfl
 | base,i::r=>by rw[A8,List.map_cons,Ln]
theorem Aat {d d':Nat}:∀ {l:List Nat} {base b:Nat},b ∈ l→J6 d' ((A8 base l).map fun p=>(p.2,p.1)) (J6 d (A8 base l) b)=b
 | [],base,b,k=>by simp at k
 | i::r,base,b,k=>by
  rw[A8,J6,List.map_cons,J6]
  cases hi:Nat.beq i b with
  | true=>have:=Nat.eq_of_beq_eq_true hi;subst this;simp
  | false =>
   have A:b ∈ r:=by
    rcases List.mem_cons.1 k with h | h
    ·exact absurd h.symm (AN hi)
    ·exact h
   simp only[cond_false]
   have B:=EQ (d:=d) (base:=base+1) A
   rw[gv (show base≠J6 d (A8 (base+1) r) b by omega)]
   exact Aat A
theorem V8:∀ {base:Nat} {l:List Nat} {c:Nat},c ∈ (A8 base l).map (·.2)→base≤c∧c<base+l.length
 | _,[],c,k=>by simp[A8] at k
 | base,i::r,c,k=>by
  rw[A8,List.map_cons] at k
  rcases List.mem_cons.1 k with h | h
  ·simp at h;subst h;simp
  ·have:=V8 h;simp only[List.length_cons];omega
theorem ES:∀ {base:Nat} {l:List Nat},((A8 base l).map (·.2)).Nodup
 | _,[]=>by simp[A8]
 | base,i::r=>by
  rw[A8,List.map_cons,List.nodup_cons]
  exact⟨fun h=>by have:=V8 h;simp at this;omega,ES⟩
theorem bI:∀ {base:Nat} {l:List Nat} {b:Nat},b ∈ l→(b,J6 0 (A8 base l) b) ∈ A8 base l
 | _,[],b,k=>by simp at k
 | base,i::r,b,k=>by
  rw[A8,J6]
  cases hi:Nat.beq i b with
  | true=>have:=Nat.eq_of_beq_eq_true hi;subst this;simp
  | false =>
   have A:b ∈ r:=by
    rcases List.mem_cons.1 k with h | h
    ·exact absurd h.symm (AN hi)
    ·exact h
   simp only[cond_false]
   exact List.mem_cons_of_mem _ (bI A)
def Ax5 (x:Blk):Blk:={ x with dead:=true,pure:=true,cells:=[] }
theorem Of:∀ {ups:If} {h:Am} {b:Nat} {o:Option Blk},(ups.map (·.1)).Nodup→(b,o) ∈ ups→Au (At ups h) b=match o with | some x=>some x | none=>(Au h b).map Ax5
 | [],h,b,o,_,C=>by simp at C
 | (i,y)::r,h,b,o,hn,C=>by
  rw[List.map_cons,List.nodup_cons] at hn
  rcases List.mem_cons.1 C with D | k
  ·simp at D
   obtain⟨rfl,rfl⟩:=D
   have A:Bh r b=false:=by
    have:∀ {r:If},b ∉ r.map (·.1)→Bh r b=false:=by
     intro r
     induction r with
     | nil=>intro _;rfl
     | cons p r F =>
      intro h
      simp only[List.map_cons,List.mem_cons,not_or] at h
      rw[Bh,gv (fun e=>h.1 e.symm)]
      exact F h.2
    exact this hn.1
   cases o with
   | some x=>rw[At,C9 _ _ _ A,Ai,if_pos rfl]
   | none =>
    rw[At,C9 _ _ _ A]
    cases G:Au h b with
    | none=>simp[G]
    | some x=>simp only[Option.map_some];rw[Ai,if_pos rfl];rfl
  ·have B:b≠i:=fun e=>by subst e;exact hn.1 (List.mem_map.2 ⟨_,k,rfl⟩)
   cases y with
   | some x =>
    rw[At,Of hn.2 k]
    cases o with
    | some _=>rfl
    | none=>simp only;rw[Ai,if_neg B]
   | none =>
    rw[At,Of hn.2 k]
    cases o with
    | some _=>rfl
    | none =>
     simp only
     split
     ·rw[Ai,if_neg B]
     ·rfl
theorem sG:∀ {ups:If} {b:Nat},Bh ups b=true↔b ∈ ups.map (·.1)
 | [],b=>by simp[Bh]
 | (i,y)::r,b=>by
  rw[Bh,List.map_cons,List.mem_cons,←sG]
  cases hi:Nat.beq i b with
  | true=>have:=Nat.eq_of_beq_eq_true hi;subst this;simp
  | false=>have:=AN hi;simp;intro e;exact absurd e.symm this
theorem Aau {β:C1} {h:Am} {ρ:Nat→Nat} {ids:List Nat} (hn:(ids.map ρ).Nodup) {k:Nat} (C:As0 (WJ ρ ids β) (sub (Au h) ρ ids) k) :
  ∃ b x o,b ∈ ids∧Au h b=some x∧x.dead=false∧x.sealed=false∧β b=some (k,o):=by
 obtain⟨c,y,o,D,F,hs,A⟩:=C
 obtain⟨b,x,B,rfl,G,rfl⟩:=Px hn c y D
 rw[Hs hn B] at A
 exact⟨b,x,o,B,G,F,hs,A⟩
theorem SimH.unJ {J:Bool→Nat→Prop} {β:C1} {h:Am} {w:World} (S:SimH J β h w) {b:Nat} {x:Blk} {k o:Nat} (C:Au h b=some x) (D:x.dead=false) (hs:x.sealed=false) (B:β b=some (k,o)):∀ g,¬ J g k:=by
 cases F:x.mp with
 | false =>
  rcases S.blk b x C D F with⟨A,_⟩ | ⟨k',o2,cs,ty,fr,A,G,L,M,O,I,T⟩
  ·rw[B] at A;cases A
  ·rw[B] at A;simp at A;obtain⟨rfl,rfl⟩:=A
   exact I hs
 | true =>
  obtain⟨_,_,k',es,clk,A,_,_,G⟩:=S.mblk b x C D F
  rw[B] at A;simp at A;obtain⟨rfl,_⟩:=A
  exact G
theorem SimH.seJ {J:Bool→Nat→Prop} {β:C1} {h:Am} {w:World} (S:SimH J β h w) {b:Nat} {x:Blk} {k o:Nat} (B:Au h b=some x) (C:x.dead=false) (hs:x.sealed=true) (D:β b=some (k,o)):J x.taint k:=by
 cases F:x.mp with
 | false =>
  rcases S.blk b x B C F with⟨A,_⟩ | ⟨k',o2,cs,ty,fr,A,I,L,M,O,T,G⟩
  ·rw[D] at A;cases A
  ·rw[D] at A;simp at A;obtain⟨rfl,rfl⟩:=A
   exact G hs
 | true =>
  have:=(S.mblk b x B C F).2.1
  rw[hs] at this;cases this
theorem Step.merge {J J0 J1:Bool→Nat→Prop} {β β1:C1} {h h1 H:Am} {w w':World} {D ids:List Nat} (S:SimH J β h w) (S1:SimH J0 β1 h1 w')
  (hH:∀ b,b ∉ D→Au H b=Au h b)
  (hD:∀ b x,b ∈ D→Au H b=some x→x.dead=false→Au h1 b=some x)
  (hD1:∀ b x,Au h1 b=some x→b ∈ D∧Au H b=some x)
  (hnew:∀ b x,b ∈ D→b ∉ ids→Au h b≠some x)
  (hold:∀ b x,b ∈ ids→Au h b=some x→∃ x',(Au H b=some x'∧x'.mp=x.mp)∧(x'.dead=true∨(x.dead=false∧β1 b=β b∧x'.sz=x.sz∧(x.mp=false→x'.cells.length=x.cells.length))))
  (Y:∀ b ∈ ids,b ∈ D)
  (os:w'.os=w.os) (tape:w'.tape=w.tape) (output:w'.output=w.output) (size:w.heap.size≤w'.heap.size)
  (frame:∀ k,k<w.heap.size→(¬ ∃ b x o,b ∈ ids∧Au h b=some x∧x.dead=false∧x.sealed=false∧β b=some (k,o))→w'.heap[k]?=w.heap[k]?)
  (wr:∀ k,As0 β1 h1 k→k<w.heap.size→∃ b x o,b ∈ ids∧Au h b=some x∧x.dead=false∧x.sealed=false∧β b=some (k,o))
  (jup:∀ o k,J0 o k→J o k∨(∃ b x o,b ∈ ids∧Au h b=some x∧x.dead=false∧x.sealed=false∧β b=some (k,o))∨w.heap.size≤k)
  (sizes:∀ k,Bt w k≤Bt w' k) :
  Step J β h w (fun o k=>J o k∨J0 o k) (fun b=>if b ∈ D then β1 b else β b) H w'∧Ext J0 β1 h1 w' (fun o k=>J o k∨J0 o k) (fun b=>if b ∈ D then β1 b else β b) H w':=by
 have E0:Ext J0 β1 h1 w' (fun o k=>J o k∨J0 o k) (fun b=>if b ∈ D then β1 b else β b) H w':=by
  refine⟨fun _ _ A=>.inr A,fun _ _ _=>rfl,fun b x B=>?_,fun _ _ _ _=>Nat.le_refl _⟩
  obtain⟨T,V⟩:=hD1 b x B
  refine⟨x,⟨V,rfl⟩,?_⟩
  cases F:x.dead
  ·exact .inr ⟨rfl,by simp[T],rfl,fun _=>rfl⟩
  ·exact .inl rfl
 have keepJ:∀ o k,J o k→w'.heap[k]?=w.heap[k]?:=by
  intro o k A
  refine frame k (S.jlt o k A) ?_
  rintro⟨b,x,o',_,B,F,hs,L⟩
  exact S.unJ B F hs L o A
 have E:Ext J β h w (fun o k=>J o k∨J0 o k) (fun b=>if b ∈ D then β1 b else β b) H w':=by
  refine⟨fun _ _ A=>.inl A,keepJ,fun b x B=>?_,fun b k o _=>sizes k⟩
  by_cases hi:b ∈ ids
  ·obtain⟨x',T,V⟩:=hold b x hi B
   refine⟨x',T,?_⟩
   simp only[Y b hi,if_true]
   exact V
  ·have hnd:b ∉ D:=fun F=>hnew b x F hi B
   refine⟨x,⟨by rw[hH b hnd];exact B,rfl⟩,?_⟩
   cases F:x.dead
   ·exact .inr ⟨rfl,by simp[hnd],rfl,fun _=>rfl⟩
   ·exact .inl rfl
 have out:∀ {b x},b ∉ D→Au H b=some x→Au h b=some x:=fun B U=>by rw[←hH _ B];exact U
 refine⟨⟨E,⟨?_,?_,fun b x U F hm=>?_,fun b x U F hm=>by
   by_cases B:b ∈ D
   ·have T:=hD b x B U F
    have M:=S1.mblk b x T F hm
    refine M.keep (by simp[B]) (fun _ _ _=>rfl) (fun g k o L A=>?_)
    rcases A with A | A
    ·exfalso
     by_cases hk:k<w.heap.size
     ·obtain⟨b',x',o',I,O,G,hs',C⟩:=wr k ⟨b,x,o,T,F,M.2.1,L⟩ hk
      exact S.unJ O G hs' C g A
     ·exact hk (S.jlt g k A)
    ·exact A
   ·have T:=out B U
    have M:=S.mblk b x T F hm
    have hnm:∀ k o,β b=some (k,o)→¬ ∃ b x o,b ∈ ids∧Au h b=some x∧x.dead=false∧x.sealed=false∧β b=some (k,o):=by
     rintro k o V ⟨b',x',o',I,O,G,hs',C⟩
     have:=S.sep b b' x x' k o o' T O F G M.2.1 V C
     subst this
     exact B (Y b I)
    refine M.keep (by simp[B]) (fun k o L=>frame k (Z4 S T F L) (hnm k o L)) (fun g k o L A=>?_)
    rcases A with A | A
    ·exact A
    ·rcases jup g k A with A | A | A
     ·exact A
     ·exact absurd A (hnm k o L)
     ·have:=Z4 S T F L;omega,?_⟩,os,tape,output,size,?_,?_,?_⟩,E0⟩
 ·rintro o k (A | A)
  ·exact Nat.lt_of_lt_of_le (S.jlt o k A) size
  ·exact S1.jlt o k A
 ·rintro k (A | A)
  ·exact .inl (S.jft k A)
  ·exact .inr (S1.jft k A)
 ·by_cases B:b ∈ D
  ·have T:=hD b x B U F
   rcases S1.blk b x T F hm with⟨V,h4⟩ | ⟨k,o,cs,ty,fr,V,h4,h5,h6,h7,h8,h9⟩
   ·exact .inl ⟨by simp[B,V],h4⟩
   ·refine .inr ⟨k,o,cs,ty,fr,by simp[B,V],h4,h5,h6,h7.ext E0,fun hs g A=>?_,fun hs=>.inr (h9 hs)⟩
    rcases A with A | A
    ·by_cases hk:k<w.heap.size
     ·obtain⟨b',x',o',I,O,G,hs',C⟩:=wr k ⟨b,x,o,T,F,hs,V⟩ hk
      exact S.unJ O G hs' C g A
     ·exact hk (S.jlt g k A)
    ·exact h8 hs g A
  ·have T:=out B U
   rcases S.blk b x T F hm with⟨V,h4⟩ | ⟨k,o,cs,ty,fr,V,h4,h5,h6,h7,h8,h9⟩
   ·exact .inl ⟨by simp[B,V],h4⟩
   ·have hk:=fq h4
    have hnm:x.sealed=false→¬ ∃ b x o,b ∈ ids∧Au h b=some x∧x.dead=false∧x.sealed=false∧β b=some (k,o):=by
     rintro hs ⟨b',x',o',I,O,G,hs',C⟩
     have:=S.sep b b' x x' k o o' T O F G hs V C
     subst this
     exact B (Y b I)
    have same:w'.heap[k]?=w.heap[k]?:=by
     cases hs:x.sealed with
     | false=>exact frame k hk (hnm hs)
     | true=>exact keepJ _ k (h9 hs)
    refine .inr ⟨k,o,cs,ty,fr,by simp[B,V],by rw[same];exact h4,h5,h6,h7.ext E,fun hs g A=>?_,fun hs=>.inl (h9 hs)⟩
    rcases A with A | A
    ·exact h8 hs g A
    ·rcases jup g k A with A | A | A
     ·exact h8 hs g A
     ·exact hnm hs A
     ·omega
 ·intro b b' x x' k o o' U O F G hs L C
  by_cases B:b ∈ D<;>by_cases I:b' ∈ D
  ·simp[B] at L;simp[I] at C
   exact S1.sep b b' x x' k o o' (hD b x B U F) (hD b' x' I O G) F G hs L C
  ·exfalso
   simp[B] at L;simp[I] at C
   have T:=out I O
   have hk:=Z4 S T G C
   obtain⟨b2,x2,o2,hb2,hx2,hd2,hs2,hβ2⟩:=wr k ⟨b,x,o,hD b x B U F,F,hs,L⟩ hk
   have:=S.sep b2 b' x2 x' k o2 o' hx2 T hd2 G hs2 hβ2 C
   subst this
   exact I (Y _ hb2)
  ·exfalso
   simp[B] at L;simp[I] at C
   have T:=out B U
   have V:=hD b' x' I O G
   have hk:=Z4 S T F L
   have hnm:¬ ∃ b x o,b ∈ ids∧Au h b=some x∧x.dead=false∧x.sealed=false∧β b=some (k,o):=by
    rintro⟨b2,x2,o2,hb2,hx2,hd2,hs2,hβ2⟩
    have:=S.sep b b2 x x2 k o o2 T hx2 F hd2 hs L hβ2
    subst this
    exact B (Y _ hb2)
   cases hs':x'.sealed with
   | false=>exact hnm (wr k ⟨b',x',o',V,G,hs',C⟩ hk)
   | true =>
    rcases jup _ k (S1.seJ V G hs' C) with A | A | A
    ·exact S.unJ T F hs L _ A
    ·exact hnm A
    ·omega
  ·simp[B] at L;simp[I] at C
   exact S.sep b b' x x' k o o' (out B U) (out I O) F G hs L C
 ·intro k hk hm
  exact frame k hk (fun ⟨b,x,o,_,U,F,hs,L⟩=>hm ⟨b,x,o,U,F,hs,L⟩)
 ·rintro k ⟨b,x,o,U,F,hs,L⟩ hk
  by_cases B:b ∈ D
  ·simp[B] at L
   obtain⟨b2,x2,o2,_,hx2,hd2,hs2,hβ2⟩:=wr k ⟨b,x,o,hD b x B U F,F,hs,L⟩ hk
   exact⟨b2,x2,o2,hx2,hd2,hs2,hβ2⟩
  ·simp[B] at L
   exact⟨b,x,o,out B U,F,hs,L⟩
 ·rintro o k (A | A)
  ·exact .inl A
  ·rcases jup o k A with A | ⟨b,x,o2,_,U,F,hs,L⟩ | A
   ·exact .inl A
   ·exact .inr (.inl ⟨b,x,o2,U,F,hs,L⟩)
   ·exact .inr (.inr A)
end Gx

namespace Gx
open Go
theorem Ax6 {l:List Nat}:Ao3 l=true↔l=[]:=by cases l<;>simp[Ao3]
theorem SU {α β:Type} {f:α→β}:∀ {l:List α},(l.map f).Nodup→l.Nodup
 | [],_=>List.nodup_nil
 | a::r,h=>by
  rw[List.map_cons,List.nodup_cons] at h
  exact List.nodup_cons.2 ⟨fun k=>h.1 (List.mem_map.2 ⟨a,k,rfl⟩),SU h.2⟩
theorem SV {α:Type} {p:α→Bool}:∀ {l:List α},l.Nodup→(l.filter p).Nodup
 | [],_=>List.nodup_nil
 | a::r,h=>by
  rw[List.nodup_cons] at h
  rw[List.filter_cons]
  split
  ·exact List.nodup_cons.2 ⟨fun k=>h.1 (List.mem_filter.1 k).1,SV h.2⟩
  ·exact SV h.2
theorem na {base:Nat} {l:List Nat} {p:Nat×Nat} (k:p ∈ A8 base l):p.1 ∈ l:=by
 have:p.1 ∈ (A8 base l).map (·.1):=List.mem_map.2 ⟨p,k,rfl⟩
 rw[Ln] at this;exact this
theorem A12 {σ:Nat→Nat}:∀ {l:List Nat} {a b:Nat},(l.map σ).Nodup→a ∈ l→b ∈ l→σ a=σ b→a=b
 | [],a,b,_,B,_,_=>by simp at B
 | i::r,a,b,hn,B,D,C=>by
  rw[List.map_cons,List.nodup_cons] at hn
  rcases List.mem_cons.1 B with k | k<;>rcases List.mem_cons.1 D with A | A
  ·rw[k,A]
  ·subst k;exact absurd (List.mem_map.2 ⟨b,A,C.symm⟩) hn.1
  ·subst A;exact absurd (List.mem_map.2 ⟨a,k,C⟩) hn.1
  ·exact A12 hn.2 k A C
theorem A6u {E:Env} (hT:Aap E.P E.tbl):lU E:=by
 intro R r k J β h w g d f args vs S hl hh hv
 unfold Alg at hh
 obtain⟨⟨args',im,fz⟩,V,h1⟩:=ub hh
 simp only at h1
 obtain⟨C,h2⟩:=uc h1
 simp only[Bool.and_eq_true] at C
 obtain⟨hal,him,hin,hdj,G,_⟩:=C
 generalize hids:EI g im=ids at *
 generalize hρ:J6 0 (A8 100000 ids)=ρ at *
 have hal:=bH hal
 have him:=Qy him
 have hdj:=A11 hdj
 have G:=V6 G
 have hg:∀ b ∈ ids,g b=Au h b:=fun b A=>by obtain⟨x,B,_⟩:=hal b A;rw[B,hl b x B]
 rw[IR (g:=Au h) hg] at hin
 have hin:=Qy hin
 rw[Als (g':=Au h) hg] at h2
 obtain⟨hA,hB⟩:=ER (fz:=fz) S hl V (fun _ h=>h) hv
 have aliveH:∀ b ∈ ids,∃ x,Au h b=some x∧x.dead=false:=fun b A=>by obtain⟨x,B,Y⟩:=hal b A;exact⟨x,hl b x B,Y⟩
 have SJ:SimH (JS J β h fz) (WJ ρ ids β) (sub (Au h) ρ ids) w:=by
  refine(S.ren G hin).grow (fun o k I=>.inl I) ?_ ?_ ?_
  ·rintro o k (I | ⟨_,b,x,o',_,B,Y,_,hβ⟩)
   ·exact S.jlt o k I
   ·exact Z4 S B Y hβ
  ·rintro k (I | ⟨h0,_⟩)
   ·exact .inl (S.jft k I)
   ·cases h0
  ·intro c y k o hy Y hs hβ q I
   obtain⟨b,x,A,rfl,B,rfl⟩:=Px G c y hy
   rw[Hs G A] at hβ
   rcases I with I | ⟨_,b',x',o',hb',hx',hd',hs',hβ'⟩
   ·exact S.unJ B Y hs hβ _ I
   ·have:=S.sep b b' x x' k o o' B hx' Y hd' hs hβ hβ'
    subst this
    exact hdj b hb' A
 have RJ:Reps (JS J β h fz) (WJ ρ ids β) (sub (Au h) ρ ids) w (AM ρ args') vs:=Reps.ren G (fun b A=>him b (hB b A)) hA
 obtain⟨rv,rh,hF,h3⟩:=Atp hT h2
 have hcall:=hF _ _ w vs SJ RJ
 obtain⟨T,h4⟩:=Axn h3
 obtain⟨hc2,h5⟩:=uc h4
 simp only[Bool.and_eq_true] at hc2
 obtain⟨hnal,hn16,hrv,O,hrin,L⟩:=hc2
 generalize hall:EI (Au rh) (Hp rv++(A8 100000 ids).map (·.2))=all at *
 generalize hnew:all.filter (fun b=>!Kj ((A8 100000 ids).map (·.2)) b)=new at *
 generalize hσ:J6 0 ((A8 100000 ids).map (fun p=>(p.2,p.1))++A8 (nid d) new)=σ at *
 have hnal:=bH hnal
 have hrv:=Qy hrv
 have O:=Qy O
 have hrin:=Qy hrin
 have L:=V6 L
 have hn16:new.length≤16:=by simpa using hn16
 refine⟨_,_,h5,fun hfree=>Calls.mono hcall ?_⟩
 rintro e w' ⟨vc,J',β',rfl,F,hR⟩
 refine⟨vc,rfl,?_⟩
 have back:∀ b ∈ ids,σ (ρ b)=b:=by
  intro b A
  rw[←hσ,CK,if_pos,←hρ]
  ·exact Aat A
  ·rw[List.map_map]
   have:=NZ (d:=0) (l:=A8 100000 ids) (b:=b) (by rw[Ln];exact A)
   rw[hρ] at this
   exact this
 have ρall:∀ b ∈ ids,ρ b ∈ all:=by
  intro b A
  refine O _ ?_
  have:=NZ (d:=0) (l:=A8 100000 ids) (b:=b) (by rw[Ln];exact A)
  rw[hρ] at this
  exact this
 have σout:∀ c ∈ all,c ∈ (A8 100000 ids).map (·.2)→σ c ∈ ids:=by
  intro c _ C
  rw[←hσ,CK,if_pos (by rw[List.map_map];exact C)]
  have:=NZ (d:=0) (l:=(A8 100000 ids).map (fun p=>(p.2,p.1))) (b:=c) (by rw[List.map_map];exact C)
  rw[List.map_map] at this
  have e:(A8 100000 ids).map ((fun x=>x.2)∘fun p=>(p.2,p.1))=ids:=Ln
  rw[e] at this
  exact this
 have newmem:∀ c ∈ new,c ∈ all∧c ∉ (A8 100000 ids).map (·.2):=by
  intro c C
  rw[←hnew] at C
  obtain⟨h6,h7⟩:=List.mem_filter.1 C
  refine⟨h6,fun U=>?_⟩
  rw[Ms.2 U] at h7;simp at h7
 have σnew:∀ c ∈ new,σ c=J6 0 (A8 (nid d) new) c:=by
  intro c C
  rw[←hσ,CK,if_neg]
  rw[List.map_map];exact(newmem c C).2
 have allcases:∀ c ∈ all,c ∈ (A8 100000 ids).map (·.2)∨c ∈ new:=by
  intro c C
  by_cases U:c ∈ (A8 100000 ids).map (·.2)
  ·exact .inl U
  ·refine .inr ?_
   rw[←hnew]
   refine List.mem_filter.2 ⟨C,?_⟩
   cases hq:Kj ((A8 100000 ids).map (·.2)) c with
   | false=>rfl
   | true=>exact absurd (Ms.1 hq) U
 generalize hups:((A8 100000 ids).map fun p=>(p.1,(Au rh p.2).map (MJ σ)))++(A8 (nid d) new).map (fun p=>(p.2,(Au rh p.1).map (MJ σ)))=ups at *
 have keys:ups.map (·.1)=ids++(A8 (nid d) new).map (·.2):=by
  rw[←hups,List.map_append,List.map_map,List.map_map]
  congr 1
  exact Ln
 have newFree:∀ c ∈ (A8 (nid d) new).map (·.2),Au h c=none:=by
  intro c C
  refine hfree c (sG.2 (by rw[keys];exact List.mem_append.2 (.inr C))) ?_
  have:=V8 C
  unfold WC
  simp;omega
 have keysN:(ups.map (·.1)).Nodup:=by
  rw[keys,List.nodup_append]
  refine⟨SU G,ES,fun a ha b A e=>?_⟩
  subst e
  obtain⟨x,B,_⟩:=aliveH a ha
  rw[newFree a A] at B;cases B
 have upsOld:∀ b ∈ ids,(b,(Au rh (ρ b)).map (MJ σ)) ∈ ups:=by
  intro b A
  rw[←hups]
  refine List.mem_append.2 (.inl (List.mem_map.2 ⟨(b,ρ b),?_,rfl⟩))
  rw[←hρ];exact bI A
 have upsNew:∀ c ∈ new,(σ c,(Au rh c).map (MJ σ)) ∈ ups:=by
  intro c C
  rw[←hups]
  refine List.mem_append.2 (.inr (List.mem_map.2 ⟨(c,σ c),?_,rfl⟩))
  rw[σnew c C];exact bI C
 have J0:∃ J0:Bool→Nat→Prop,SimH J0 β' rh w'∧Rep J0 β' rh w' rv vc∧∀ o k,J0 o k→J o k∨As0 (WJ ρ ids β) (sub (Au h) ρ ids) k∨w.heap.size≤k:=by
  cases he:Ao3 fz with
  | true =>
   have:=Ax6.1 he
   subst this
   refine⟨J',F.sim,hR,fun o k I=>?_⟩
   rcases F.jup o k I with(I | ⟨_,b,x,o',A,_⟩) | I
   ·exact .inl I
   ·simp at A
   ·exact .inr I
  | false =>
   rw[he] at T
   simp at T
   refine⟨fun _=>J' false,F.sim.noOrg T.2,Rep.noOrg T.1 hR,fun o k I=>?_⟩
   rcases F.jup false k I with(h6 | ⟨h0,_⟩) | h6
   ·left
    cases o
    ·exact h6
    ·exact S.jft k h6
   ·cases h0
   ·exact .inr h6
 obtain⟨J0,S0,R0,jup0⟩:=J0
 have S1:=S0.ren L hrin
 have R1:=Rep.ren L hrv R0
 have M:=Step.merge (J:=J) (J0:=J0) (J1:=J0) (H:=At ups h) (D:=ids++(A8 (nid d) new).map (·.2)) (ids:=ids) S S1
  (fun b A=>C9 _ _ _ (by
   cases hi:Bh ups b with
   | false=>rfl
   | true=>exact absurd (by rw[←keys];exact sG.1 hi) A))
  (fun b x A B Y=>by
   rcases List.mem_append.1 A with A | A
   ·rw[Of keysN (upsOld b A)] at B
    cases hq:Au rh (ρ b) with
    | none =>
     rw[hq] at B;simp at B
     obtain⟨y,_,rfl⟩:=B
     simp[Ax5] at Y
    | some y =>
     rw[hq] at B;simp at B;subst B
     have:=IS (g:=Au rh) L (ρ b) y (ρall b A) hq
     rw[back b A] at this
     exact this
   ·obtain⟨c,C,rfl⟩:∃ c ∈ new,σ c=b:=by
     obtain⟨p,V,rfl⟩:=List.mem_map.1 A
     have hp1:p.1 ∈ new:=na V
     refine⟨p.1,hp1,?_⟩
     rw[σnew _ hp1]
     have:∀ {base:Nat} {l:List Nat} {p:Nat×Nat},l.Nodup→p ∈ A8 base l→J6 0 (A8 base l) p.1=p.2:=by
      intro base l
      induction l generalizing base with
      | nil=>intro p _ V;simp[A8] at V
      | cons i r ih =>
       intro p hn V
       rw[List.nodup_cons] at hn
       rw[A8] at V ⊢
       rw[J6]
       rcases List.mem_cons.1 V with rfl | V
       ·simp
       ·have:p.1 ∈ r:=na V
        rw[gv (fun e=>hn.1 (by rw[e];exact this))]
        exact ih hn.2 V
     refine this ?_ V
     rw[←hnew]
     exact SV (SU L)
    rw[Of keysN (upsNew c C)] at B
    obtain⟨y,hy,_⟩:=hnal c C
    rw[hy] at B;simp at B;subst B
    exact IS (g:=Au rh) L c y (newmem c C).1 hy)
  (fun b x A=>by
   obtain⟨c,y,C,rfl,hy,rfl⟩:=Px L b x A
   rcases allcases c C with U | U
   ·have h6:=σout c C U
    have h7:ρ (σ c)=c:=by
     have:(all.map σ).Nodup:=L
     have e1:=back (σ c) h6
     have e2:=ρall (σ c) h6
     exact A12 this e2 C e1
    refine⟨List.mem_append.2 (.inl h6),?_⟩
    rw[Of keysN (upsOld (σ c) h6),h7,hy];rfl
   ·refine⟨List.mem_append.2 (.inr ?_),?_⟩
    ·rw[σnew c U]
     exact NZ (by rw[Ln];exact U)
    ·rw[Of keysN (upsNew c U),hy];rfl)
  (fun b x A hni B=>by
   rcases List.mem_append.1 A with A | A
   ·exact hni A
   ·rw[newFree b A] at B;cases B)
  (fun b x A B=>by
   rw[Of keysN (upsOld b A)]
   cases hq:Au rh (ρ b) with
   | none=>exact⟨Ax5 x,⟨by simp[B],rfl⟩,.inl rfl⟩
   | some y =>
    cases Y:y.dead with
    | true=>have:=F.live _ _ hq;rw[Y] at this;cases this
    | false =>
     have e0:=IS (g:=Au h) G b x A B
     obtain⟨⟨e1,em⟩,e2,e3,e4⟩:=F.outs (ρ b) _ y e0 hq Y
     refine⟨MJ σ y,⟨by simp,em⟩,.inr ?_⟩
     refine⟨e4,?_,e2,fun hmx=>?_⟩
     ·have:=Hs (β:=β') L (ρall b A)
      rw[back b A] at this
      rw[this,e1]
      exact Hs G A
     ·rw[Oe,e3 hmx,Oe])
  (fun b A=>List.mem_append.2 (.inl A))
  F.os F.tape F.output F.size
  (fun k hk U=>F.frame k hk (fun hm'=>U (Aau G hm')))
  (fun k U hk=>Aau G (F.wr k (Apl L U) hk))
  (fun o k I=>by
   rcases jup0 o k I with I | I | I
   ·exact .inl I
   ·exact .inr (.inl (Aau G I))
   ·exact .inr (.inr I))
  F.sizes
 exact⟨_,_,M.1,Rep.ext M.2 R1⟩
theorem Att {P:Program} {muts:Nat→List Bool} {T:List (Nat×Tw)} {hs:Hints} {N f:Nat} {args:List AV} {h:Am} {res:AV} {h':Am} (hT:Aap P T) (U:P.follows .mixedOrders=true)
  (D:WD P muts T hs N f args h (fun v h'=>some (v,h'))=some (res,h')):Bc5 P f args h res h':=by
 unfold WD at D
 split at D
 ·simp at D
 ·rename_i fn V
  split at D
  ·simp at D
  ·rename_i c hc
   simp only at D
   obtain⟨F,h1⟩:=uc D
   simp only[Bool.and_eq_true] at F
   obtain⟨C,A⟩:=F
   have C:args.length≤fn.ntmps:=by simpa using C
   intro J β w vs S hv
   have hvl:vs.length=args.length:=((C2).1 hv).1
   refine calls_of_wp V hc ?_
   have roots:∀ {h:Am} {b:Nat} {x:Blk},z8 h=true→Au h b=some x→zn b=true:=by
    intro h
    induction h with
    | nil=>intro b x _ k;simp[Au] at k
    | cons p r Y =>
     intro b x hr k
     obtain⟨i,y⟩:=p
     rw[z8] at hr
     simp at hr
     rw[Au] at k
     cases hi:Nat.beq i b with
     | true=>have:=Nat.eq_of_beq_eq_true hi;subst this;exact hr.1
     | false=>rw[hi] at k;exact Y hr.2 (by simpa using k)
   have sgetI:∀ {args:List AV} {j i:Nat},Gu (Ali j args) i=if j≤i then (args[i - j]?).getD .undef else .undef:=by
    intro args
    induction args with
    | nil=>intro j i;simp[Ali,Gu]
    | cons v r Y =>
     intro j i
     rw[Ali,Gu]
     cases hi:Nat.beq j i with
     | true=>have:=Nat.eq_of_beq_eq_true hi;subst this;simp
     | false =>
      have:=AN hi
      simp only[cond_false]
      rw[Y]
      by_cases G:j+1≤i
      ·rw[if_pos G,if_pos (by omega),show i - j=(i - (j+1))+1 by omega];simp
      ·rw[if_neg G]
       by_cases B:j≤i
       ·omega
       ·rw[if_neg B]
   have I:Inv ⟨J,β,h,w⟩ fn.ntmps J β { s:=Ali 0 args,h:=h } { tmps:=vs.toArray++Array.replicate (fn.ntmps - vs.toArray.size) undef,defers:=[] } w:=by
    refine⟨S,⟨fun i v hi=>?_,fun i hi=>?_⟩,?_,rfl,rfl,rfl,rfl,Nat.le_refl _,fun _ _ _=>rfl,fun _ U _=>U,fun _ _ hj=>hj,fun _ _ hj=>.inl hj,fun _=>Nat.le_refl _,?_,?_,?_⟩
    ·rw[sgetI,if_pos (Nat.zero_le _)]
     by_cases L:i<args.length
     ·have B:args[i - 0]?=some args[i]:=by simp[L]
      rw[B]
      have M:vs[i]?=some v:=by
       rw[Array.getElem?_append_left (by simp;omega)] at hi
       simpa using hi
      exact((C2).1 hv).2 i _ _ (by simp[L]) M
     ·have B:args[i - 0]?=none:=by simp;omega
      rw[B];simp[Rep]
    ·simp at hi
     rw[sgetI,if_pos (Nat.zero_le _)]
     have B:args[i - 0]?=none:=by simp;omega
     rw[B];rfl
    ·simp;omega
    ·intro b x0 k;exact(Aao.1 (roots A k)).2
    ·intro b x0 k;exact(Aao.1 (roots A k)).1
    ·intro b x0 x k O hd
     change Au h b=some x0 at k
     change Au h b=some x at O
     rw[k] at O;simp at O;subst O
     exact⟨⟨rfl,rfl⟩,rfl,fun _=>rfl,hd⟩
   have fin:∀ st' a' w' J' β',Inv ⟨J,β,h,w⟩ fn.ntmps J' β' st' a' w'→CH { P:=P,nt:=fn.ntmps,muts:=muts,nils:=hs.nils,free:=hs.free,cob:=hs.cob,tbl:=T } fn hs.modes (h.map (·.1)) (fun v h'=>some (v,h')) st'=some (res,h') →
     a'.defers=[]∧∃ v,(results fn a'.tmps).run P w'=.ok v w'∧∃ vc J' β',Ending.returned v=.returned vc∧FDone ⟨J,β,h,w⟩ J' β' h' w'∧Rep J' β' h' w' res vc:=by
    intro st' a' w' J' β' I' B
    obtain⟨res2,h2',vc,J2,β2,M,h4,h5,h6⟩:=Ait I' B
    simp at M
    obtain⟨rfl,rfl⟩:=M
    exact⟨I'.defers,vc,h4,vc,J2,β2,rfl,h5,h6⟩
   exact Ato (E:={ P:=P,nt:=fn.ntmps,muts:=muts,nils:=hs.nils,free:=hs.free,cob:=hs.cob,tbl:=T }) (A6u hT) U c I h1 fin (fun _ _ _ _ _ _ _ B=>by simp at B) fin
end Gx

namespace Gx
open Go
section
variable {R R':Type}
theorem Ax7 (E:Env) (ops:Array Oper) (o:Oper) (st:St) (k:St→Foot→Option R) (g:R→Option R'):(Asy E ops o st k).bind g=Asy E ops o st fun st f=>(k st f).bind g:=by
 rw[fw,fw,Option.bind_assoc]
theorem Apn (ops:Array Oper) (o:Oper) (st:St) (k:St→Option R) (g:R→Option R'):(rx ops o st k).bind g=rx ops o st fun st=>(k st).bind g:=by
 unfold rx
 split
 ·rfl
 ·split
  ·rfl
  ·split
   ·rw[Ax]
   ·rfl
theorem Aav (E:Env) (ops:Array Oper) (g:R→Option R'):∀ (l:List Oper) (st:St) (tr:List Foot) (k:St→List Foot→Option R),(zk E ops l st tr k).bind g=zk E ops l st tr fun st tr=>(k st tr).bind g
 | [],st,tr,k=>rfl
 | o::r,st,tr,k=>by
  rw[zk,zk,Apn]
  congr 1;funext st
  rw[Ax7]
  congr 1;funext st f
  exact Aav E ops g r st (f::tr) k
theorem Aiw (E:Env) (roots:List Nat) (ops:Array Oper) (draw:Bool) (st:St) (k:St→Option R) (g:R→Option R'):(fj E roots ops draw st k).bind g=fj E roots ops draw st fun st=>(k st).bind g:=by
 unfold fj
 rw[Aav]
 congr 1;funext st tr
 rw[Ax,Option.bind_assoc];rfl
theorem Ax8 (E:Env) (roots:List Nat) (H:Hint) (f:St→Option R) (g:R→Option R') (st:St):(A28 E roots H f st).bind g=A28 E roots H (fun st=>(f st).bind g) st:=by
 unfold A28
 rw[Ax,Option.bind_assoc,IN,IN]
theorem ui (cn:St→Option St) (A:(St→Option R)→St→Option R) (B:(St→Option R')→St→Option R') (g:R→Option R') (C:∀ k st,(A k st).bind g=B (fun st=>(k st).bind g) st):∀ n st,(a7 cn A n st).bind g=a7 cn B n st
 | 0,st=>rfl
 | n+1,st=>by
  rw[a7,a7,C]
  congr 1;funext st
  rw[Option.bind_assoc]
  congr 1;funext st
  exact ui cn A B g C n st
theorem Atu (E:Env) (roots:List Nat) (N:Nat) (g:R→Option R'):∀ (c:Code) (H:Hint) (k:St→Option R) (x:Nat→St→Option R) (r:St→Option R) (st:St),
  (Gw E roots N c H k x r st).bind g=Gw E roots N c H (fun st=>(k st).bind g) (fun j st=>(x j st).bind g) (fun st=>(r st).bind g) st:=by
 intro c
 induction c with
 | skip=>intro H k x r st;rfl
 | region id ops draw=>intro H k x r st;exact Aiw ..
 | seq a b A B =>
  intro H k x r st
  rw[Gw,Gw,A]
  congr 1;funext st
  rw[Ax8]
  congr 1;funext st
  exact B ..
 | cond c a b A B =>
  intro H k x r st
  rw[Gw,Gw]
  split
  ·rw[Ax,A,B]
  ·rfl
 | block id c C =>
  intro H k x r st
  rw[Gw,Gw,C]
  simp only[Ax]
 | loop c C =>
  intro H k x r st
  rw[Gw,Gw,Option.bind_assoc,IN,IN]
  congr 1;funext st
  exact ui _ _ _ g (fun k st=>C ..) N st
 | exit id=>intro H k x r st;rfl
 | ret=>intro H k x r st;rfl
 | rangeFunc=>intro H k x r st;rfl
 | scope=>intro H k x r st;rfl
 | label=>intro H k x r st;rfl
 | goto=>intro H k x r st;rfl
 | refuse=>intro H k x r st;rfl
theorem MR (E:Env) (st:St) (g:R→Option R'):∀ (l:List ResultVar) (acc:List AV) (k:List AV→Option R),(Pt E st l acc k).bind g=Pt E st l acc fun l=>(k l).bind g
 | [],acc,k=>rfl
 | .tmp t::r,acc,k=>by rw[Pt,Pt];exact MR E st g r _ k
 | .cell a t::r,acc,k=>by
  rw[Pt,Pt,SR,SR (R:=R'),Option.bind_assoc]
  congr 1;funext v
  exact MR E st g r _ k
theorem Aix (E:Env) (fn:Func) (modes:List (Nat×Nat)) (outs:List Nat) (k:AV→Am→Option R) (g:R→Option R') (st:St):(CH E fn modes outs k st).bind g=CH E fn modes outs (fun v h=>(k v h).bind g) st:=by
 unfold CH
 rw[MR]
 congr 1;funext l
 rw[Option.bind_assoc]
 congr 1;funext q
 rw[Ax];rfl
theorem Ax9 (P:Program) (muts:Nat→List Bool) (T:List (Nat×Tw)) (hs:Hints) (N f:Nat) (args:List AV) (h:Am) (k:AV→Am→Option R) :
  WD P muts T hs N f args h k=(WD P muts T hs N f args h fun v h=>some (v,h)).bind fun p=>k p.1 p.2:=by
 unfold WD
 split
 ·rfl
 ·split
  ·rfl
  ·simp only
   rw[Ax,Atu]
   simp only[Aix]
   rfl
structure Cut (R:Type) where
 c:Code
 H:Hint
 k:St→Option R
 x:Nat→St→Option R
 r:St→Option R
noncomputable def Ba2 (E:Env) (roots:List Nat) (N:Nat):List Nat→Code→Hint→(St→Option R)→(Nat→St→Option R)→(St→Option R)→List (St→Option R)→Cut R
 | [],c,H,k,x,r,_=>⟨c,H,k,x,r⟩
 | d::p,.seq a b,H,k,x,r,ks=>cond (Nat.beq d 0) (Ba2 E roots N p a H.a (A28 E roots H fun st=>Gw E roots N b H.b k x r st) x r ks) (Ba2 E roots N p b H.b k x r ks)
 | d::p,.cond _ a b,H,k,x,r,ks=>cond (Nat.beq d 0) (Ba2 E roots N p a H.a k x r ks) (Ba2 E roots N p b H.b k x r ks)
 | _::p,.block id c,H,k,x,r,ks=>Ba2 E roots N p c H.a k (fun j st=>cond (Nat.beq j id) (k st) (x j st)) r ks
 | _::p,.loop c,H,_,x,r,q::ks=>Ba2 E roots N p c H.a (fun st=>(nT E H.live roots st).bind q) x r ks
 | _::_,c,H,k,x,r,_=>⟨c,H,k,x,r⟩
def Atv:Code→Code
 | .loop c=>c
 | c=>c
structure CutB (R:Type) where
 E:Env
 roots:List Nat
 N:Nat
 c:Cut R
noncomputable def Bb (q:CutB R) (st:St):Option R:=Gw q.E q.roots q.N q.c.c q.c.H q.c.k q.c.x q.c.r st
noncomputable def A6v (q:CutB R) (st:St):Option R:=A6l true (fun st=>Gw q.E q.roots q.N q.c.c q.c.H q.c.k q.c.x q.c.r st) st
theorem As (q:CutB R) (st:St):A6v q st=Bb q st:=by unfold A6v;rw[IN];rfl
noncomputable def Ap (q:CutB R) (n:Nat) (st:St):Option R:=a7 (nT q.E q.c.H.live q.roots) (fun k st=>Gw q.E q.roots q.N (Atv q.c.c) q.c.H.a k q.c.x q.c.r st) n st
noncomputable def A99 (q:CutB R) (st:St):Option R:=A6l true (a7 (nT q.E q.c.H.live q.roots) (fun k st=>Gw q.E q.roots q.N (Atv q.c.c) q.c.H.a k q.c.x q.c.r st) q.N) st
theorem Ak (q:CutB R) (st:St):A99 q st=Ap q q.N st:=by unfold A99;rw[IN];rfl
def Ba3 (fn:Func):Code:=match fn.body with | some c=>c | none=>.skip
def Baa:List (Nat×List Bool)→Nat→List Bool
 | [],_=>[]
 | (i,l)::r,f=>cond (Nat.beq i f) l (Baa r f)
end
end Gx

namespace Gx
open Go
abbrev LA:=List AV
abbrev O (R:Type):=Option R
abbrev KF (R:Type):=AV→Am→Option R
abbrev Ek:=List (Nat×Tw)
abbrev hL:Hint:=.leaf
abbrev hS (a b:Hint):Hint:=.node [] a b
abbrev hP (l:List Nat) (a:Hint):Hint:=.node l a .leaf
abbrev hJ (l:List Nat) (a b:Hint):Hint:=.join l a b
def A8s (P:Program) (muts:Nat→List Bool) (nt:Nat) (hs:Hints) (T:List (Nat×Tw)):Env:={ P,nt,muts,nils:=hs.nils,free:=hs.free,cob:=hs.cob,tbl:=T }
noncomputable def Bdu {R:Type} (P:Program) (muts:Nat→List Bool) (fn:Func) (hs:Hints) (T:List (Nat×Tw)) (roots:List Nat) (N:Nat) (F:KF R) (p:List Nat) (ks:List (St→Option R)):CutB R :=
 ⟨A8s P muts fn.ntmps hs T,roots,N,Ba2 (A8s P muts fn.ntmps hs T) roots N p (Ba3 fn) hs.H (CH (A8s P muts fn.ntmps hs T) fn hs.modes roots F) (fun _ _=>none) (CH (A8s P muts fn.ntmps hs T) fn hs.modes roots F) ks⟩
def bQ (sz:Nat) (c:LA):Blk:=⟨false,false,true,false,sz,c,false⟩
def bP (t:Bool) (sz:Nat) (c:LA):Blk:=⟨false,false,true,t,sz,c,false⟩
def bT (sz:Nat) (c:LA):Blk:=⟨false,true,true,false,sz,c,false⟩
def Ao {R:Type} (kd:IntKind) (c:List AV) (k:Int→Option R):Option R:=(c.head?).bind fun x=>(uG kd x).bind k
def N_ {R:Type} (c:List AV) (k:Bool→Option R):Option R:=(c.head?).bind fun x=>(asBool x).bind k
def Ass {R:Type} (c:List AV) (k:List UInt8→Option R):Option R:=(c.head?).bind fun x=>(uH x).bind k
def Ct {R:Type} (sz:Nat) (c:List AV) (k:List AV→Nat→Option R):Option R:=(c.head?).bind fun x=>(A24 sz x).bind fun p=>k p.1 p.2
def Aya (k:IntKind) (a b:Int):Int:=k.wrap ((BitVec.ofInt k.bits a &&& BitVec.ofInt k.bits b).toNat:Int)
def Ta (k:IntKind) (a b:Int):Int:=k.wrap ((BitVec.ofInt k.bits a ||| BitVec.ofInt k.bits b).toNat:Int)
def Ba4 (P:Program) (muts:Nat→List Bool) (N f:Nat) (run:(R:Type)→Nat→List AV→Am→KF R→Option R):Prop:=∀ {R Q:Type} (args:List AV) (h:Am) (k:KF R) (j:KF Q),
 (∃ T hs,Aap P T∧run R N args h k=WD P muts T hs N f args h k∧run Q N args h j=WD P muts T hs N f args h j)∨(run R N args h k=none∧run Q N args h j=none)
theorem A2 {P:Program} {muts:Nat→List Bool} {T:List (Nat×Tw)} {hs:Hints} {N f:Nat} {args:List AV} {h:Am} {R Q:Type} {k:KF R} {j:KF Q} {a:Option R} {b:Option Q} {p:Prop}
  (A:WD P muts T hs N f args h k=a) (B:WD P muts T hs N f args h j=b) (hT:Aap P T):(∃ T hs,Aap P T∧a=WD P muts T hs N f args h k∧b=WD P muts T hs N f args h j)∨p:=.inl ⟨T,hs,hT,A.symm,B.symm⟩
theorem A5 {R Q:Type} {p:Prop}:p∨((none:Option R)=none∧(none:Option Q)=none):=.inr ⟨rfl,rfl⟩
def A4 {P:Program} {muts:Nat→List Bool} {N f:Nat} {run:(R:Type)→Nat→List AV→Am→KF R→Option R} (H:Ba4 P muts N f run):Tw:=⟨fun {R} args h k=>run R N args h k,fun args h k=>by
 rcases H args h k (fun v h=>some (v,h)) with⟨T,hs,_,e1,e2⟩ | ⟨e1,e2⟩
 ·rw[e1,e2];exact Ax9 ..
 ·rw[e1,e2];rfl⟩
theorem A6 {P:Program} {muts:Nat→List Bool} {N f:Nat} {run:(R:Type)→Nat→List AV→Am→KF R→Option R} (H:Ba4 P muts N f run) (A:P.follows .mixedOrders=true):A1 P f (A4 H):=by
 intro args h res h' k
 change run _ N args h _=_ at k
 rcases H args h (fun v h=>some (v,h)) (fun v h=>some (v,h)) with⟨T,hs,hT,e1,_⟩ | ⟨e1,_⟩
 ·rw[e1] at k;exact Att hT A k
 ·rw[e1] at k;cases k
theorem Bs {α δ:Type} (f:α→δ) {a a':α} (k:a=a'):f a=f a':=by rw[k]
theorem bJ {α β δ:Type} (f:α→β→δ) {a a':α} {b b':β} (k:a=a') (A:b=b'):f a b=f a' b':=by rw[k,A]
theorem Bcd {α β γ δ:Type} (f:α→β→γ→δ) {a a':α} {b b':β} {c c':γ} (k:a=a') (A:b=b') (B:c=c'):f a b c=f a' b' c':=by rw[k,A,B]
theorem Bdv {α β γ ε ζ η δ:Type} (f:α→β→γ→ε→ζ→η→δ) {a a':α} {b b':β} {c c':γ} {d d':ε} {e e':ζ} {g g':η} (k:a=a') (A:b=b') (B:c=c') (C:d=d') (D:e=e') (F:g=g'):f a b c d e g=f a' b' c' d' e' g':=by rw[k,A,B,C,D,F]
end Gx

namespace Gx
open Go
theorem wrap_u8 (a:Nat):IntKind.wrap .u8 (a:Int)=((a%256:Nat):Int):=by rw[IntKind.wrap_u8];omega
theorem wrap_u32 (a:Nat) (h:a<4294967296):IntKind.wrap .u32 (a:Int)=(a:Int):=IntWalk.u32_in _ (by omega)
theorem A3i (a:Nat):IntKind.wrap .u32 (a:Int)=((a%4294967296:Nat):Int):=by rw[IntKind.wrap_u32];omega
theorem Yh (a:Int) (h:-9223372036854775808≤a∧a≤9223372036854775807):IntKind.wrap .i64 a=a:=IntWalk.i64_in _ h
theorem wrap_u64 (a:Nat) (h:a<18446744073709551616):IntKind.wrap .u64 (a:Int)=(a:Int):=IntWalk.u64_in _ (by omega)
theorem fy (w a:Nat):BitVec.ofInt w (a:Int)=BitVec.ofNat w a:=by simp
theorem Ayb {k:IntKind} (hs:k.signed=false) {a b:Nat} (B:a<2 ^ k.bits) (A:b<2 ^ k.bits):Aya k a b=((a &&& b:Nat):Int):=by
 unfold Aya
 rw[fy,fy]
 have C:(BitVec.ofNat k.bits a &&& BitVec.ofNat k.bits b).toNat=a &&& b:=by
  rw[BitVec.toNat_and,BitVec.toNat_ofNat,BitVec.toNat_ofNat,Nat.mod_eq_of_lt B,Nat.mod_eq_of_lt A]
 rw[C]
 have D:a &&& b<2 ^ k.bits:=Nat.and_lt_two_pow _ A
 unfold IntKind.wrap
 simp only[hs,Bool.false_and,Bool.false_eq_true,if_false]
 have:(2 ^ k.bits:Int)=((2 ^ k.bits:Nat):Int):=by simp
 rw[this,←Int.natCast_emod,Nat.mod_eq_of_lt D]
theorem Alt {k:IntKind} (hs:k.signed=false) {a b:Nat} (A:a<2 ^ k.bits) (B:b<2 ^ k.bits):Ta k a b=((a ||| b:Nat):Int):=by
 unfold Ta
 rw[fy,fy]
 have C:(BitVec.ofNat k.bits a ||| BitVec.ofNat k.bits b).toNat=a ||| b:=by
  rw[BitVec.toNat_or,BitVec.toNat_ofNat,BitVec.toNat_ofNat,Nat.mod_eq_of_lt A,Nat.mod_eq_of_lt B]
 rw[C]
 have D:a ||| b<2 ^ k.bits:=Nat.or_lt_two_pow A B
 unfold IntKind.wrap
 simp only[hs,Bool.false_and,Bool.false_eq_true,if_false]
 have:(2 ^ k.bits:Int)=((2 ^ k.bits:Nat):Int):=by simp
 rw[this,←Int.natCast_emod,Nat.mod_eq_of_lt D]
theorem T3 (a k:Nat):Int.fdiv (a:Int) (2 ^ k)=((a/2 ^ k:Nat):Int):=by
 have:(2 ^ k:Int)=((2 ^ k:Nat):Int):=by simp
 rw[this,Int.fdiv_eq_ediv_of_nonneg (a:Int) (Int.natCast_nonneg (2 ^ k))]
 rfl
theorem Az {R:Type} {k:IntKind} {n:Int} {r:List AV} {f:Int→Option R}:Ao k (.int k n::r) f=f n:=by simp[Ao,uG,Tz]
theorem Aa {i n:Nat} (h:i<n):Ad (i:Int) n=true:=by simp[Ad];omega
end Gx

namespace Gx
def val:List Nat→Nat
 | []=>0
 | x::r=>x+4294967296*val r
def Al (l:List Nat):Prop:=∀ x ∈ l,x<4294967296
def Atw:Nat→Nat→List Nat
 | 0,_=>[]
 | f+1,n=>if n=0 then [] else n%4294967296::Atw f (n/4294967296)
def Ar (n:Nat):List Nat:=Atw n n
theorem A13:∀ (f n:Nat),n≤f→∀ g,n≤g→Atw f n=Atw g n
 | 0,n,h,g,_=>by
  have:n=0:=by omega
  subst this;cases g<;>simp[Atw]
 | f+1,n,h,g,A=>by
  by_cases k:n=0
  ·subst k;cases g<;>simp[Atw]
  ·cases g with
   | zero=>omega
   | succ g=>simp only[Atw,k,if_false];rw[A13 f _ (by omega) g (by omega)]
theorem Ea:Ar 0=[]:=rfl
theorem SW {n:Nat} (h:n≠0):Ar n=n%4294967296::Ar (n/4294967296):=by
 unfold Ar
 cases n with
 | zero=>omega
 | succ n=>simp only[Atw,h,if_false];rw[A13 n _ (by omega) ((n+1)/4294967296) (by omega)]
theorem Aj:∀ n,val (Ar n)=n:=by
 intro n
 induction n using Nat.strongRecOn with
 | _ n k =>
  by_cases h:n=0
  ·subst h;rfl
  ·rw[SW h,val,k _ (by omega)];omega
theorem Ac:∀ n,Al (Ar n):=by
 intro n
 induction n using Nat.strongRecOn with
 | _ n A =>
  by_cases h:n=0
  ·subst h;intro x k;simp[Ea] at k
  ·rw[SW h];intro x k
   simp at k
   rcases k with rfl | k
   ·omega
   ·exact A _ (by omega) x k
theorem V9:Al []:=by intro x k;simp at k
theorem Dq {x:Nat} {r:List Nat}:Al (x::r)↔x<4294967296∧Al r:=by simp[Al]
theorem nc {a b:List Nat}:Al (a++b)↔Al a∧Al b:=by simp[Al,or_imp,forall_and]
theorem Co {a:List Nat} (h:Al a) (n:Nat):Al (a.take n):=fun x k=>h x (List.mem_of_mem_take k)
theorem SX {a:List Nat} (h:Al a) (n:Nat):Al (a.drop n):=fun x k=>h x (List.mem_of_mem_drop k)
theorem Bc {a:List Nat} (h:Al a) {i:Nat} (hi:i<a.length):a[i]<4294967296:=h _ (List.getElem_mem hi)
theorem Cx {a:List Nat} (h:Al a) {v:Nat} (B:v<4294967296) (i:Nat):Al (a.set i v):=fun x A=>by
 rcases List.mem_or_eq_of_mem_set A with k | k
 ·exact h x k
 ·omega
theorem Cu (n:Nat):Al (List.replicate n 0):=fun x k=>by simp at k;omega
theorem Sb:∀ (a b:List Nat),val (a++b)=val a+4294967296 ^ a.length*val b
 | [],b=>by simp[val]
 | x::r,b=>by
  simp only[List.cons_append,val,List.length_cons,Sb r b,Nat.pow_succ]
  rw[Nat.mul_add,←Nat.add_assoc,←Nat.mul_assoc];congr 2;rw[Nat.mul_comm]
theorem Em:∀ n,val (List.replicate n 0)=0
 | 0=>rfl
 | n+1=>by rw[List.replicate_succ,val,Em n]
theorem Bm:∀ {a:List Nat},Al a→val a<4294967296 ^ a.length
 | [],_=>by simp[val]
 | x::r,h=>by
  have k:=Dq.1 h
  have A:=Bm k.2
  rw[val,List.length_cons,Nat.pow_succ]
  omega
theorem Ayc (a:List Nat) (x:Nat):val (a++[x])=val a+4294967296 ^ a.length*x:=by rw[Sb];simp[val]
theorem lZ {n:Nat} (h:n≠0):Ar n≠[]:=by rw[SW h];simp
theorem Aaw {n:Nat}:Ar n=[]↔n=0:=by
 constructor
 ·intro h;by_cases k:n=0;exact k;exact absurd h (lZ k)
 ·intro h;rw[h];rfl
theorem By {n:Nat}:(Ar n).length=0↔n=0:=by rw[List.length_eq_zero_iff,Aaw]
theorem Bu:∀ {l:List Nat},Al l→l=Ar (val l)++List.replicate (l.length - (Ar (val l)).length) 0∧(Ar (val l)).length≤l.length
 | [],_=>by simp[val,Ea]
 | x::r,h=>by
  have B:=Dq.1 h
  obtain⟨k,C⟩:=Bu B.2
  rw[val]
  by_cases A:x+4294967296*val r=0
  ·have D:x=0:=by omega
   have hr:val r=0:=by omega
   rw[A,Ea]
   rw[hr,Ea] at k
   simp at k
   subst D
   refine⟨?_,by simp⟩
   rw[List.nil_append,List.length_nil,Nat.sub_zero,List.length_cons,List.replicate_succ,←k]
  ·rw[SW A,show(x+4294967296*val r)%4294967296=x by omega,show(x+4294967296*val r)/4294967296=val r by omega]
   refine⟨?_,by simp;exact C⟩
   rw[List.cons_append,List.length_cons,List.length_cons,Nat.add_sub_add_right,←k]
theorem Aax:∀ (n:Nat) (h:Ar n≠[]),(Ar n).getLast h≠0:=by
 intro n
 induction n using Nat.strongRecOn with
 | _ n B =>
  intro h
  have C:n≠0:=fun e=>h (by rw[e];rfl)
  have e:=SW C
  by_cases A:n/4294967296=0
  ·rw[A,Ea] at e
   have:n<4294967296:=by omega
   simp[e];omega
  ·have k:=lZ A
   have:=B _ (by omega) k
   have D:(Ar n).getLast h=(Ar (n/4294967296)).getLast k:=by
    simp only[e];rw[List.getLast_cons k]
   rw[D];exact this
theorem Ba5:∀ {l:List Nat},Al l→(∀ h:l≠[],l.getLast h≠0)→Ar (val l)=l:=by
 intro l h F
 obtain⟨A,G⟩:=Bu h
 by_cases C:l.length - (Ar (val l)).length=0
 ·rw[C] at A;simpa using A.symm
 ·exfalso
  obtain⟨k,C⟩:=Nat.exists_eq_succ_of_ne_zero C
  rw[C,List.replicate_succ',←List.append_assoc] at A
  have B:l≠[]:=by intro e;rw[e] at A;simp at A
  apply F B
  have D:l.getLast?=some 0:=by rw[A,List.getLast?_append];rfl
  rw[List.getLast?_eq_some_getLast B] at D
  simpa using D
theorem Es {n k:Nat} (h:n<4294967296 ^ k):(Ar n).length≤k:=by
  induction k generalizing n with
  | zero => have : n = 0 := by simpa using h
            subst this;simp[Ea]
  | succ k B =>
    by_cases A:n=0
    · subst A;simp[Ea]
    · rw[SW A,List.length_cons]
      have:n/4294967296<4294967296 ^ k:=by
        rw[Nat.pow_succ] at h
        exact Nat.div_lt_of_lt_mul (by rw[Nat.mul_comm];exact h)
      have:=B this
      omega
theorem B9 {a b:Nat} (h:a≤b):(Ar a).length≤(Ar b).length:=by
 apply Es
 have:=Bm (Ac b)
 rw[Aj] at this
 omega
end Gx

namespace Gx
theorem Alu {U V U3 V2 P d:Nat} (hV:V2*P≤V) (hU:U<(U3+1)*P) (h:U3<d*V2) (k:0<V):U/V<d:=by
 rw[Nat.div_lt_iff_lt_mul k]
 have B:(U3+1)*P≤d*V2*P:=Nat.mul_le_mul_right _ h
 have A:d*(V2*P)≤d*V:=Nat.mul_le_mul_left _ hV
 rw[←Nat.mul_assoc] at A
 omega
theorem Alv {U V U3 V2 P d:Nat} (hV:V<(V2+1)*P) (hU:U3*P≤U) (h:d*V2≤U3) (A:d≤V2+1) (k:0<V):d≤U/V+1:=by
 cases d with
 | zero=>exact Nat.zero_le _
 | succ d =>
  have:d≤U/V:=by
   rw[Nat.le_div_iff_mul_le k]
   have B:(d+1)*V2*P≤U3*P:=Nat.mul_le_mul_right _ h
   have C:d*V≤d*((V2+1)*P):=Nat.mul_le_mul_left _ (by omega)
   have D:d*((V2+1)*P)≤(d+1)*V2*P:=by
    rw[←Nat.mul_assoc]
    apply Nat.mul_le_mul_right
    rw[Nat.mul_add,Nat.add_mul];omega
   omega
  omega
theorem Atx {a b u v s t x y:Nat} (B:x+v*b=u*a) (C:y+s*a=t*b) (k:u*t=v*s+1):Nat.gcd x y=Nat.gcd a b:=by
 have e1:t*x+v*y=a:=by
  have A:t*x+t*v*b=t*u*a:=by rw[←Nat.mul_assoc t u a |>.symm,Nat.mul_assoc t v b,←Nat.mul_add,B]
  have D:v*y+v*s*a=v*t*b:=by rw[Nat.mul_assoc,Nat.mul_assoc,←Nat.mul_add,C]
  have F:t*u*a=v*s*a+a:=by rw[Nat.mul_comm t u,k,Nat.add_mul,Nat.one_mul]
  have G:t*v*b=v*t*b:=by rw[Nat.mul_comm t v]
  omega
 have I:s*x+u*y=b:=by
  have A:s*x+s*v*b=s*u*a:=by rw[Nat.mul_assoc,Nat.mul_assoc,←Nat.mul_add,B]
  have D:u*y+u*s*a=u*t*b:=by rw[Nat.mul_assoc,Nat.mul_assoc,←Nat.mul_add,C]
  have F:u*t*b=v*s*b+b:=by rw[k,Nat.add_mul,Nat.one_mul]
  have G:s*u*a=u*s*a:=by rw[Nat.mul_comm s u]
  have L:s*v*b=v*s*b:=by rw[Nat.mul_comm s v]
  omega
 apply Nat.dvd_antisymm
 ·apply Nat.dvd_gcd
  ·rw[←e1];exact Nat.dvd_add (Nat.dvd_mul_left_of_dvd (Nat.gcd_dvd_left x y) t) (Nat.dvd_mul_left_of_dvd (Nat.gcd_dvd_right x y) v)
  ·rw[←I];exact Nat.dvd_add (Nat.dvd_mul_left_of_dvd (Nat.gcd_dvd_left x y) s) (Nat.dvd_mul_left_of_dvd (Nat.gcd_dvd_right x y) u)
 ·apply Nat.dvd_gcd
  ·have A:Nat.gcd a b∣x+v*b:=by rw[B];exact Nat.dvd_mul_left_of_dvd (Nat.gcd_dvd_left a b) u
   exact(Nat.dvd_add_left (Nat.dvd_mul_left_of_dvd (Nat.gcd_dvd_right a b) v)).1 A
  ·have A:Nat.gcd a b∣y+s*a:=by rw[C];exact Nat.dvd_mul_left_of_dvd (Nat.gcd_dvd_right a b) t
   exact(Nat.dvd_add_left (Nat.dvd_mul_left_of_dvd (Nat.gcd_dvd_left a b) s)).1 A
theorem IT {a b x y P u v w:Nat} (k:x*P≤a) (B:b<(y+1)*P) (A:u*x=w+v*y) (C:v≤w):v*b≤u*a:=by
 have D:u*(x*P)≤u*a:=Nat.mul_le_mul_left _ k
 have F:v*b≤v*((y+1)*P):=Nat.mul_le_mul_left _ (by omega)
 have G:v*((y+1)*P)≤u*(x*P):=by
  rw[←Nat.mul_assoc,←Nat.mul_assoc]
  apply Nat.mul_le_mul_right
  rw[A,Nat.mul_add];omega
 omega
end Gx

namespace Gx
open Go
section
variable {R:Type}
def Ae (l:List Nat):List AV:=l.map fun n:Nat=>.int .u32 (n:Int)
theorem DS (x:Nat) (l:List Nat):Ae (x::l)=.int .u32 (x:Int)::Ae l:=rfl
theorem B7 (l:List Nat):(Ae l).length=l.length:=by simp[Ae]
theorem A3j (l:List Nat) (n:Nat):(Ae l).drop n=Ae (l.drop n):=by simp[Ae,List.map_drop]
theorem Wa (l:List Nat) (n:Nat):(Ae l).take n=Ae (l.take n):=by simp[Ae,List.map_take]
theorem nf (l:List Nat) (j:Nat) (v:Nat):List.set (Ae l) j (.int .u32 (v:Int))=Ae (l.set j v):=by simp[Ae,List.map_set]
theorem Da (n:Nat):List.replicate n (AV.int .u32 0)=Ae (List.replicate n 0):=by simp[Ae]
theorem Aty {l:List Nat} {i:Nat} (h:i<l.length) {f:Int→Option R}:Ao .u32 (List.drop i (Ae l)) f=f (l[i]:Nat):=by
 rw[A3j,List.drop_eq_getElem_cons h,DS,Az]
theorem IU:∀ l:List Nat,Bd (Ae l)=true
 | []=>rfl
 | x::r=>by rw[DS,Bd];exact IU r
theorem N' (a b:Nat):(a:Int)+(b:Int)=((a+b:Nat):Int):=by omega
theorem Aay (a b:Nat):(a:Int)*(b:Int)=((a*b:Nat):Int):=by simp
theorem Jk {a:Nat} (h:a<18446744073709551616):IntKind.wrap .u64 (a:Int)=(a:Int):=wrap_u64 a h
theorem A14 {a:Nat} (h:a<4294967296):IntKind.wrap .u32 (a:Int)=(a:Int):=wrap_u32 a h
theorem l7 (a:Nat):IntKind.wrap .u32 (a:Int)=((a%4294967296:Nat):Int):=A3i a
theorem l8 (a:Int):IntKind.wrap .u64 a=a%18446744073709551616:=IntKind.wrap_u64 a
theorem sH {a b:Nat} (k:a<18446744073709551616) (A:b≤a):IntKind.wrap .u64 ((a:Int) - (b:Int))=((a - b:Nat):Int):=by rw[l8];omega
theorem A6w {a b:Nat} (h:a<b) (k:b≤18446744073709551616):IntKind.wrap .u64 ((a:Int) - (b:Int))=((18446744073709551616+a - b:Nat):Int):=by rw[l8];omega
theorem sI (a:Nat):Int.fdiv (a:Int) (2 ^ 32)=((a/4294967296:Nat):Int):=T3 a 32
theorem Bce (a:Nat):Int.fdiv (a:Int) (2 ^ 63)=((a/9223372036854775808:Nat):Int):=T3 a 63
theorem i64 {a:Int} (h:-9223372036854775808≤a∧a≤9223372036854775807):IntKind.wrap .i64 a=a:=Yh a h
theorem Ayd {a b:Nat} (k:a<18446744073709551616) (A:b<18446744073709551616):Ta .u64 (a:Int) (b:Int)=((a ||| b:Nat):Int):=Alt rfl k A
theorem sJ {a b k:Nat} (h:b<2 ^ k):a*2 ^ k ||| b=a*2 ^ k+b:=by
 rw[←Nat.shiftLeft_eq,Nat.shiftLeft_add_eq_or_of_lt h]
end
end Gx

namespace Gx
open Go Go.Proofs
open IntKind (wrap)
set_option maxRecDepth 100000
noncomputable section
variable {R:Type} (N:Nat)
def muts:Nat→List Bool:=Baa [(13,[true,false,false]),(14,[true,false]),(44,[true]),(63,[false,false,true,false]),(66,[false,true,false]),(106,[true,false]),(107,[true,false,false]),(109,[true,false,false,false,false]),(110,[true,false,false,false]),(111,[true,false,false,false]),(119,[false,true]),(120,[false,true,true,true,true,true,true,true,true]),(137,[false,true,true,true,true,true,true,true,true]),(138,[false,true]),(148,[false,true]),(151,[true,false]),(152,[true,false]),(153,[true,false,false,false]),(154,[true,false,false,false,false,false,false,false]),(155,[true,false,false,false,false,false]),(157,[true,false,false]),(158,[true,false,false]),(159,[true,false,false]),(160,[true,false,false]),(161,[true,false,false]),(171,[true]),(185,[true,false,false,false,false,false]),(187,[true,false,false,false,false,false]),(188,[true,false,false]),(203,[true,false]),(206,[false,true,true,true,true,true,true,true,true])]
def Kk {R:Type}:=@Bdu R Tryz.prog muts
abbrev Cn {R:Type}:=@WD R Tryz.prog muts
abbrev Aq:=@Ba4 Tryz.prog muts
theorem follows:Tryz.prog.follows .mixedOrders=true:=by kernel_rfl
end
end Gx

namespace Gx
open Go Go.Proofs
open IntKind (wrap)
set_option maxRecDepth 100000
noncomputable section
variable {R:Type} (N:Nat)
def CL (N:Nat) (r0:Nat→LA→O R) (c:LA) (b:Nat) (e d:Bool) (k0:Int→O R) (a:Int):O R :=
 (cond ((decide (a>0))==true) (cond (Ad (wrap .i64 (a - 1)) b) (Ao .u32 (c.drop (((wrap .i64 (a - 1)).toNat)*1)) fun f=>(cond (cond true (f==0) false) (k0 (wrap .i64 (a - 1))) (cond ((decide ((0:Int)≤(0:Int)))&&((decide (0≤a))&&((decide (a≤((b:Nat):Int)))&&(decide (((b:Nat):Int)≤((b:Nat):Int)))))) (cond ((!d)||(Bd (c.take ((a.toNat)*1)))) (cond ((Nat.ble (0+(a.toNat)) 140737488355328)&&(Nat.ble ((0+(a.toNat))*4) 140737488355328)) (r0 (0+(a.toNat)) (c.take ((a.toNat)*1))) none) none) none))) none) (cond ((decide ((0:Int)≤(0:Int)))&&((decide (0≤a))&&((decide (a≤((b:Nat):Int)))&&(decide (((b:Nat):Int)≤((b:Nat):Int)))))) (cond ((!d)||(Bd (c.take ((a.toNat)*1)))) (cond ((Nat.ble (0+(a.toNat)) 140737488355328)&&(Nat.ble ((0+(a.toNat))*4) 140737488355328)) (r0 (0+(a.toNat)) (c.take ((a.toNat)*1))) none) none) none))
def Og (r0:Nat→LA→O R) (c:LA) (b:Nat) (e d:Bool):Nat→Int→O R
 | 0,_=>none
 | n+1,a=>(CL N r0 c b e d (Og r0 c b e d n) a)
def OA (N:Nat) (r0:Nat→LA→O R) (q0:Int→O R) (c:LA) (b:Nat) (e d:Bool):O R :=
 (q0 ((b:Nat):Int))
def D2:=(Ah (fun (N:Nat) (c:LA) (b:Nat) (e d:Bool) (r0:Nat→LA→O R)=>(OA N r0 (fun a=>(Og N r0 c b e d N a)) c b e d))).1
theorem SY (c b e d r0):(@D2 R N c b e d r0)=(OA N r0 (fun a=>(Og N r0 c b e d N a)) c b e d):=by rw[D2,(Ah _).2]
def uj:Hints:={ H:=(hS hL (hS hL (hS (hS (hP [0,3] hL) hL) hL))),nils:=[(2,1)],modes:=[(2,1)] }
def Atz (F:KF R):=Kk Tryz.f143 uj [] [] N F
def Yi (F:KF R):Nat→LA→O R:=(fun g i=>F (.own 300000 0 g) [(300000,(bQ 1 i))])
def At0 (c:LA) (b:Nat) (e d:Bool) (a:Int):St:=⟨[(0,(.imm c b 1 e d)),(3,(.int .i64 a))],[]⟩
def At1 (F:KF R):=Atz N F [1,1,0,0] []
theorem bK (F:KF R) (c:LA) (b:Nat) (e d:Bool):∀ (n:Nat) (a:Int),Ap (At1 N F) n (At0 c b e d a)=(Og N (Yi F) c b e d n a)
 | 0,_=>by kernel_rfl
 | n+1,a=>Eq.trans (by kernel_rfl) (Bs (CL N (Yi F) c b e d · a) (funext fun a=>(bK F c b e d n a)):_)
theorem uk (c:LA) (b:Nat) (e d:Bool) (F:KF R):Cn [] uj N 143 [(.imm c b 1 e d)] [] F=(D2 N c b e d (Yi F)):=by
 rw[SY]
 exact Eq.trans (by kernel_rfl) (Bs (OA N (Yi F) · c b e d) (funext fun a=>(Ak ..).trans (bK N F c b e d N a)):_)
def ng (args:List AV) (h:Am) (k:KF R):O R :=
 match args,h with
 | [(.imm c b 1 e d)],[]=>(D2 N c b e d (Yi k))
 | _,_=>none
theorem um:Aq N 143 @ng:=by
 intro R Q args h k j;unfold ng;split
 exact A2 (uk ..) (uk ..) trivial
 exact A5
def F5:=A4 (um N)
theorem Hb:A1 Tryz.prog 143 (F5 N):=A6 (um N) follows
def Z5 (r0:Nat→LA→O R) (a:Int):O R :=
 (D2 N [(.int .u32 (wrap .u32 a)),(.int .u32 (wrap .u32 (Int.fdiv a (2 ^ 32))))] 2 false true (fun b c=>(r0 b c)))
def Et:=(Ah (fun (N:Nat) (a:Int) (r0:Nat→LA→O R)=>(Z5 N r0 a))).1
theorem ET (a r0):(@Et R N a r0)=(Z5 N r0 a):=by rw[Et,(Ah _).2]
def nh:Hints:={ H:=hL,nils:=[(2,1)],modes:=[(2,1)] }
def sK:Ek:=[(143,F5 N)]
def IV (F:KF R):Nat→LA→O R:=(fun d e=>F (.own 300000 0 d) [(300000,(bQ 1 e))])
theorem IW (a:Int) (F:KF R):Cn (sK N) nh N 94 [(.int .u64 a)] [] F=(Et N a (IV F)):=by
 rw[ET]
 kernel_rfl
def EU (args:List AV) (h:Am) (k:KF R):O R :=
 match args,h with
 | [(.int .u64 a)],[]=>(Et N a (IV k))
 | _,_=>none
theorem IX:Aq N 94 @EU:=by
 intro R Q args h k j;unfold EU;split
 exact A2 (IW ..) (IW ..) ⟨Hb N,trivial⟩
 exact A5
def T4:=A4 (IX N)
theorem IY:A1 Tryz.prog 94 (T4 N):=A6 (IX N) follows
def sL (r0:LA→O R) (a:Bool) (b:LA) (c:Nat) (e d:Bool):O R :=
 (D2 N b c false d (fun f g=>(cond (a==true) (r0 [(.bool (cond true (decide (((f:Nat):Int)>0)) false)),(.imm (g.take (f*1)) f 1 false false)]) (r0 [(.bool false),(.imm (g.take (f*1)) f 1 false false)]))))
def F6:=(Ah (fun (N:Nat) (a:Bool) (b:LA) (c:Nat) (e d:Bool) (r0:LA→O R)=>(sL N r0 a b c e d))).1
theorem ni (a b c e d r0):(@F6 R N a b c e d r0)=(sL N r0 a b c e d):=by rw[F6,(Ah _).2]
def At2:Hints:={ H:=hL,modes:=[(3,0)] }
def Aye:Ek:=[(143,F5 N)]
def un (F:KF R):LA→O R:=(fun i=>F (.pagg i false) [])
theorem uo (a:Bool) (b:LA) (c:Nat) (e d:Bool) (F:KF R):Cn (Aye N) At2 N 93 [(.bool a),(.imm b c 1 e d)] [] F=(F6 N a b c e d (un F)):=by
 rw[ni]
 kernel_rfl
def nk (args:List AV) (h:Am) (k:KF R):O R :=
 match args,h with
 | [(.bool a),(.imm b c 1 e d)],[]=>(F6 N a b c e d (un k))
 | _,_=>none
theorem uq:Aq N 93 @nk:=by
 intro R Q args h k j;unfold nk;split
 exact A2 (uo ..) (uo ..) ⟨Hb N,trivial⟩
 exact A5
def I3:=A4 (uq N)
theorem Ld:A1 Tryz.prog 93 (I3 N):=A6 (uq N) follows
def SZ (r0:LA→O R) (a:Int):O R :=
 (cond (decide (a<0)) (Et N (wrap .u64 ((wrap .u64 (wrap .i64 ((0:Int) - (wrap .i64 (a+1)))))+1)) (fun d f=>(F6 N true (f.take (d*1)) d false true (fun b=>(cond ((Nat.beq 0 0)&&((Nat.beq (b.length) 2)&&(Nat.beq 2 2))) (cond (Nat.ble 2 (b.length)) (r0 (b.take 2)) none) none))))) (Et N (wrap .u64 a) (fun e g=>(F6 N false (g.take (e*1)) e false true (fun c=>(cond ((Nat.beq 0 0)&&((Nat.beq (c.length) 2)&&(Nat.beq 2 2))) (cond (Nat.ble 2 (c.length)) (r0 (c.take 2)) none) none))))))
def I4:=(Ah (fun (N:Nat) (a:Int) (r0:LA→O R)=>(SZ N r0 a))).1
theorem WK (a r0):(@I4 R N a r0)=(SZ N r0 a):=by rw[I4,(Ah _).2]
def Aaz:Hints:={ H:=hL,modes:=[(3,0)] }
def Aiy:Ek:=[(94,T4 N),(93,I3 N)]
def bL (F:KF R):LA→O R:=(fun i=>F (.pagg i false) [])
theorem bM (a:Int) (F:KF R):Cn (Aiy N) Aaz N 55 [(.int .i64 a)] [] F=(I4 N a (bL F)):=by
 rw[WK]
 kernel_rfl
def WL (args:List AV) (h:Am) (k:KF R):O R :=
 match args,h with
 | [(.int .i64 a)],[]=>(I4 N a (bL k))
 | _,_=>none
theorem bN:Aq N 55 @WL:=by
 intro R Q args h k j;unfold WL;split
 exact A2 (bM ..) (bM ..) ⟨IY N,Ld N,trivial⟩
 exact A5
def EV:=A4 (bN N)
theorem bO:A1 Tryz.prog 55 (EV N):=A6 (bN N) follows
def sM (r0:LA→O R) (a:LA) (b:Bool):O R :=
 (N_ a fun d=>(Ct 1 (a.drop 1) fun e f=>(F6 N d e f false b (fun c=>(cond ((Nat.beq 0 0)&&((Nat.beq (c.length) 2)&&(Nat.beq 2 2))) (cond (Nat.ble 2 (c.length)) (r0 (c.take 2)) none) none)))))
def Yj:=(Ah (fun (N:Nat) (a:LA) (b:Bool) (r0:LA→O R)=>(sM N r0 a b))).1
theorem nm (a b r0):(@Yj R N a b r0)=(sM N r0 a b):=by rw[Yj,(Ah _).2]
def At3:Hints:={ H:=hL,modes:=[(3,0)] }
def Ayf:Ek:=[(93,I3 N)]
def ur (F:KF R):LA→O R:=(fun g=>F (.pagg g false) [])
theorem ut (a:LA) (b:Bool) (F:KF R):Cn (Ayf N) At3 N 88 [(.pagg a b)] [] F=(Yj N a b (ur F)):=by
 rw[nm]
 kernel_rfl
def nn (args:List AV) (h:Am) (k:KF R):O R :=
 match args,h with
 | [(.pagg a b)],[]=>(Yj N a b (ur k))
 | _,_=>none
theorem uv:Aq N 88 @nn:=by
 intro R Q args h k j;unfold nn;split
 exact A2 (ut ..) (ut ..) ⟨Ld N,trivial⟩
 exact A5
def bR:=A4 (uv N)
theorem uw:A1 Tryz.prog 88 (bR N):=A6 (uv N) follows
def sN (r0:Int→O R) (a:LA) (b:Bool):O R :=
 (cond (Nat.ble 2 (a.length)) (Yj N (a.take 2) b (fun c=>(cond ((Nat.beq (c.length) 2)&&((Nat.ble 2 (a.length))&&(!false))) (N_ (setCells a 0 c) fun d=>(cond d (r0 (-1)) (Ct 1 ((setCells a 0 c).drop 1) fun g e=>(cond (((e:Nat):Int)==0) (r0 0) (r0 1))))) none))) none)
def Yk:=(Ah (fun (N:Nat) (a:LA) (b:Bool) (r0:Int→O R)=>(sN N r0 a b))).1
theorem np (a b r0):(@Yk R N a b r0)=(sN N r0 a b):=by rw[Yk,(Ah _).2]
def At4:Hints:={ H:=hL }
def Ayg:Ek:=[(88,bR N)]
def ux (F:KF R):Int→O R:=(fun f=>F (.int .i64 f) [])
theorem uy (a:LA) (b:Bool) (F:KF R):Cn (Ayg N) At4 N 75 [(.pagg a b)] [] F=(Yk N a b (ux F)):=by
 rw[np]
 kernel_rfl
def nq (args:List AV) (h:Am) (k:KF R):O R :=
 match args,h with
 | [(.pagg a b)],[]=>(Yk N a b (ux k))
 | _,_=>none
theorem uz:Aq N 75 @nq:=by
 intro R Q args h k j;unfold nq;split
 exact A2 (uy ..) (uy ..) ⟨uw N,trivial⟩
 exact A5
def bS:=A4 (uz N)
theorem vA:A1 Tryz.prog 75 (bS N):=A6 (uz N) follows
def sO (N:Nat) (r0:LA→O R):O R :=
 (r0 [(.bool false),(.imm [] 0 1 false false),(.imm [(.int .u32 1)] 1 1 false false)])
def OB:=(Ah (fun (N:Nat) (r0:LA→O R)=>(sO N r0))).1
theorem nr (r0):(@OB R N r0)=(sO N r0):=by rw[OB,(Ah _).2]
def At5:Hints:={ H:=hL,modes:=[(3,0)] }
def vB (F:KF R):LA→O R:=(fun a=>F (.pagg a false) [])
theorem vC (F:KF R):Cn [] At5 N 41 [] [] F=(OB N (vB F)):=by
 rw[nr]
 kernel_rfl
def nv (args:List AV) (h:Am) (k:KF R):O R :=
 match args,h with
 | [],[]=>(OB N (vB k))
 | _,_=>none
theorem vD:Aq N 41 @nv:=by
 intro R Q args h k j;unfold nv;split
 exact A2 (vC ..) (vC ..) trivial
 exact A5
def vE:=A4 (vD N)
theorem At6:A1 Tryz.prog 41 (vE N):=A6 (vD N) follows
def W9 (N:Nat) (r0:Bool→O R) (c:LA) (a:Nat) (e f:Bool) (d:LA) (b:Nat) (g i:Bool) (k0:Int→O R) (l:Int):O R :=
 (cond (decide (l<((a:Nat):Int))) (cond (Ad l a) (Ao .u32 (c.drop ((l.toNat)*1)) fun m=>(cond (Ad l b) (Ao .u32 (d.drop ((l.toNat)*1)) fun o=>(cond (m != o) (r0 false) (k0 (wrap .i64 (l+1))))) none)) none) (r0 true))
def Lo (r0:Bool→O R) (c:LA) (a:Nat) (e f:Bool) (d:LA) (b:Nat) (g i:Bool):Nat→Int→O R
 | 0,_=>none
 | n+1,l=>(W9 N r0 c a e f d b g i (Lo r0 c a e f d b g i n) l)
def S_ (N:Nat) (r0:Bool→O R) (q0:Int→O R) (c:LA) (a:Nat) (e f:Bool) (d:LA) (b:Nat) (g i:Bool):O R :=
 (cond (((a:Nat):Int) != ((b:Nat):Int)) (r0 false) (q0 0))
def DT:=(Ah (fun (N:Nat) (c:LA) (a:Nat) (e f:Bool) (d:LA) (b:Nat) (g i:Bool) (r0:Bool→O R)=>(S_ N r0 (fun l=>(Lo N r0 c a e f d b g i N l)) c a e f d b g i))).1
theorem i0 (c a e f d b g i r0):(@DT R N c a e f d b g i r0)=(S_ N r0 (fun l=>(Lo N r0 c a e f d b g i N l)) c a e f d b g i):=by rw[DT,(Ah _).2]
def nw:Hints:={ H:=(hS hL (hS hL (hS (hS hL (hS (hP [0,1,5] hL) hL)) hL))) }
def Apo (F:KF R):=Kk Tryz.f89 nw [] [] N F
def T5 (F:KF R):Bool→O R:=(fun p=>F (.bool p) [])
def App (c:LA) (a:Nat) (e f:Bool) (d:LA) (b:Nat) (g i:Bool) (l:Int):St:=⟨[(0,(.imm c a 1 e f)),(1,(.imm d b 1 g i)),(5,(.int .i64 l))],[]⟩
def Apq (F:KF R):=Apo N F [1,1,0,1,0] []
theorem WM (F:KF R) (c:LA) (a:Nat) (e f:Bool) (d:LA) (b:Nat) (g i:Bool):∀ (n:Nat) (l:Int),Ap (Apq N F) n (App c a e f d b g i l)=(Lo N (T5 F) c a e f d b g i n l)
 | 0,_=>by kernel_rfl
 | n+1,l=>Eq.trans (by kernel_rfl) (Bs (W9 N (T5 F) c a e f d b g i · l) (funext fun l=>(WM F c a e f d b g i n l)):_)
theorem ny (c:LA) (a:Nat) (e f:Bool) (d:LA) (b:Nat) (g i:Bool) (F:KF R):Cn [] nw N 89 [(.imm c a 1 e f),(.imm d b 1 g i)] [] F=(DT N c a e f d b g i (T5 F)):=by
 rw[i0]
 exact Eq.trans (by kernel_rfl) (Bs (S_ N (T5 F) · c a e f d b g i) (funext fun l=>(Ak ..).trans (WM N F c a e f d b g i N l)):_)
def i6 (args:List AV) (h:Am) (k:KF R):O R :=
 match args,h with
 | [(.imm c a 1 e f),(.imm d b 1 g i)],[]=>(DT N c a e f d b g i (T5 k))
 | _,_=>none
theorem nz:Aq N 89 @i6:=by
 intro R Q args h k j;unfold i6;split
 exact A2 (ny ..) (ny ..) trivial
 exact A5
def oA:=A4 (nz N)
theorem Apr:A1 Tryz.prog 89 (oA N):=A6 (nz N) follows
def F7 (N:Nat) (r0:Int→Bool→O R) (a:Nat) (c:LA) (k0:Int→Int→O R) (d b:Int):O R :=
 (cond (decide (b≥0)) (cond (Ad b a) (Ao .u32 (c.drop (0+((b.toNat)*1))) fun l=>(k0 (Ta .u64 (wrap .u64 (d*2 ^ 32)) (wrap .u64 l)) (wrap .i64 (b - 1)))) none) (r0 d true))
def En (r0:Int→Bool→O R) (a:Nat) (c:LA):Nat→Int→Int→O R
 | 0,_,_=>none
 | n+1,d,b=>(F7 N r0 a c (En r0 a c n) d b)
def IZ (r0:Int→Bool→O R) (q0:Nat→LA→Int→Int→O R) (e:LA) (f:Nat) (i g:Bool):O R :=
 (D2 N e f false g (fun a c=>(cond (decide (((a:Nat):Int)>2)) (r0 0 false) (q0 a c 0 (wrap .i64 (((a:Nat):Int) - 1))))))
def Sc:=(Ah (fun (N:Nat) (e:LA) (f:Nat) (i g:Bool) (r0:Int→Bool→O R)=>(IZ N r0 (fun a c d b=>(En N r0 a c N d b)) e f i g))).1
theorem bU (e f i g r0):(@Sc R N e f i g r0)=(IZ N r0 (fun a c d b=>(En N r0 a c N d b)) e f i g):=by rw[Sc,(Ah _).2]
def i7:Hints:={ H:=(hS hL (hS hL (hS hL (hS hL (hS (hS hL (hS (hP [0,4,5] hL) hL)) hL))))) }
def oB:Ek:=[(143,F5 N)]
def Aiz (F:KF R):=Kk Tryz.f178 i7 (oB N) [] N F
def Qz (F:KF R):Int→Bool→O R:=(fun m o=>F (.tup [(.int .u64 m),(.bool o)]) [])
def Ai0 (a:Nat) (c:LA) (d b:Int):St:=⟨[(0,(.own 300000 0 a)),(4,(.int .u64 d)),(5,(.int .i64 b))],[(300000,(bQ 1 c))]⟩
def Ai1 (F:KF R):=Aiz N F [1,1,1,1,0,1,0] []
theorem OC (F:KF R) (a:Nat) (c:LA):∀ (n:Nat) (d b:Int),Ap (Ai1 N F) n (Ai0 a c d b)=(En N (Qz F) a c n d b)
 | 0,_,_=>by kernel_rfl
 | n+1,d,b=>Eq.trans (by kernel_rfl) (Bs (F7 N (Qz F) a c · d b) (funext fun d=>funext fun b=>(OC F a c n d b)):_)
theorem i8 (e:LA) (f:Nat) (i g:Bool) (F:KF R):Cn (oB N) i7 N 178 [(.imm e f 1 i g)] [] F=(Sc N e f i g (Qz F)):=by
 rw[bU]
 exact Eq.trans (by kernel_rfl) (Bs (IZ N (Qz F) · e f i g) (funext fun a=>funext fun c=>funext fun d=>funext fun b=>(Ak ..).trans (OC N F a c N d b)):_)
def bV (args:List AV) (h:Am) (k:KF R):O R :=
 match args,h with
 | [(.imm e f 1 i g)],[]=>(Sc N e f i g (Qz k))
 | _,_=>none
theorem i9:Aq N 178 @bV:=by
 intro R Q args h k j;unfold bV;split
 exact A2 (i8 ..) (i8 ..) ⟨Hb N,trivial⟩
 exact A5
def i_:=A4 (i9 N)
theorem Ai2:A1 Tryz.prog 178 (i_ N):=A6 (i9 N) follows
def T6 (N:Nat) (r0:Int→O R) (k0:Int→Int→O R) (a b:Int):O R :=
 (cond (decide (b>0)) (k0 (wrap .i64 (a+1)) (Int.fdiv b (2 ^ 1))) (r0 a))
def Le (r0:Int→O R):Nat→Int→Int→O R
 | 0,_,_=>none
 | n+1,a,b=>(T6 N r0 (Le r0 n) a b)
def OD (r0:Int→O R) (q0:Int→Int→O R) (c:LA) (d:Nat) (f e:Bool):O R :=
 (D2 N c d false e (fun g i=>(cond (((g:Nat):Int)==0) (r0 0) (cond (Ad (wrap .i64 (((g:Nat):Int) - 1)) g) (Ao .u32 (i.drop (0+(((wrap .i64 (((g:Nat):Int) - 1)).toNat)*1))) fun l=>(q0 (wrap .i64 (32*(wrap .i64 (((g:Nat):Int) - 1)))) l)) none))))
def OE:=(Ah (fun (N:Nat) (c:LA) (d:Nat) (f e:Bool) (r0:Int→O R)=>(OD N r0 (fun a b=>(Le N r0 N a b)) c d f e))).1
theorem TA (c d f e r0):(@OE R N c d f e r0)=(OD N r0 (fun a b=>(Le N r0 N a b)) c d f e):=by rw[OE,(Ah _).2]
def vF:Hints:={ H:=(hS hL (hS hL (hS hL (hS hL (hS (hS hL (hS (hP [3,4] hL) hL)) hL))))) }
def Aa0:Ek:=[(143,F5 N)]
def At7 (F:KF R):=Kk Tryz.f179 vF (Aa0 N) [] N F
def Yl (F:KF R):Int→O R:=(fun m=>F (.int .i64 m) [])
def At8 (a b:Int):St:=⟨[(3,(.int .i64 a)),(4,(.int .u32 b))],[]⟩
def At9 (F:KF R):=At7 N F [1,1,1,1,0,1,0] []
theorem bW (F:KF R):∀ (n:Nat) (a b:Int),Ap (At9 N F) n (At8 a b)=(Le N (Yl F) n a b)
 | 0,_,_=>by kernel_rfl
 | n+1,a,b=>Eq.trans (by kernel_rfl) (Bs (T6 N (Yl F) · a b) (funext fun a=>funext fun b=>(bW F n a b)):_)
theorem vG (c:LA) (d:Nat) (f e:Bool) (F:KF R):Cn (Aa0 N) vF N 179 [(.imm c d 1 f e)] [] F=(OE N c d f e (Yl F)):=by
 rw[TA]
 exact Eq.trans (by kernel_rfl) (Bs (OD N (Yl F) · c d f e) (funext fun a=>funext fun b=>(Ak ..).trans (bW N F N a b)):_)
def oC (args:List AV) (h:Am) (k:KF R):O R :=
 match args,h with
 | [(.imm c d 1 f e)],[]=>(OE N c d f e (Yl k))
 | _,_=>none
theorem vH:Aq N 179 @oC:=by
 intro R Q args h k j;unfold oC;split
 exact A2 (vG ..) (vG ..) ⟨Hb N,trivial⟩
 exact A5
def vI:=A4 (vH N)
theorem Aua:A1 Tryz.prog 179 (vI N):=A6 (vH N) follows
def EW (N:Nat) (k0:Nat→Int→Int→LA→O R) (r0:Nat→LA→O R) (c:LA) (a:Nat) (e f:Bool) (d:LA) (b:Nat) (g i:Bool) (l:Nat) (m:LA) (r p:Int):O R :=
 (cond (decide (p<((b:Nat):Int))) (cond (Ad p b) (Ao .u32 (d.drop ((p.toNat)*1)) fun s=>(cond (Ad p l) (cond ((Nat.beq 1 1)&&((Nat.ble ((0+((p.toNat)*1))+1) (m.length))&&(!false))) (k0 l (Int.fdiv (wrap .u64 (r+(wrap .u64 s))) (2 ^ 32)) (wrap .i64 (p+1)) (m.set (0+((p.toNat)*1)) (.int .u32 (wrap .u32 (wrap .u64 (r+(wrap .u64 s))))))) none) none)) none) (cond (Ad p l) (cond ((Nat.beq 1 1)&&((Nat.ble ((0+((p.toNat)*1))+1) (m.length))&&(!false))) (k0 l (Int.fdiv r (2 ^ 32)) (wrap .i64 (p+1)) (m.set (0+((p.toNat)*1)) (.int .u32 (wrap .u32 r)))) none) none))
def I_ (r0:Nat→LA→O R) (c:LA) (a:Nat) (e f:Bool) (d:LA) (b:Nat) (g i:Bool) (k0:Nat→Int→Int→LA→O R) (q1:Int→Int→O R) (l:Nat) (q o:Int) (m:LA):O R :=
 (cond (decide (o<((l:Nat):Int))) (cond (decide (o<((a:Nat):Int))) (cond (Ad o a) (Ao .u32 (c.drop ((o.toNat)*1)) fun t=>(q1 (wrap .u64 (q+(wrap .u64 t))) o)) none) (q1 q o)) (D2 N (m.take (l*1)) l false true (fun u v=>(r0 u v))))
def Jm (r0:Nat→LA→O R) (c:LA) (a:Nat) (e f:Bool) (d:LA) (b:Nat) (g i:Bool):Nat→Nat→Int→Int→LA→O R
 | 0,_,_,_,_=>none
 | n+1,l,q,o,m=>(I_ N r0 c a e f d b g i (Jm r0 c a e f d b g i n) (fun r p=>(EW N (Jm r0 c a e f d b g i n) r0 c a e f d b g i l m r p)) l q o m)
def oD (N:Nat) (r0:Nat→LA→O R) (q0:Nat→Int→Int→LA→O R) (c:LA) (a:Nat) (e f:Bool) (d:LA) (b:Nat) (g i:Bool):O R :=
 (cond ((decide (0≤(wrap .i64 ((Ig ((a:Nat):Int) ((b:Nat):Int))+1))))&&((decide ((wrap .i64 ((Ig ((a:Nat):Int) ((b:Nat):Int))+1))≤(wrap .i64 ((Ig ((a:Nat):Int) ((b:Nat):Int))+1))))&&((decide ((wrap .i64 ((Ig ((a:Nat):Int) ((b:Nat):Int))+1))≤140737488355328))&&(decide (((wrap .i64 ((Ig ((a:Nat):Int) ((b:Nat):Int))+1))*((4:Nat):Int))≤140737488355328))))) (q0 ((wrap .i64 ((Ig ((a:Nat):Int) ((b:Nat):Int))+1)).toNat) 0 0 (List.replicate ((wrap .i64 ((Ig ((a:Nat):Int) ((b:Nat):Int))+1)).toNat) (.int .u32 0))) none)
def JA:=(Ah (fun (N:Nat) (c:LA) (a:Nat) (e f:Bool) (d:LA) (b:Nat) (g i:Bool) (r0:Nat→LA→O R)=>(oD N r0 (fun l q o m=>(Jm N r0 c a e f d b g i N l q o m)) c a e f d b g i))).1
theorem vJ (c a e f d b g i r0):(@JA R N c a e f d b g i r0)=(oD N r0 (fun l q o m=>(Jm N r0 c a e f d b g i N l q o m)) c a e f d b g i):=by rw[JA,(Ah _).2]
def Aa1:Hints:={ H:=(hS hL (hS hL (hS hL (hS (hS hL (hS (hP [0,1,5,6,7] (hS hL (hS (hS (hJ [0,1,5,6,7] hL hL) hL) hL))) hL)) hL)))),nils:=[(4,1)],modes:=[(2,1)] }
def Alw:Ek:=[(143,F5 N)]
def Aa2 (F:KF R):=Kk Tryz.f122 Aa1 (Alw N) [] N F
def Sd (F:KF R):Nat→LA→O R:=(fun w x=>F (.own 300000 0 w) [(300000,(bQ 1 x))])
def Ayh (c:LA) (a:Nat) (e f:Bool) (d:LA) (b:Nat) (g i:Bool) (l:Nat) (m:LA) (r p:Int):St:=⟨[(0,(.imm c a 1 e f)),(1,(.imm d b 1 g i)),(5,(.own 300000 0 l)),(6,(.int .u64 r)),(7,(.int .i64 p))],[(300000,(bQ 1 m))]⟩
def Ayi (F:KF R) (Q0:St→O R):=Aa2 N F [1,1,1,0,1,0,0,1,0,0,1] [Q0]
def Aa3 (c:LA) (a:Nat) (e f:Bool) (d:LA) (b:Nat) (g i:Bool) (l:Nat) (q o:Int) (m:LA):St:=⟨[(0,(.imm c a 1 e f)),(1,(.imm d b 1 g i)),(5,(.own 300000 0 l)),(6,(.int .u64 q)),(7,(.int .i64 o))],[(300000,(bQ 1 m))]⟩
def Aa4 (F:KF R):=Aa2 N F [1,1,1,0,1,0] []
theorem Ai3 (Q0:St→O R) (F:KF R) (c:LA) (a:Nat) (e f:Bool) (d:LA) (b:Nat) (g i:Bool) (l:Nat) (m:LA):∀ (r p:Int),Bb (Ayi N F Q0) (Ayh c a e f d b g i l m r p)=(EW N (fun l q o m=>Q0 (Aa3 c a e f d b g i l q o m)) (Sd F) c a e f d b g i l m r p):=by
 intro r p
 kernel_rfl
theorem ia (F:KF R) (c:LA) (a:Nat) (e f:Bool) (d:LA) (b:Nat) (g i:Bool):∀ (n l:Nat) (q o:Int) (m:LA),Ap (Aa4 N F) n (Aa3 c a e f d b g i l q o m)=(Jm N (Sd F) c a e f d b g i n l q o m)
 | 0,_,_,_,_=>by kernel_rfl
 | n+1,l,q,o,m=>have e0:=(funext fun l=>funext fun q=>funext fun o=>funext fun m=>(ia F c a e f d b g i n l q o m))
  Eq.trans (by kernel_rfl) (bJ (I_ N (Sd F) c a e f d b g i · · l q o m) e0 (funext fun r=>funext fun p=>(As ..).trans ((Ai3 N (Ap (Aa4 N F) n) F c a e f d b g i l m r p).trans (Bs (EW N · (Sd F) c a e f d b g i l m r p) e0))):_)
theorem Aa5 (c:LA) (a:Nat) (e f:Bool) (d:LA) (b:Nat) (g i:Bool) (F:KF R):Cn (Alw N) Aa1 N 122 [(.imm c a 1 e f),(.imm d b 1 g i)] [] F=(JA N c a e f d b g i (Sd F)):=by
 rw[vJ]
 exact Eq.trans (by kernel_rfl) (Bs (oD N (Sd F) · c a e f d b g i) (funext fun l=>funext fun q=>funext fun o=>funext fun m=>(Ak ..).trans (ia N F c a e f d b g i N l q o m)):_)
def vK (args:List AV) (h:Am) (k:KF R):O R :=
 match args,h with
 | [(.imm c a 1 e f),(.imm d b 1 g i)],[]=>(JA N c a e f d b g i (Sd k))
 | _,_=>none
theorem Aa6:Aq N 122 @vK:=by
 intro R Q args h k j;unfold vK;split
 exact A2 (Aa5 ..) (Aa5 ..) ⟨Hb N,trivial⟩
 exact A5
def l_:=A4 (Aa6 N)
theorem Aa7:A1 Tryz.prog 122 (l_ N):=A6 (Aa6 N) follows
def Aa8 (N:Nat) (r0:Int→O R) (c:LA) (b:Nat) (d e:Bool) (a:Int):O R :=
 (cond (decide ((wrap .i64 (Int.tdiv a 32))≥((b:Nat):Int))) (r0 0) (cond (Ad (wrap .i64 (Int.tdiv a 32)) b) (Ao .u32 (c.drop (((wrap .i64 (Int.tdiv a 32)).toNat)*1)) fun f=>(cond (decide ((wrap .u64 (Int.tmod a 32))<0)) none (r0 (Aya .u32 (Int.fdiv f (2 ^ (min ((wrap .u64 (Int.tmod a 32)).toNat) 32))) 1)))) none))
def gA:=(Ah (fun (N:Nat) (c:LA) (b:Nat) (d e:Bool) (a:Int) (r0:Int→O R)=>(Aa8 N r0 c b d e a))).1
theorem vL (c b d e a r0):(@gA R N c b d e a r0)=(Aa8 N r0 c b d e a):=by rw[gA,(Ah _).2]
def Ayj:Hints:={ H:=hL }
def Aa9 (F:KF R):Int→O R:=(fun g=>F (.int .u32 g) [])
theorem Aba (c:LA) (b:Nat) (d e:Bool) (a:Int) (F:KF R):Cn [] Ayj N 180 [(.imm c b 1 d e),(.int .i64 a)] [] F=(gA N c b d e a (Aa9 F)):=by
 rw[vL]
 kernel_rfl
def vM (args:List AV) (h:Am) (k:KF R):O R :=
 match args,h with
 | [(.imm c b 1 d e),(.int .i64 a)],[]=>(gA N c b d e a (Aa9 k))
 | _,_=>none
theorem Abb:Aq N 180 @vM:=by
 intro R Q args h k j;unfold vM;split
 exact A2 (Aba ..) (Aba ..) trivial
 exact A5
def Abc:=A4 (Abb N)
theorem Ayk:A1 Tryz.prog 180 (Abc N):=A6 (Abb N) follows
def Rr (N:Nat) (r0:Int→O R) (b c:Nat) (d e:LA) (k0:Int→O R) (a:Int):O R :=
 (cond (decide (a≥0)) (cond (Ad a b) (Ao .u32 (d.drop (0+((a.toNat)*1))) fun r=>(cond (Ad a c) (Ao .u32 (e.drop (0+((a.toNat)*1))) fun s=>(cond (decide (r<s)) (r0 (-1)) (cond (Ad a b) (Ao .u32 (d.drop (0+((a.toNat)*1))) fun t=>(cond (Ad a c) (Ao .u32 (e.drop (0+((a.toNat)*1))) fun u=>(cond (decide (t>u)) (r0 1) (k0 (wrap .i64 (a - 1))))) none)) none))) none)) none) (r0 0))
def Ht (r0:Int→O R) (b c:Nat) (d e:LA):Nat→Int→O R
 | 0,_=>none
 | n+1,a=>(Rr N r0 b c d e (Ht r0 b c d e n) a)
def CM (r0:Int→O R) (q0:Nat→Nat→LA→LA→Int→O R) (f:LA) (g:Nat) (p i:Bool) (l:LA) (m:Nat) (q o:Bool):O R :=
 (D2 N f g false i (fun b d=>(D2 N l m false o (fun c e=>(cond (((b:Nat):Int) != ((c:Nat):Int)) (cond (decide (((b:Nat):Int)<((c:Nat):Int))) (r0 (-1)) (r0 1)) (q0 b c d e (wrap .i64 (((b:Nat):Int) - 1))))))))
def Tb:=(Ah (fun (N:Nat) (f:LA) (g:Nat) (p i:Bool) (l:LA) (m:Nat) (q o:Bool) (r0:Int→O R)=>(CM N r0 (fun b c d e a=>(Ht N r0 b c d e N a)) f g p i l m q o))).1
theorem WN (f g p i l m q o r0):(@Tb R N f g p i l m q o r0)=(CM N r0 (fun b c d e a=>(Ht N r0 b c d e N a)) f g p i l m q o):=by rw[Tb,(Ah _).2]
def bX:Hints:={ H:=(hS hL (hS hL (hS hL (hS (hS hL (hS (hP [0,1,5] hL) hL)) hL)))) }
def ib:Ek:=[(143,F5 N)]
def Abd (F:KF R):=Kk Tryz.f168 bX (ib N) [] N F
def Oh (F:KF R):Int→O R:=(fun v=>F (.int .i64 v) [])
def Abe (b c:Nat) (d e:LA) (a:Int):St:=⟨[(0,(.own 300000 0 b)),(1,(.own 300001 0 c)),(5,(.int .i64 a))],[(300000,(bQ 1 d)),(300001,(bQ 1 e))]⟩
def Abf (F:KF R):=Abd N F [1,1,1,0,1,0] []
theorem JB (F:KF R) (b c:Nat) (d e:LA):∀ (n:Nat) (a:Int),Ap (Abf N F) n (Abe b c d e a)=(Ht N (Oh F) b c d e n a)
 | 0,_=>by kernel_rfl
 | n+1,a=>Eq.trans (by kernel_rfl) (Bs (Rr N (Oh F) b c d e · a) (funext fun a=>(JB F b c d e n a)):_)
theorem bY (f:LA) (g:Nat) (p i:Bool) (l:LA) (m:Nat) (q o:Bool) (F:KF R):Cn (ib N) bX N 168 [(.imm f g 1 p i),(.imm l m 1 q o)] [] F=(Tb N f g p i l m q o (Oh F)):=by
 rw[WN]
 exact Eq.trans (by kernel_rfl) (Bs (CM N (Oh F) · f g p i l m q o) (funext fun b=>funext fun c=>funext fun d=>funext fun e=>funext fun a=>(Ak ..).trans (JB N F b c d e N a)):_)
def WO (args:List AV) (h:Am) (k:KF R):O R :=
 match args,h with
 | [(.imm f g 1 p i),(.imm l m 1 q o)],[]=>(Tb N f g p i l m q o (Oh k))
 | _,_=>none
theorem bZ:Aq N 168 @WO:=by
 intro R Q args h k j;unfold WO;split
 exact A2 (bY ..) (bY ..) ⟨Hb N,trivial⟩
 exact A5
def b6:=A4 (bZ N)
theorem Abg:A1 Tryz.prog 168 (b6 N):=A6 (bZ N) follows
def EX (N:Nat) (k0:Int→Int→LA→O R) (r0:Nat→Bool→LA→O R) (a c:Nat) (d e b:LA) (g l:Int):O R :=
 (cond (Ad g a) (Ao .u32 (d.drop (0+((g.toNat)*1))) fun v=>(cond (decide ((wrap .u64 v)<l)) (cond (Ad g a) (cond ((Nat.beq 1 1)&&((Nat.ble ((0+((g.toNat)*1))+1) (b.length))&&(!false))) (k0 1 (wrap .i64 (g+1)) (b.set (0+((g.toNat)*1)) (.int .u32 (wrap .u32 (wrap .u64 ((wrap .u64 ((wrap .u64 v)+4294967296)) - l)))))) none) none) (cond (Ad g a) (cond ((Nat.beq 1 1)&&((Nat.ble ((0+((g.toNat)*1))+1) (b.length))&&(!false))) (k0 0 (wrap .i64 (g+1)) (b.set (0+((g.toNat)*1)) (.int .u32 (wrap .u32 (wrap .u64 ((wrap .u64 v) - l)))))) none) none))) none)
def JC (r0:Nat→Bool→LA→O R) (a c:Nat) (d e:LA) (k0:Int→Int→LA→O R) (q1:Int→Int→O R) (i f:Int) (b:LA):O R :=
 (cond (decide (f<((a:Nat):Int))) (cond (decide (f<((c:Nat):Int))) (cond (Ad f c) (Ao .u32 (e.drop (0+((f.toNat)*1))) fun w=>(q1 f (wrap .u64 (i+(wrap .u64 w))))) none) (q1 f i)) (D2 N (b.take (a*1)) a false true (fun x y=>(r0 x true y))))
def Jn (r0:Nat→Bool→LA→O R) (a c:Nat) (d e:LA):Nat→Int→Int→LA→O R
 | 0,_,_,_=>none
 | n+1,i,f,b=>(JC N r0 a c d e (Jn r0 a c d e n) (fun g l=>(EX N (Jn r0 a c d e n) r0 a c d e b g l)) i f b)
def oE (r0:Nat→Bool→LA→O R) (q0:Nat→Nat→LA→LA→Int→Int→LA→O R) (m:LA) (o:Nat) (t p:Bool) (q:LA) (r:Nat) (u s:Bool):O R :=
 (Tb N m o false p q r false s (fun z=>(cond (decide (z<0)) (r0 0 false []) (D2 N m o false p (fun a d=>(D2 N q r false s (fun c e=>(cond ((decide (0≤((a:Nat):Int)))&&((decide (((a:Nat):Int)≤((a:Nat):Int)))&&((decide (((a:Nat):Int)≤140737488355328))&&(decide ((((a:Nat):Int)*((4:Nat):Int))≤140737488355328))))) (q0 a c d e 0 0 (List.replicate a (.int .u32 0))) none))))))))
def JD:=(Ah (fun (N:Nat) (m:LA) (o:Nat) (t p:Bool) (q:LA) (r:Nat) (u s:Bool) (r0:Nat→Bool→LA→O R)=>(oE N r0 (fun a c d e i f b=>(Jn N r0 a c d e N i f b)) m o t p q r u s))).1
theorem vN (m o t p q r u s r0):(@JD R N m o t p q r u s r0)=(oE N r0 (fun a c d e i f b=>(Jn N r0 a c d e N i f b)) m o t p q r u s):=by rw[JD,(Ah _).2]
def Abh:Hints:={ H:=(hS hL (hS hL (hS hL (hS hL (hS hL (hS (hS hL (hS (hP [0,1,6,7,8] (hS hL (hS (hS (hS hL (hJ [0,1,6,8,9] hL hL)) hL) hL))) hL)) hL)))))),nils:=[(4,1)],modes:=[(2,1),(0,0)] }
def Alx:Ek:=[(168,b6 N),(143,F5 N)]
def Abi (F:KF R):=Kk Tryz.f123 Abh (Alx N) [] N F
def Se (F:KF R):Nat→Bool→LA→O R:=(fun aa ab ac=>F (.tup [(.own 300000 0 aa),(.bool ab)]) [(300000,(bQ 1 ac))])
def Ayl (a c:Nat) (d e b:LA) (g l:Int):St:=⟨[(0,(.own 300000 0 a)),(1,(.own 300001 0 c)),(6,(.own 300002 0 a)),(8,(.int .i64 g)),(9,(.int .u64 l))],[(300000,(bQ 1 d)),(300001,(bQ 1 e)),(300002,(bQ 1 b))]⟩
def Aym (F:KF R) (Q0:St→O R):=Abi N F [1,1,1,1,1,0,1,0,0,1,0,0,1,1] [Q0]
def Abj (a c:Nat) (d e:LA) (i f:Int) (b:LA):St:=⟨[(0,(.own 300000 0 a)),(1,(.own 300001 0 c)),(6,(.own 300002 0 a)),(7,(.int .u64 i)),(8,(.int .i64 f))],[(300000,(bQ 1 d)),(300001,(bQ 1 e)),(300002,(bQ 1 b))]⟩
def Abk (F:KF R):=Abi N F [1,1,1,1,1,0,1,0] []
theorem Ai4 (Q0:St→O R) (F:KF R) (a c:Nat) (d e b:LA):∀ (g l:Int),Bb (Aym N F Q0) (Ayl a c d e b g l)=(EX N (fun i f b=>Q0 (Abj a c d e i f b)) (Se F) a c d e b g l):=by
 intro g l
 kernel_rfl
theorem ic (F:KF R) (a c:Nat) (d e:LA):∀ (n:Nat) (i f:Int) (b:LA),Ap (Abk N F) n (Abj a c d e i f b)=(Jn N (Se F) a c d e n i f b)
 | 0,_,_,_=>by kernel_rfl
 | n+1,i,f,b=>have e0:=(funext fun i=>funext fun f=>funext fun b=>(ic F a c d e n i f b))
  Eq.trans (by kernel_rfl) (bJ (JC N (Se F) a c d e · · i f b) e0 (funext fun g=>funext fun l=>(As ..).trans ((Ai4 N (Ap (Abk N F) n) F a c d e b g l).trans (Bs (EX N · (Se F) a c d e b g l) e0))):_)
theorem Abl (m:LA) (o:Nat) (t p:Bool) (q:LA) (r:Nat) (u s:Bool) (F:KF R):Cn (Alx N) Abh N 123 [(.imm m o 1 t p),(.imm q r 1 u s)] [] F=(JD N m o t p q r u s (Se F)):=by
 rw[vN]
 exact Eq.trans (by kernel_rfl) (Bs (oE N (Se F) · m o t p q r u s) (funext fun a=>funext fun c=>funext fun d=>funext fun e=>funext fun i=>funext fun f=>funext fun b=>(Ak ..).trans (ic N F a c d e N i f b)):_)
def vO (args:List AV) (h:Am) (k:KF R):O R :=
 match args,h with
 | [(.imm m o 1 t p),(.imm q r 1 u s)],[]=>(JD N m o t p q r u s (Se k))
 | _,_=>none
theorem Abm:Aq N 123 @vO:=by
 intro R Q args h k j;unfold vO;split
 exact A2 (Abl ..) (Abl ..) ⟨Abg N,Hb N,trivial⟩
 exact A5
def lc:=A4 (Abm N)
theorem Abn:A1 Tryz.prog 123 (lc N):=A6 (Abm N) follows
def M9 (k1:Nat→Int→LA→LA→O R) (r0:Nat→Nat→Bool→LA→LA→O R) (b:LA) (a:Nat) (d c:Bool) (e:Nat) (g:Int) (f i:LA) (o:Nat) (p:LA):O R :=
 (JD N (p.take (o*1)) o false true (f.take (e*1)) e false true (fun y z aa=>(cond z (cond (Ad (wrap .i64 (Int.tdiv g 32)) a) (Ao .u32 (i.drop (0+(((wrap .i64 (Int.tdiv g 32)).toNat)*1))) fun ab=>(cond (decide ((wrap .u64 (Int.tmod g 32))<0)) none (cond (Ad (wrap .i64 (Int.tdiv g 32)) a) (cond ((Nat.beq 1 1)&&((Nat.ble ((0+(((wrap .i64 (Int.tdiv g 32)).toNat)*1))+1) (i.length))&&(!false))) (k1 y (wrap .i64 (g - 1)) (i.set (0+(((wrap .i64 (Int.tdiv g 32)).toNat)*1)) (.int .u32 (Ta .u32 ab (wrap .u32 ((1:Int)*2 ^ (min ((wrap .u64 (Int.tmod g 32)).toNat) 32)))))) aa) none) none))) none) (k1 o (wrap .i64 (g - 1)) i p))))
def T7 (r0:Nat→Nat→Bool→LA→LA→O R) (b:LA) (a:Nat) (d c:Bool) (e:Nat) (f:LA) (k1:Nat→Int→LA→LA→O R) (q2:Nat→LA→O R) (l:Nat) (g:Int) (i m:LA):O R :=
 (cond (decide (g≥0)) (JA N (m.take (l*1)) l false true (m.take (l*1)) l false true (fun v w=>(gA N b a false c g (fun ac=>(cond (ac==1) (JA N (w.take (v*1)) v false true [(.int .u32 1)] 1 false true (fun ad ae=>(q2 ad ae))) (q2 v w)))))) (D2 N (i.take (a*1)) a false true (fun af ag=>(D2 N (m.take (l*1)) l false true (fun ah ai=>(r0 af ah true ag ai))))))
def Fx (r0:Nat→Nat→Bool→LA→LA→O R) (b:LA) (a:Nat) (d c:Bool) (e:Nat) (f:LA):Nat→Nat→Int→LA→LA→O R
 | 0,_,_,_,_=>none
 | n+1,l,g,i,m=>(T7 N r0 b a d c e f (Fx r0 b a d c e f n) (fun o p=>(M9 N (Fx r0 b a d c e f n) r0 b a d c e g f i o p)) l g i m)
def EY (r0:Nat→Nat→Bool→LA→LA→O R) (b:LA) (a:Nat) (d c:Bool) (e:Nat) (f:LA) (q1:Nat→Int→LA→LA→O R):O R :=
 (cond ((decide (0≤((a:Nat):Int)))&&((decide (((a:Nat):Int)≤((a:Nat):Int)))&&((decide (((a:Nat):Int)≤140737488355328))&&(decide ((((a:Nat):Int)*((4:Nat):Int))≤140737488355328))))) (OE N b a false c (fun aj=>(q1 0 (wrap .i64 (aj - 1)) (List.replicate a (.int .u32 0)) []))) none)
def Q4 (r0:Nat→Nat→Bool→LA→LA→O R) (b:LA) (a:Nat) (d c:Bool) (e:Nat) (f:LA):O R:=(EY N r0 b a d c e f (fun l g i m=>(Fx N r0 b a d c e f N l g i m)))
def JE (r0:Nat→Nat→Bool→LA→LA→O R) (q0:Nat→LA→O R) (b:LA) (a:Nat) (d c:Bool) (q:LA) (r:Nat) (t s:Bool):O R :=
 (D2 N q r false s (fun e f=>(cond (((e:Nat):Int)==0) (r0 0 0 false [] []) (Sc N b a false c (fun x ak=>(Sc N (f.take (e*1)) e false true (fun u al=>(cond (ak==true) (cond (cond true al false) (cond (u==0) none (Et N (wrap .u64 (Int.tdiv x u)) (fun am an=>(cond (u==0) none (Et N (Int.tmod x u) (fun ao ap=>(r0 am ao true an ap))))))) (q0 e f)) (q0 e f)))))))))
def Sf:=(Ah (fun (N:Nat) (b:LA) (a:Nat) (d c:Bool) (q:LA) (r:Nat) (t s:Bool) (r0:Nat→Nat→Bool→LA→LA→O R)=>(JE N r0 (fun e f=>(Q4 N r0 b a d c e f)) b a d c q r t s))).1
theorem b7 (b a d c q r t s r0):(@Sf R N b a d c q r t s r0)=(JE N r0 (fun e f=>(Q4 N r0 b a d c e f)) b a d c q r t s):=by rw[Sf,(Ah _).2]
def ig:Hints:={ H:=(hS hL (hS hL (hS hL (hS hL (hJ [0,1,5] hL (hS hL (hS (hS hL (hS (hP [0,1,4,5,11] (hS hL (hS (hS (hS hL (hJ [0,1,4,5,11] hL hL)) hL) hL))) hL)) hL))))))),nils:=[(4,1),(5,1)],modes:=[(2,1),(2,1),(0,0)] }
def oF:Ek:=[(143,F5 N),(178,i_ N),(94,T4 N),(179,vI N),(122,l_ N),(180,Abc N),(123,lc N)]
def MS (F:KF R):=Kk Tryz.f140 ig (oF N) [] N F
def Fy (F:KF R):Nat→Nat→Bool→LA→LA→O R:=(fun aq ar au av aw=>F (.tup [(.own 300000 0 aq),(.own 300001 0 ar),(.bool au)]) [(300000,(bQ 1 av)),(300001,(bQ 1 aw))])
def Ai5 (b:LA) (a:Nat) (d c:Bool) (e:Nat) (g:Int) (f i:LA) (o:Nat) (p:LA):St:=⟨[(0,(.imm b a 1 d c)),(1,(.own 300000 0 e)),(4,(.own 300001 0 a)),(5,(.own 300002 0 o)),(11,(.int .i64 g))],[(300000,(bQ 1 f)),(300001,(bQ 1 i)),(300002,(bQ 1 p))]⟩
def Ai6 (F:KF R) (Q1:St→O R):=MS N F [1,1,1,1,1,1,0,1,0,0,1,0,0,1,1] [Q1]
def ii (b:LA) (a:Nat) (d c:Bool) (e:Nat) (f:LA) (l:Nat) (g:Int) (i m:LA):St:=⟨[(0,(.imm b a 1 d c)),(1,(.own 300000 0 e)),(4,(.own 300001 0 a)),(5,(.own 300002 0 l)),(11,(.int .i64 g))],[(300000,(bQ 1 f)),(300001,(bQ 1 i)),(300002,(bQ 1 m))]⟩
def ij (F:KF R):=MS N F [1,1,1,1,1,1,0,1,0] []
def Ai7 (b:LA) (a:Nat) (d c:Bool) (e:Nat) (f:LA):St:=⟨[(0,(.imm b a 1 d c)),(1,(.own 300000 0 e)),(5,(.own 300001 0 0))],[(300000,(bQ 1 f)),(300001,(bQ 1 []))]⟩
def Ai8 (F:KF R):=MS N F [1,1,1,1,1] []
theorem sP (Q1:St→O R) (F:KF R) (b:LA) (a:Nat) (d c:Bool) (e:Nat) (g:Int) (f i:LA):∀ (o:Nat) (p:LA),Bb (Ai6 N F Q1) (Ai5 b a d c e g f i o p)=(M9 N (fun l g i m=>Q1 (ii b a d c e f l g i m)) (Fy F) b a d c e g f i o p):=by
 intro o p
 kernel_rfl
theorem OF (F:KF R) (b:LA) (a:Nat) (d c:Bool) (e:Nat) (f:LA):∀ (n l:Nat) (g:Int) (i m:LA),Ap (ij N F) n (ii b a d c e f l g i m)=(Fx N (Fy F) b a d c e f n l g i m)
 | 0,_,_,_,_=>by kernel_rfl
 | n+1,l,g,i,m=>have e0:=(funext fun l=>funext fun g=>funext fun i=>funext fun m=>(OF F b a d c e f n l g i m))
  Eq.trans (by kernel_rfl) (bJ (T7 N (Fy F) b a d c e f · · l g i m) e0 (funext fun o=>funext fun p=>(As ..).trans ((sP N (Ap (ij N F) n) F b a d c e g f i o p).trans (Bs (M9 N · (Fy F) b a d c e g f i o p) e0))):_)
theorem sQ (F:KF R) (b:LA) (a:Nat) (d c:Bool) (e:Nat) (f:LA):Bb (Ai8 N F) (Ai7 b a d c e f)=(Q4 N (Fy F) b a d c e f):=by
 exact Eq.trans (by kernel_rfl) (Bs (EY N (Fy F) b a d c e f ·) (funext fun l=>funext fun g=>funext fun i=>funext fun m=>(Ak ..).trans (OF N F b a d c e f N l g i m)):_)
theorem ik (b:LA) (a:Nat) (d c:Bool) (q:LA) (r:Nat) (t s:Bool) (F:KF R):Cn (oF N) ig N 140 [(.imm b a 1 d c),(.imm q r 1 t s)] [] F=(Sf N b a d c q r t s (Fy F)):=by
 rw[b7]
 exact Eq.trans (by kernel_rfl) (Bs (JE N (Fy F) · b a d c q r t s) (funext fun e=>funext fun f=>(As ..).trans (sQ N F b a d c e f)):_)
def b8 (args:List AV) (h:Am) (k:KF R):O R :=
 match args,h with
 | [(.imm b a 1 d c),(.imm q r 1 t s)],[]=>(Sf N b a d c q r t s (Fy k))
 | _,_=>none
theorem io:Aq N 140 @b8:=by
 intro R Q args h k j;unfold b8;split
 exact A2 (ik ..) (ik ..) ⟨Hb N,Ai2 N,IY N,Aua N,Aa7 N,Ayk N,Abn N,trivial⟩
 exact A5
def MT:=A4 (io N)
theorem ip:A1 Tryz.prog 140 (MT N):=A6 (io N) follows
def Tc (r0:Nat→LA→O R) (k0:Nat→Nat→LA→LA→O R) (b a:Nat) (c d:LA):O R :=
 (cond (decide (((a:Nat):Int)>0)) (Sf N (c.take (b*1)) b false true (d.take (a*1)) a false true (fun y q z aa r=>(k0 a q d r))) (r0 b c))
def Eu (r0:Nat→LA→O R):Nat→Nat→Nat→LA→LA→O R
 | 0,_,_,_,_=>none
 | n+1,b,a,c,d=>(Tc N r0 (Eu r0 n) b a c d)
def oG (r0:Nat→LA→O R) (q0:Nat→Nat→LA→LA→O R) (e:LA) (f:Nat) (o g:Bool) (i:LA) (l:Nat) (p m:Bool):O R :=
 (D2 N e f false g (fun s t=>(D2 N i l false m (fun u v=>(q0 s u t v)))))
def gD:=(Ah (fun (N:Nat) (e:LA) (f:Nat) (o g:Bool) (i:LA) (l:Nat) (p m:Bool) (r0:Nat→LA→O R)=>(oG N r0 (fun b a c d=>(Eu N r0 N b a c d)) e f o g i l p m))).1
theorem vP (e f o g i l p m r0):(@gD R N e f o g i l p m r0)=(oG N r0 (fun b a c d=>(Eu N r0 N b a c d)) e f o g i l p m):=by rw[gD,(Ah _).2]
def Abo:Hints:={ H:=(hS hL (hS hL (hS (hS (hP [0,1] hL) hL) hL))),nils:=[(4,1)],modes:=[(2,1)] }
def Aly:Ek:=[(143,F5 N),(140,MT N)]
def Ayn (F:KF R):=Kk Tryz.f139 Abo (Aly N) [] N F
def EZ (F:KF R):Nat→LA→O R:=(fun w x=>F (.own 300000 0 w) [(300000,(bQ 1 x))])
def Ayo (b a:Nat) (c d:LA):St:=⟨[(0,(.own 300000 0 b)),(1,(.own 300001 0 a))],[(300000,(bQ 1 c)),(300001,(bQ 1 d))]⟩
def Ayp (F:KF R):=Ayn N F [1,1,0,0] []
theorem iq (F:KF R):∀ (n:Nat) (b a:Nat) (c d:LA),Ap (Ayp N F) n (Ayo b a c d)=(Eu N (EZ F) n b a c d)
 | 0,_,_,_,_=>by kernel_rfl
 | n+1,b,a,c,d=>Eq.trans (by kernel_rfl) (Bs (Tc N (EZ F) · b a c d) (funext fun b=>funext fun a=>funext fun c=>funext fun d=>(iq F n b a c d)):_)
theorem Abp (e:LA) (f:Nat) (o g:Bool) (i:LA) (l:Nat) (p m:Bool) (F:KF R):Cn (Aly N) Abo N 139 [(.imm e f 1 o g),(.imm i l 1 p m)] [] F=(gD N e f o g i l p m (EZ F)):=by
 rw[vP]
 exact Eq.trans (by kernel_rfl) (Bs (oG N (EZ F) · e f o g i l p m) (funext fun b=>funext fun a=>funext fun c=>funext fun d=>(Ak ..).trans (iq N F N b a c d)):_)
def vQ (args:List AV) (h:Am) (k:KF R):O R :=
 match args,h with
 | [(.imm e f 1 o g),(.imm i l 1 p m)],[]=>(gD N e f o g i l p m (EZ k))
 | _,_=>none
theorem Abq:Aq N 139 @vQ:=by
 intro R Q args h k j;unfold vQ;split
 exact A2 (Abp ..) (Abp ..) ⟨Hb N,ip N,trivial⟩
 exact A5
def Abr:=A4 (Abq N)
theorem Ayq:A1 Tryz.prog 139 (Abr N):=A6 (Abq N) follows
def Abs (r0:LA→O R) (a:LA) (b:Bool) (c:LA) (d:Bool):O R :=
 (Ct 1 (a.drop 1) fun g i=>(Ct 1 (c.drop 1) fun l m=>(gD N g i false b l m false d (fun f n=>(F6 N false (n.take (f*1)) f false true (fun e=>(cond ((Nat.beq 0 0)&&((Nat.beq (e.length) 2)&&(Nat.beq 2 2))) (cond (Nat.ble 2 (e.length)) (r0 (e.take 2)) none) none)))))))
def gG:=(Ah (fun (N:Nat) (a:LA) (b:Bool) (c:LA) (d:Bool) (r0:LA→O R)=>(Abs N r0 a b c d))).1
theorem vR (a b c d r0):(@gG R N a b c d r0)=(Abs N r0 a b c d):=by rw[gG,(Ah _).2]
def Ayr:Hints:={ H:=hL,modes:=[(3,0)] }
def A3k:Ek:=[(139,Abr N),(93,I3 N)]
def Abt (F:KF R):LA→O R:=(fun o=>F (.pagg o false) [])
theorem Abu (a:LA) (b:Bool) (c:LA) (d:Bool) (F:KF R):Cn (A3k N) Ayr N 90 [(.pagg a b),(.pagg c d)] [] F=(gG N a b c d (Abt F)):=by
 rw[vR]
 kernel_rfl
def vS (args:List AV) (h:Am) (k:KF R):O R :=
 match args,h with
 | [(.pagg a b),(.pagg c d)],[]=>(gG N a b c d (Abt k))
 | _,_=>none
theorem Abv:Aq N 90 @vS:=by
 intro R Q args h k j;unfold vS;split
 exact A2 (Abu ..) (Abu ..) ⟨Ayq N,Ld N,trivial⟩
 exact A5
def Abw:=A4 (Abv N)
theorem Ays:A1 Tryz.prog 90 (Abw N):=A6 (Abv N) follows
def Aub (r0:LA→O R) (a:LA) (b:Bool):O R :=
 (Ct 1 (a.drop 1) fun d e=>(F6 N false d e false b (fun c=>(cond ((Nat.beq 0 0)&&((Nat.beq (c.length) 2)&&(Nat.beq 2 2))) (cond (Nat.ble 2 (c.length)) (r0 (c.take 2)) none) none))))
def oH:=(Ah (fun (N:Nat) (a:LA) (b:Bool) (r0:LA→O R)=>(Aub N r0 a b))).1
theorem Auc (a b r0):(@oH R N a b r0)=(Aub N r0 a b):=by rw[oH,(Ah _).2]
def Ayt:Hints:={ H:=hL,modes:=[(3,0)] }
def A3l:Ek:=[(93,I3 N)]
def Abx (F:KF R):LA→O R:=(fun f=>F (.pagg f false) [])
theorem Aby (a:LA) (b:Bool) (F:KF R):Cn (A3l N) Ayt N 141 [(.pagg a b)] [] F=(oH N a b (Abx F)):=by
 rw[Auc]
 kernel_rfl
def vT (args:List AV) (h:Am) (k:KF R):O R :=
 match args,h with
 | [(.pagg a b)],[]=>(oH N a b (Abx k))
 | _,_=>none
theorem Abz:Aq N 141 @vT:=by
 intro R Q args h k j;unfold vT;split
 exact A2 (Aby ..) (Aby ..) ⟨Ld N,trivial⟩
 exact A5
def Ab0:=A4 (Abz N)
theorem Ayu:A1 Tryz.prog 141 (Ab0 N):=A6 (Abz N) follows
def Ab1 (r0:LA→O R) (a:LA) (c:Bool) (b:LA) (d:Bool):O R :=
 (N_ a fun n=>(N_ b fun o=>(cond (n==o) (N_ a fun p=>(Ct 1 (a.drop 1) fun q r=>(Ct 1 (b.drop 1) fun s t=>(JA N q r false c s t false d (fun i u=>(F6 N p (u.take (i*1)) i false true (fun e=>(cond ((Nat.beq 0 0)&&((Nat.beq (e.length) 2)&&(Nat.beq 2 2))) (cond (Nat.ble 2 (e.length)) (r0 (e.take 2)) none) none)))))))) (Ct 1 (a.drop 1) fun v w=>(Ct 1 (b.drop 1) fun x y=>(JD N v w false c x y false d (fun l z aa=>(cond z (N_ a fun ab=>(F6 N ab (aa.take (l*1)) l false true (fun f=>(cond ((Nat.beq 0 0)&&((Nat.beq (f.length) 2)&&(Nat.beq 2 2))) (cond (Nat.ble 2 (f.length)) (r0 (f.take 2)) none) none)))) (Ct 1 (b.drop 1) fun ac ad=>(Ct 1 (a.drop 1) fun ae af=>(JD N ac ad false d ae af false c (fun m aj ag=>(N_ b fun ah=>(F6 N ah (ag.take (m*1)) m false true (fun g=>(cond ((Nat.beq 0 0)&&((Nat.beq (g.length) 2)&&(Nat.beq 2 2))) (cond (Nat.ble 2 (g.length)) (r0 (g.take 2)) none) none))))))))))))))))
def Xa:=(Ah (fun (N:Nat) (a:LA) (c:Bool) (b:LA) (d:Bool) (r0:LA→O R)=>(Ab1 N r0 a c b d))).1
theorem vU (a c b d r0):(@Xa R N a c b d r0)=(Ab1 N r0 a c b d):=by rw[Xa,(Ah _).2]
def Ayv:Hints:={ H:=hL,modes:=[(3,0)] }
def A3m:Ek:=[(122,l_ N),(93,I3 N),(123,lc N)]
def Ab2 (F:KF R):LA→O R:=(fun ai=>F (.pagg ai false) [])
theorem Ab3 (a:LA) (c:Bool) (b:LA) (d:Bool) (F:KF R):Cn (A3m N) Ayv N 71 [(.pagg a c),(.pagg b d)] [] F=(Xa N a c b d (Ab2 F)):=by
 rw[vU]
 kernel_rfl
def vV (args:List AV) (h:Am) (k:KF R):O R :=
 match args,h with
 | [(.pagg a c),(.pagg b d)],[]=>(Xa N a c b d (Ab2 k))
 | _,_=>none
theorem Ab4:Aq N 71 @vV:=by
 intro R Q args h k j;unfold vV;split
 exact A2 (Ab3 ..) (Ab3 ..) ⟨Aa7 N,Ld N,Abn N,trivial⟩
 exact A5
def TB:=A4 (Ab4 N)
theorem ld:A1 Tryz.prog 71 (TB N):=A6 (Ab4 N) follows
def Ab5 (r0:LA→O R) (a:LA) (b:Bool):O R :=
 (N_ a fun d=>(Ct 1 (a.drop 1) fun e f=>(F6 N (!d) e f false b (fun c=>(cond ((Nat.beq 0 0)&&((Nat.beq (c.length) 2)&&(Nat.beq 2 2))) (cond (Nat.ble 2 (c.length)) (r0 (c.take 2)) none) none)))))
def Xb:=(Ah (fun (N:Nat) (a:LA) (b:Bool) (r0:LA→O R)=>(Ab5 N r0 a b))).1
theorem vW (a b r0):(@Xb R N a b r0)=(Ab5 N r0 a b):=by rw[Xb,(Ah _).2]
def Ayw:Hints:={ H:=hL,modes:=[(3,0)] }
def A3n:Ek:=[(93,I3 N)]
def Ab6 (F:KF R):LA→O R:=(fun g=>F (.pagg g false) [])
theorem Ab7 (a:LA) (b:Bool) (F:KF R):Cn (A3n N) Ayw N 92 [(.pagg a b)] [] F=(Xb N a b (Ab6 F)):=by
 rw[vW]
 kernel_rfl
def vX (args:List AV) (h:Am) (k:KF R):O R :=
 match args,h with
 | [(.pagg a b)],[]=>(Xb N a b (Ab6 k))
 | _,_=>none
theorem Ab8:Aq N 92 @vX:=by
 intro R Q args h k j;unfold vX;split
 exact A2 (Ab7 ..) (Ab7 ..) ⟨Ld N,trivial⟩
 exact A5
def TC:=A4 (Ab8 N)
theorem lf:A1 Tryz.prog 92 (TC N):=A6 (Ab8 N) follows
def Aud (r0:LA→O R) (a:LA) (c:Bool) (b:LA) (d:Bool):O R :=
 (cond (Nat.ble 2 (a.length)) (cond (Nat.ble 2 (b.length)) (Xb N (b.take 2) d (fun f=>(Xa N (a.take 2) c f false (fun e=>(cond ((Nat.beq 0 0)&&((Nat.beq (e.length) 2)&&(Nat.beq 2 2))) (cond (Nat.ble 2 (e.length)) (r0 (e.take 2)) none) none))))) none) none)
def oI:=(Ah (fun (N:Nat) (a:LA) (c:Bool) (b:LA) (d:Bool) (r0:LA→O R)=>(Aud N r0 a c b d))).1
theorem Aue (a c b d r0):(@oI R N a c b d r0)=(Aud N r0 a c b d):=by rw[oI,(Ah _).2]
def Ayx:Hints:={ H:=hL,modes:=[(3,0)] }
def A3o:Ek:=[(92,TC N),(71,TB N)]
def Ab9 (F:KF R):LA→O R:=(fun g=>F (.pagg g false) [])
theorem Aca (a:LA) (c:Bool) (b:LA) (d:Bool) (F:KF R):Cn (A3o N) Ayx N 142 [(.pagg a c),(.pagg b d)] [] F=(oI N a c b d (Ab9 F)):=by
 rw[Aue]
 kernel_rfl
def vY (args:List AV) (h:Am) (k:KF R):O R :=
 match args,h with
 | [(.pagg a c),(.pagg b d)],[]=>(oI N a c b d (Ab9 k))
 | _,_=>none
theorem Acb:Aq N 142 @vY:=by
 intro R Q args h k j;unfold vY;split
 exact A2 (Aca ..) (Aca ..) ⟨lf N,ld N,trivial⟩
 exact A5
def Acc:=A4 (Acb N)
theorem Ayy:A1 Tryz.prog 142 (Acc N):=A6 (Acb N) follows
end
end Gx

namespace Gx
open Go Go.Proofs
open IntKind (wrap)
set_option maxRecDepth 100000
noncomputable section
variable {R:Type} (N:Nat)
def b9 (r0:LA→LA→Bool→O R) (e:LA) (g:Bool) (c:LA) (f:Bool):O R :=
 (Ct 1 (e.drop 1) fun o p=>(Ct 1 (c.drop 1) fun q r=>(Sf N o p false g q r false f (fun m n s t u=>(cond (!s) (r0 [(.bool false),.nsl] [(.bool false),.nsl] false) (N_ e fun v=>(N_ c fun w=>(F6 N (!(v==w)) (t.take (m*1)) m false true (fun a=>(N_ e fun x=>(F6 N x (u.take (n*1)) n false true (fun b=>(cond ((Nat.beq 0 0)&&((Nat.beq (a.length) 2)&&(Nat.beq 2 2))) (cond ((Nat.beq 0 0)&&((Nat.beq (b.length) 2)&&(Nat.beq 2 2))) (N_ b fun y=>(cond y (cond (Nat.ble 2 (b.length)) (cond (Nat.ble 2 (c.length)) (oH N (c.take 2) f (fun z=>(Xa N (b.take 2) false z false (fun d=>(cond ((Nat.beq (d.length) 2)&&((Nat.ble 2 (b.length))&&(!false))) (N_ c fun aa=>(cond aa (cond (Nat.ble 2 (a.length)) (I4 N 1 (fun ab=>(Xa N (a.take 2) false ab false (fun i=>(cond ((Nat.beq (i.length) 2)&&((Nat.ble 2 (a.length))&&(!false))) (cond (Nat.ble 2 ((setCells a 0 i).length)) (cond (Nat.ble 2 ((setCells b 0 d).length)) (cond ((Nat.beq (((setCells a 0 i).take 2).length) 2)&&((Nat.ble 2 ((setCells a 0 i).length))&&(!false))) (cond ((Nat.beq (((setCells b 0 d).take 2).length) 2)&&((Nat.ble 2 ((setCells b 0 d).length))&&(!false))) (cond (Nat.ble 2 ((setCells (setCells a 0 i) 0 ((setCells a 0 i).take 2)).length)) (cond (Nat.ble 2 ((setCells (setCells b 0 d) 0 ((setCells b 0 d).take 2)).length)) (r0 ((setCells (setCells a 0 i) 0 ((setCells a 0 i).take 2)).take 2) ((setCells (setCells b 0 d) 0 ((setCells b 0 d).take 2)).take 2) true) none) none) none) none) none) none) none))))) none) (cond (Nat.ble 2 (a.length)) (I4 N 1 (fun ac=>(oI N (a.take 2) false ac false (fun l=>(cond ((Nat.beq (l.length) 2)&&((Nat.ble 2 (a.length))&&(!false))) (cond (Nat.ble 2 ((setCells a 0 l).length)) (cond (Nat.ble 2 ((setCells b 0 d).length)) (cond ((Nat.beq (((setCells a 0 l).take 2).length) 2)&&((Nat.ble 2 ((setCells a 0 l).length))&&(!false))) (cond ((Nat.beq (((setCells b 0 d).take 2).length) 2)&&((Nat.ble 2 ((setCells b 0 d).length))&&(!false))) (cond (Nat.ble 2 ((setCells (setCells a 0 l) 0 ((setCells a 0 l).take 2)).length)) (cond (Nat.ble 2 ((setCells (setCells b 0 d) 0 ((setCells b 0 d).take 2)).length)) (r0 ((setCells (setCells a 0 l) 0 ((setCells a 0 l).take 2)).take 2) ((setCells (setCells b 0 d) 0 ((setCells b 0 d).take 2)).take 2) true) none) none) none) none) none) none) none))))) none))) none))))) none) none) (cond (Nat.ble 2 (a.length)) (cond (Nat.ble 2 (b.length)) (cond ((Nat.beq ((a.take 2).length) 2)&&((Nat.ble 2 (a.length))&&(!false))) (cond ((Nat.beq ((b.take 2).length) 2)&&((Nat.ble 2 (b.length))&&(!false))) (cond (Nat.ble 2 ((setCells a 0 (a.take 2)).length)) (cond (Nat.ble 2 ((setCells b 0 (b.take 2)).length)) (r0 ((setCells a 0 (a.take 2)).take 2) ((setCells b 0 (b.take 2)).take 2) true) none) none) none) none) none) none))) none) none)))))))))))))
def Sg:=(Ah (fun (N:Nat) (e:LA) (g:Bool) (c:LA) (f:Bool) (r0:LA→LA→Bool→O R)=>(b9 N r0 e g c f))).1
theorem b_ (e g c f r0):(@Sg R N e g c f r0)=(b9 N r0 e g c f):=by rw[Sg,(Ah _).2]
def Ai9:Hints:={ H:=hL,modes:=[(3,0),(3,0),(0,0)] }
def Aps:Ek:=[(140,MT N),(93,I3 N),(141,Ab0 N),(71,TB N),(55,EV N),(142,Acc N)]
def iw (F:KF R):LA→LA→Bool→O R:=(fun ad ae af=>F (.tup [(.pagg ad false),(.pagg ae false),(.bool af)]) [])
theorem ix (e:LA) (g:Bool) (c:LA) (f:Bool) (F:KF R):Cn (Aps N) Ai9 N 91 [(.pagg e g),(.pagg c f)] [] F=(Sg N e g c f (iw F)):=by
 rw[b_]
 kernel_rfl
def cA (args:List AV) (h:Am) (k:KF R):O R :=
 match args,h with
 | [(.pagg e g),(.pagg c f)],[]=>(Sg N e g c f (iw k))
 | _,_=>none
theorem iy:Aq N 91 @cA:=by
 intro R Q args h k j;unfold cA;split
 exact A2 (ix ..) (ix ..) ⟨ip N,Ld N,Ayu N,ld N,bO N,Ayy N,trivial⟩
 exact A5
def iz:=A4 (iy N)
theorem Aja:A1 Tryz.prog 91 (iz N):=A6 (iy N) follows
def JF (r0:LA→O R) (d:Bool) (b:LA) (c:Bool) (a:LA):O R :=
 (cond (Nat.ble 2 (b.length)) (cond (Nat.ble 2 (a.length)) (gG N (b.take 2) d (a.take 2) c (fun i=>(cond ((Nat.beq 0 0)&&((Nat.beq (i.length) 2)&&(Nat.beq 2 2))) (cond (Nat.ble 2 (b.length)) (cond (Nat.ble 2 (i.length)) (Sg N (b.take 2) d (i.take 2) false (fun e v ae=>(cond ((Nat.beq 0 0)&&((Nat.beq (e.length) 2)&&(Nat.beq 2 2))) (cond ((Nat.beq 0 0)&&((Nat.beq (v.length) 2)&&(Nat.beq 2 2))) (cond (Nat.ble 2 (a.length)) (cond (Nat.ble 2 (i.length)) (Sg N (a.take 2) c (i.take 2) false (fun f w af=>(cond ((Nat.beq 0 0)&&((Nat.beq (f.length) 2)&&(Nat.beq 2 2))) (cond ((Nat.beq 0 0)&&((Nat.beq (w.length) 2)&&(Nat.beq 2 2))) (N_ f fun x=>(cond x (cond (Nat.ble 2 (e.length)) (Xb N (e.take 2) false (fun g=>(cond (Nat.ble 2 (f.length)) (Xb N (f.take 2) false (fun u=>(cond ((Nat.beq (g.length) 2)&&((Nat.ble 2 (e.length))&&(!false))) (cond ((Nat.beq (u.length) 2)&&((Nat.ble 2 (f.length))&&(!false))) (cond (Nat.ble 2 ((setCells e 0 g).length)) (Ct 1 ((setCells f 0 u).drop 1) fun n o=>(cond ((Nat.beq (((setCells e 0 g).take 2).length) 2)&&(Nat.ble 2 3)) (cond ((Nat.beq 1 1)&&(Nat.ble 3 ((setCells [(.bool false),.nsl,.nsl] 0 ((setCells e 0 g).take 2)).length))) (cond ((Nat.beq 0 0)&&((Nat.beq (((setCells [(.bool false),.nsl,.nsl] 0 ((setCells e 0 g).take 2)).set 2 (.imm n o 1 false false)).length) 3)&&(Nat.beq 3 3))) (cond (Nat.ble 3 (((setCells [(.bool false),.nsl,.nsl] 0 ((setCells e 0 g).take 2)).set 2 (.imm n o 1 false false)).length)) (r0 (((setCells [(.bool false),.nsl,.nsl] 0 ((setCells e 0 g).take 2)).set 2 (.imm n o 1 false false)).take 3)) none) none) none) none)) none) none) none))) none))) none) (cond (Nat.ble 2 (e.length)) (Ct 1 (f.drop 1) fun p q=>(cond ((Nat.beq ((e.take 2).length) 2)&&(Nat.ble 2 3)) (cond ((Nat.beq 1 1)&&(Nat.ble 3 ((setCells [(.bool false),.nsl,.nsl] 0 (e.take 2)).length))) (cond ((Nat.beq 0 0)&&((Nat.beq (((setCells [(.bool false),.nsl,.nsl] 0 (e.take 2)).set 2 (.imm p q 1 false false)).length) 3)&&(Nat.beq 3 3))) (cond (Nat.ble 3 (((setCells [(.bool false),.nsl,.nsl] 0 (e.take 2)).set 2 (.imm p q 1 false false)).length)) (r0 (((setCells [(.bool false),.nsl,.nsl] 0 (e.take 2)).set 2 (.imm p q 1 false false)).take 3)) none) none) none) none)) none))) none) none))) none) none) none) none))) none) none) none))) none) none)
def gH (r0:LA→O R) (q0:O R) (b:LA) (d:Bool) (a:LA) (c:Bool):O R :=
 (cond (Nat.ble 2 (a.length)) (Yk N (a.take 2) c (fun y=>(cond (y==0) (OB N (fun r=>(cond ((Nat.beq 0 0)&&((Nat.beq (r.length) 3)&&(Nat.beq 3 3))) (cond (Nat.ble 3 (r.length)) (r0 (r.take 3)) none) none))) (cond (Nat.ble 2 (a.length)) (Yj N (a.take 2) c (fun m=>(cond ((Nat.beq 0 0)&&((Nat.beq (m.length) 2)&&(Nat.beq 2 2))) (N_ m fun z=>(cond ((!z)==true) (Ct 1 (m.drop 1) fun aa ab=>(DT N aa ab false false [(.int .u32 1)] 1 false true (fun ac=>(cond (cond true ac false) (cond (Nat.ble 2 (b.length)) (Yj N (b.take 2) d (fun l=>(Ct 1 (m.drop 1) fun s t=>(cond ((Nat.beq (l.length) 2)&&(Nat.ble 2 3)) (cond ((Nat.beq 1 1)&&(Nat.ble 3 ((setCells [(.bool false),.nsl,.nsl] 0 l).length))) (cond ((Nat.beq 0 0)&&((Nat.beq (((setCells [(.bool false),.nsl,.nsl] 0 l).set 2 (.imm s t 1 false false)).length) 3)&&(Nat.beq 3 3))) (cond (Nat.ble 3 (((setCells [(.bool false),.nsl,.nsl] 0 l).set 2 (.imm s t 1 false false)).length)) (r0 (((setCells [(.bool false),.nsl,.nsl] 0 l).set 2 (.imm s t 1 false false)).take 3)) none) none) none) none)))) none) q0)))) q0)) none))) none)))) none)
def Q5:=(Ah (fun (N:Nat) (b:LA) (d:Bool) (a:LA) (c:Bool) (r0:LA→O R)=>(gH N r0 (JF N r0 d b c a) b d a c))).1
theorem oJ (b d a c r0):(@Q5 R N b d a c r0)=(gH N r0 (JF N r0 d b c a) b d a c):=by rw[Q5,(Ah _).2]
def vZ:Hints:={ H:=(hS hL (hS hL (hJ [2,3,4] hL hL))),modes:=[(3,0)] }
def Acd:Ek:=[(75,bS N),(41,vE N),(88,bR N),(89,oA N),(90,Abw N),(91,iz N),(92,TC N)]
def Auf (F:KF R):=Kk Tryz.f54 vZ (Acd N) [] N F
def JG (F:KF R):LA→O R:=(fun ad=>F (.pagg ad false) [])
def Aug (d:Bool) (b:LA) (c:Bool) (a:LA):St:=⟨[(2,(.optr 300000 0)),(3,(.optr 300001 0)),(4,(.optr 300002 0))],[(300000,(bP d 0 b)),(300001,(bP c 0 a)),(300002,⟨false,false,false,false,0,[(.bool false),.nsl,.nsl],false⟩)]⟩
def Auh (F:KF R):=Auf N F [1,1,1] []
theorem Ace (F:KF R) (d:Bool) (b:LA) (c:Bool) (a:LA):Bb (Auh N F) (Aug d b c a)=(JF N (JG F) d b c a):=by
 kernel_rfl
theorem v6 (b:LA) (d:Bool) (a:LA) (c:Bool) (F:KF R):Cn (Acd N) vZ N 54 [(.pagg b d),(.pagg a c)] [] F=(Q5 N b d a c (JG F)):=by
 rw[oJ]
 exact Eq.trans (by kernel_rfl) (Bs (gH N (JG F) · b d a c) ((As ..).trans (Ace N F d b c a)):_)
def oK (args:List AV) (h:Am) (k:KF R):O R :=
 match args,h with
 | [(.pagg b d),(.pagg a c)],[]=>(Q5 N b d a c (JG k))
 | _,_=>none
theorem v7:Aq N 54 @oK:=by
 intro R Q args h k j;unfold oK;split
 exact A2 (v6 ..) (v6 ..) ⟨vA N,At6 N,uw N,Apr N,Ays N,Aja N,lf N,trivial⟩
 exact A5
def Ym:=A4 (v7 N)
theorem JH:A1 Tryz.prog 54 (Ym N):=A6 (v7 N) follows
def TD (r0:LA→O R) (a:Int):O R :=
 (I4 N a (fun c=>(I4 N 1 (fun d=>(Q5 N c false d false (fun b=>(cond ((Nat.beq 0 0)&&((Nat.beq (b.length) 3)&&(Nat.beq 3 3))) (cond (Nat.ble 3 (b.length)) (r0 (b.take 3)) none) none)))))))
def Eb:=(Ah (fun (N:Nat) (a:Int) (r0:LA→O R)=>(TD N r0 a))).1
theorem WP (a r0):(@Eb R N a r0)=(TD N r0 a):=by rw[Eb,(Ah _).2]
def Acf:Hints:={ H:=hL,modes:=[(3,0)] }
def Ajb:Ek:=[(55,EV N),(54,Ym N)]
def cB (F:KF R):LA→O R:=(fun e=>F (.pagg e false) [])
theorem cC (a:Int) (F:KF R):Cn (Ajb N) Acf N 20 [(.int .i64 a)] [] F=(Eb N a (cB F)):=by
 rw[WP]
 kernel_rfl
def WQ (args:List AV) (h:Am) (k:KF R):O R :=
 match args,h with
 | [(.int .i64 a)],[]=>(Eb N a (cB k))
 | _,_=>none
theorem cD:Aq N 20 @WQ:=by
 intro R Q args h k j;unfold WQ;split
 exact A2 (cC ..) (cC ..) ⟨bO N,JH N,trivial⟩
 exact A5
def E_:=A4 (cD N)
theorem cE:A1 Tryz.prog 20 (E_ N):=A6 (cD N) follows
def TE (N:Nat) (r0:Nat→O R) (a:Nat) (b:LA) (k0:Int→O R) (c:Int):O R :=
 (cond ((decide (c>0))==true) (cond (Ad (wrap .i64 (c - 1)) a) (Ao .u32 (b.drop (0+(((wrap .i64 (c - 1)).toNat)*1))) fun d=>(cond (cond true (d==0) false) (k0 (wrap .i64 (c - 1))) (cond ((decide ((0:Int)≤(0:Int)))&&((decide (0≤c))&&((decide (c≤((a:Nat):Int)))&&(decide (((a:Nat):Int)≤((a:Nat):Int)))))) (r0 (c.toNat)) none))) none) (cond ((decide ((0:Int)≤(0:Int)))&&((decide (0≤c))&&((decide (c≤((a:Nat):Int)))&&(decide (((a:Nat):Int)≤((a:Nat):Int)))))) (r0 (c.toNat)) none))
def Wb (r0:Nat→O R) (a:Nat) (b:LA):Nat→Int→O R
 | 0,_=>none
 | n+1,c=>(TE N r0 a b (Wb r0 a b n) c)
def oL (N:Nat) (r0:Nat→O R) (q0:Int→O R) (a:Nat) (b:LA):O R :=
 (q0 ((a:Nat):Int))
def Wc:=(Ah (fun (N a:Nat) (b:LA) (r0:Nat→O R)=>(oL N r0 (fun c=>(Wb N r0 a b N c)) a b))).1
theorem lh (a b r0):(@Wc R N a b r0)=(oL N r0 (fun c=>(Wb N r0 a b N c)) a b):=by rw[Wc,(Ah _).2]
def Alz:Hints:={ H:=(hS hL (hS hL (hS (hS (hP [0,3] hL) hL) hL))),nils:=[(2,1)],modes:=[(2,1)] }
def A3p (F:KF R):=Kk Tryz.f171 Alz [] [100000] N F
def DU (b:LA) (F:KF R):Nat→O R:=(fun e=>F (.own 100000 0 e) [(100000,(bQ 1 b))])
def A3q (a:Nat) (b:LA) (c:Int):St:=⟨[(0,(.own 100000 0 a)),(3,(.int .i64 c))],[(100000,(bQ 1 b))]⟩
def A3r (F:KF R):=A3p N F [1,1,0,0] []
theorem oM (F:KF R) (a:Nat) (b:LA):∀ (n:Nat) (c:Int),Ap (A3r N F) n (A3q a b c)=(Wb N (DU b F) a b n c)
 | 0,_=>by kernel_rfl
 | n+1,c=>Eq.trans (by kernel_rfl) (Bs (TE N (DU b F) a b · c) (funext fun c=>(oM F a b n c)):_)
theorem gI (a:Nat) (b:LA) (F:KF R):Cn [] Alz N 171 [(.own 100000 0 a)] [(100000,(bQ 1 b))] F=(Wc N a b (DU b F)):=by
 rw[lh]
 exact Eq.trans (by kernel_rfl) (Bs (oL N (DU b F) · a b) (funext fun c=>(Ak ..).trans (oM N F a b N c)):_)
def Acg (args:List AV) (h:Am) (k:KF R):O R :=
 match args,h with
 | [(.own 100000 0 a)],[(100000,⟨false,false,true,false,1,b,false⟩)]=>(Wc N a b (DU b k))
 | _,_=>none
theorem Al0:Aq N 171 @Acg:=by
 intro R Q args h k j;unfold Acg;split
 exact A2 (gI ..) (gI ..) trivial
 exact A5
def gJ:=A4 (Al0 N)
theorem sR:A1 Tryz.prog 171 (gJ N):=A6 (Al0 N) follows
def E' (r0:Nat→LA→O R) (a:Int):O R :=
 (Wc N 2 [(.int .u32 (wrap .u32 a)),(.int .u32 (wrap .u32 (Int.fdiv a (2 ^ 32))))] (fun b=>(r0 b [(.int .u32 (wrap .u32 a)),(.int .u32 (wrap .u32 (Int.fdiv a (2 ^ 32))))])))
def Bw:=(Ah (fun (N:Nat) (a:Int) (r0:Nat→LA→O R)=>(E' N r0 a))).1
theorem JI (a r0):(@Bw R N a r0)=(E' N r0 a):=by rw[Bw,(Ah _).2]
def sS:Hints:={ H:=hL,nils:=[(2,1)],modes:=[(2,1)] }
def y9:Ek:=[(171,gJ N)]
def OG (F:KF R):Nat→LA→O R:=(fun c d=>F (.own 300000 0 c) [(300000,(bQ 1 d))])
theorem OH (a:Int) (F:KF R):Cn (y9 N) sS N 149 [(.int .u64 a)] [] F=(Bw N a (OG F)):=by
 rw[JI]
 kernel_rfl
def JJ (args:List AV) (h:Am) (k:KF R):O R :=
 match args,h with
 | [(.int .u64 a)],[]=>(Bw N a (OG k))
 | _,_=>none
theorem OI:Aq N 149 @JJ:=by
 intro R Q args h k j;unfold JJ;split
 exact A2 (OH ..) (OH ..) ⟨sR N,trivial⟩
 exact A5
def Fk:=A4 (OI N)
theorem Hg:A1 Tryz.prog 149 (Fk N):=A6 (OI N) follows
def li (N:Nat) (r0:Bool→O R) (c:Bool) (a:Nat) (b:LA):O R :=
 (cond (c==true) (r0 (cond true (decide (((a:Nat):Int)>0)) false)) (r0 false))
def Ir:=(Ah (fun (N:Nat) (c:Bool) (a:Nat) (b:LA) (r0:Bool→O R)=>(li N r0 c a b))).1
theorem jA (c a b r0):(@Ir R N c a b r0)=(li N r0 c a b):=by rw[Ir,(Ah _).2]
def Apt:Hints:={ H:=hL }
def oN (a:Nat) (b:LA) (F:KF R):Bool→O R:=(fun d=>F (.agg [(.bool d),(.own 100000 0 a)]) [(100000,(bQ 1 b))])
theorem oO (c:Bool) (a:Nat) (b:LA) (F:KF R):Cn [] Apt N 148 [(.bool c),(.own 100000 0 a)] [(100000,(bQ 1 b))] F=(Ir N c a b (oN a b F)):=by
 rw[jA]
 kernel_rfl
def jB (args:List AV) (h:Am) (k:KF R):O R :=
 match args,h with
 | [(.bool c),(.own 100000 0 a)],[(100000,⟨false,false,true,false,1,b,false⟩)]=>(Ir N c a b (oN a b k))
 | _,_=>none
theorem oP:Aq N 148 @jB:=by
 intro R Q args h k j;unfold jB;split
 exact A2 (oO ..) (oO ..) trivial
 exact A5
def T8:=A4 (oP N)
theorem CN:A1 Tryz.prog 148 (T8 N):=A6 (oP N) follows
def cF (r0:Bool→Nat→LA→O R) (a:Int):O R :=
 (cond (decide (a<0)) (Bw N (wrap .u64 ((0:Int) - (wrap .u64 a))) (fun b c=>(Ir N true b c (fun f=>(r0 f b c))))) (Bw N (wrap .u64 a) (fun d e=>(Ir N false d e (fun g=>(r0 g d e))))))
def Wd:=(Ah (fun (N:Nat) (a:Int) (r0:Bool→Nat→LA→O R)=>(cF N r0 a))).1
theorem cG (a r0):(@Wd R N a r0)=(cF N r0 a):=by rw[Wd,(Ah _).2]
def Ajc:Hints:={ H:=hL }
def Apu:Ek:=[(149,Fk N),(148,T8 N)]
def jC (F:KF R):Bool→Nat→LA→O R:=(fun i l m=>F (.agg [(.bool i),(.own 300000 0 l)]) [(300000,(bQ 1 m))])
theorem jD (a:Int) (F:KF R):Cn (Apu N) Ajc N 104 [(.int .i64 a)] [] F=(Wd N a (jC F)):=by
 rw[cG]
 kernel_rfl
def cH (args:List AV) (h:Am) (k:KF R):O R :=
 match args,h with
 | [(.int .i64 a)],[]=>(Wd N a (jC k))
 | _,_=>none
theorem jE:Aq N 104 @cH:=by
 intro R Q args h k j;unfold cH;split
 exact A2 (jD ..) (jD ..) ⟨Hg N,CN N,trivial⟩
 exact A5
def jF:=A4 (jE N)
theorem Ajd:A1 Tryz.prog 104 (jF N):=A6 (jE N) follows
def cI (r0:LA→O R) (a:Int):O R :=
 (Wd N a (fun c b d=>(r0 [(.bool c),(.imm (d.take (b*1)) b 1 false false),(.imm [(.int .u32 1)] 1 1 false false)])))
def Dr:=(Ah (fun (N:Nat) (a:Int) (r0:LA→O R)=>(cI N r0 a))).1
theorem cJ (a r0):(@Dr R N a r0)=(cI N r0 a):=by rw[Dr,(Ah _).2]
def Aje:Hints:={ H:=hL,modes:=[(3,0)] }
def Apv:Ek:=[(104,jF N)]
def jG (F:KF R):LA→O R:=(fun e=>F (.pagg e false) [])
theorem jH (a:Int) (F:KF R):Cn (Apv N) Aje N 60 [(.int .i64 a)] [] F=(Dr N a (jG F)):=by
 rw[cJ]
 kernel_rfl
def cL (args:List AV) (h:Am) (k:KF R):O R :=
 match args,h with
 | [(.int .i64 a)],[]=>(Dr N a (jG k))
 | _,_=>none
theorem jI:Aq N 60 @cL:=by
 intro R Q args h k j;unfold cL;split
 exact A2 (jH ..) (jH ..) ⟨Ajd N,trivial⟩
 exact A5
def Q6:=A4 (jI N)
theorem Xc:A1 Tryz.prog 60 (Q6 N):=A6 (jI N) follows
def Xd (N:Nat) (r0:LA→Nat→O R) (d:LA) (a:Nat) (e b:Bool) (k0:Int→O R) (c:Int):O R :=
 (cond ((decide (c>0))==true) (cond (Ad (wrap .i64 (c - 1)) a) (Ao .u32 (d.drop (((wrap .i64 (c - 1)).toNat)*1)) fun f=>(cond (cond true (f==0) false) (k0 (wrap .i64 (c - 1))) (cond ((decide ((0:Int)≤(0:Int)))&&((decide (0≤c))&&((decide (c≤((a:Nat):Int)))&&(decide (((a:Nat):Int)≤((a:Nat):Int)))))) (r0 (d.take ((c.toNat)*1)) (c.toNat)) none))) none) (cond ((decide ((0:Int)≤(0:Int)))&&((decide (0≤c))&&((decide (c≤((a:Nat):Int)))&&(decide (((a:Nat):Int)≤((a:Nat):Int)))))) (r0 (d.take ((c.toNat)*1)) (c.toNat)) none))
def Lp (r0:LA→Nat→O R) (d:LA) (a:Nat) (e b:Bool):Nat→Int→O R
 | 0,_=>none
 | n+1,c=>(Xd N r0 d a e b (Lp r0 d a e b n) c)
def TF (N:Nat) (r0:LA→Nat→O R) (q0:Int→O R) (d:LA) (a:Nat) (e b:Bool):O R :=
 (q0 ((a:Nat):Int))
def Ci:=(Ah (fun (N:Nat) (d:LA) (a:Nat) (e b:Bool) (r0:LA→Nat→O R)=>(TF N r0 (fun c=>(Lp N r0 d a e b N c)) d a e b))).1
theorem jJ (d a e b r0):(@Ci R N d a e b r0)=(TF N r0 (fun c=>(Lp N r0 d a e b N c)) d a e b):=by rw[Ci,(Ah _).2]
def oQ:Hints:={ H:=(hS hL (hS hL (hS (hS (hP [0,3] hL) hL) hL))),nils:=[(2,1)],modes:=[(2,1)] }
def Apw (F:KF R):=Kk Tryz.f171 oQ [] [] N F
def Lq (b:Bool) (F:KF R):LA→Nat→O R:=(fun g i=>F (.imm g i 1 false b) [])
def Apx (d:LA) (a:Nat) (e b:Bool) (c:Int):St:=⟨[(0,(.imm d a 1 e b)),(3,(.int .i64 c))],[]⟩
def Apy (F:KF R):=Apw N F [1,1,0,0] []
theorem WR (F:KF R) (d:LA) (a:Nat) (e b:Bool):∀ (n:Nat) (c:Int),Ap (Apy N F) n (Apx d a e b c)=(Lp N (Lq b F) d a e b n c)
 | 0,_=>by kernel_rfl
 | n+1,c=>Eq.trans (by kernel_rfl) (Bs (Xd N (Lq b F) d a e b · c) (funext fun c=>(WR F d a e b n c)):_)
theorem Pz (d:LA) (a:Nat) (e b:Bool) (F:KF R):Cn [] oQ N 171 [(.imm d a 1 e b)] [] F=(Ci N d a e b (Lq b F)):=by
 rw[jJ]
 exact Eq.trans (by kernel_rfl) (Bs (TF N (Lq b F) · d a e b) (funext fun c=>(Ak ..).trans (WR N F d a e b N c)):_)
def jK (args:List AV) (h:Am) (k:KF R):O R :=
 match args,h with
 | [(.imm d a 1 e b)],[]=>(Ci N d a e b (Lq b k))
 | _,_=>none
theorem oR:Aq N 171 @jK:=by
 intro R Q args h k j;unfold jK;split
 exact A2 (Pz ..) (Pz ..) trivial
 exact A5
def P0:=A4 (oR N)
theorem T9:A1 Tryz.prog 171 (P0 N):=A6 (oR N) follows
def jL (N:Nat) (r0:LA→O R) (k0:O R):O R :=
 (r0 [])
def Ua (r0:LA→O R):Nat→O R
 | 0=>none
 | n+1=>(jL N r0 (Ua r0 n))
def TG (N:Nat) (r0:LA→O R) (q0:O R):O R :=
 q0
def DV:=(Ah (fun (N:Nat) (r0:LA→O R)=>(TG N r0 (Ua N r0 N)))).1
theorem jM (r0):(@DV R N r0)=(TG N r0 (Ua N r0 N)):=by rw[DV,(Ah _).2]
def oS:Hints:={ H:=(hS hL (hS hL (hS (hS (hP [0,3] hL) hL) hL))),nils:=[(2,1)],modes:=[(2,1)] }
def Apz (F:KF R):=Kk Tryz.f171 oS [] [] N F
def Ub (F:KF R):LA→O R:=(fun a=>F (.own 300000 0 0) [(300000,(bQ 1 a))])
def Ap0:St:=⟨[(0,.nsl),(3,(.int .i64 0))],[]⟩
def Ap1 (F:KF R):=Apz N F [1,1,0,0] []
theorem WS (F:KF R):∀ (n:Nat) ,Ap (Ap1 N F) n Ap0=(Ua N (Ub F) n)
 | 0=>by kernel_rfl
 | n+1=>Eq.trans (by kernel_rfl) (Bs (jL N (Ub F) ·) (WS F n):_)
theorem oT (F:KF R):Cn [] oS N 171 [.nsl] [] F=(DV N (Ub F)):=by
 rw[jM]
 exact Eq.trans (by kernel_rfl) (Bs (TG N (Ub F) ·) ((Ak ..).trans (WS N F N)):_)
def FA (N:Nat) (r0:Int→O R) (d:LA) (c:Nat) (a:Bool) (e:LA) (k0:Int→O R) (b:Int):O R :=
 (cond (decide (b≥0)) (cond (Ad b c) (Ao .u32 (d.drop ((b.toNat)*1)) fun l=>(cond (Ad b 0) (Ao .u32 (e.drop (0+((b.toNat)*1))) fun m=>(cond (decide (l<m)) (r0 (-1)) (cond (Ad b c) (Ao .u32 (d.drop ((b.toNat)*1)) fun o=>(cond (Ad b 0) (Ao .u32 (e.drop (0+((b.toNat)*1))) fun p=>(cond (decide (o>p)) (r0 1) (k0 (wrap .i64 (b - 1))))) none)) none))) none)) none) (r0 0))
def Q8 (r0:Int→O R) (d:LA) (c:Nat) (a:Bool) (e:LA):Nat→Int→O R
 | 0,_=>none
 | n+1,b=>(FA N r0 d c a e (Q8 r0 d c a e n) b)
def JK (r0:Int→O R) (q0:LA→Nat→LA→Int→O R) (f:LA) (g:Nat) (i a:Bool):O R :=
 (Ci N f g i a (fun d c=>(DV N (fun e=>(cond (((c:Nat):Int) != 0) (cond (decide (((c:Nat):Int)<0)) (r0 (-1)) (r0 1)) (q0 d c e (wrap .i64 (((c:Nat):Int) - 1))))))))
def Sh:=(Ah (fun (N:Nat) (f:LA) (g:Nat) (i a:Bool) (r0:Int→O R)=>(JK N r0 (fun d c e b=>(Q8 N r0 d c a e N b)) f g i a))).1
theorem cM (f g i a r0):(@Sh R N f g i a r0)=(JK N r0 (fun d c e b=>(Q8 N r0 d c a e N b)) f g i a):=by rw[Sh,(Ah _).2]
def jN:Hints:={ H:=(hS hL (hS hL (hS hL (hS (hS hL (hS (hP [0,1,5] hL) hL)) hL)))) }
def Nr (args:List AV) (h:Am) (k:KF R):O R :=
 match args,h with
 | [(.imm f g 1 i a)],[]=>(Ci N f g i a (Lq a k))
 | [.nsl],[]=>(DV N (Ub k))
 | _,_=>none
theorem Oi:Aq N 171 @Nr:=by
 intro R Q args h k j;unfold Nr;split
 exact A2 (Pz ..) (Pz ..) trivial
 exact A2 (oT ..) (oT ..) trivial
 exact A5
def Oj:=A4 (Oi N)
theorem FB:A1 Tryz.prog 171 (Oj N):=A6 (Oi N) follows
def oU:Ek:=[(171,Oj N)]
def Ajf (F:KF R):=Kk Tryz.f132 jN (oU N) [] N F
def Ra (F:KF R):Int→O R:=(fun q=>F (.int .i64 q) [])
def Ajg (d:LA) (c:Nat) (a:Bool) (e:LA) (b:Int):St:=⟨[(0,(.imm d c 1 false a)),(1,(.own 300000 0 0)),(5,(.int .i64 b))],[(300000,(bQ 1 e))]⟩
def Ajh (F:KF R):=Ajf N F [1,1,1,0,1,0] []
theorem OJ (F:KF R) (d:LA) (c:Nat) (a:Bool) (e:LA):∀ (n:Nat) (b:Int),Ap (Ajh N F) n (Ajg d c a e b)=(Q8 N (Ra F) d c a e n b)
 | 0,_=>by kernel_rfl
 | n+1,b=>Eq.trans (by kernel_rfl) (Bs (FA N (Ra F) d c a e · b) (funext fun b=>(OJ F d c a e n b)):_)
theorem jO (f:LA) (g:Nat) (i a:Bool) (F:KF R):Cn (oU N) jN N 132 [(.imm f g 1 i a),.nsl] [] F=(Sh N f g i a (Ra F)):=by
 rw[cM]
 exact Eq.trans (by kernel_rfl) (Bs (JK N (Ra F) · f g i a) (funext fun d=>funext fun c=>funext fun e=>funext fun b=>(Ak ..).trans (OJ N F d c a e N b)):_)
def cN (args:List AV) (h:Am) (k:KF R):O R :=
 match args,h with
 | [(.imm f g 1 i a),.nsl],[]=>(Sh N f g i a (Ra k))
 | _,_=>none
theorem jP:Aq N 132 @cN:=by
 intro R Q args h k j;unfold cN;split
 exact A2 (jO ..) (jO ..) ⟨FB N,trivial⟩
 exact A5
def MU:=A4 (jP N)
theorem jQ:A1 Tryz.prog 132 (MU N):=A6 (jP N) follows
def gK (r0:LA→Bool→LA→Nat→Bool→O R) (a:LA) (b:Bool):O R :=
 (Ct 1 (a.drop 2) fun c d=>(Sh N c d false b (fun e=>(cond (e==0) (r0 [(.bool false),.nsl] false [(.int .u32 1)] 1 false) (cond (Nat.ble 2 (a.length)) (Ct 1 (a.drop 2) fun f g=>(cond ((Nat.beq 0 0)&&((Nat.beq ((a.take 2).length) 2)&&(Nat.beq 2 2))) (cond (Nat.ble 2 ((a.take 2).length)) (r0 ((a.take 2).take 2) b f g b) none) none)) none)))))
def Kl:=(Ah (fun (N:Nat) (a:LA) (b:Bool) (r0:LA→Bool→LA→Nat→Bool→O R)=>(gK N r0 a b))).1
theorem TH (a b r0):(@Kl R N a b r0)=(gK N r0 a b):=by rw[Kl,(Ah _).2]
def Aui:Hints:={ H:=hL,nils:=[(3,1)],modes:=[(3,0),(1,1)] }
def Ayz:Ek:=[(132,MU N)]
def v8 (F:KF R):LA→Bool→LA→Nat→Bool→O R:=(fun i l m n o=>F (.tup [(.pagg i l),(.imm m n 1 false o)]) [])
theorem v9 (a:LA) (b:Bool) (F:KF R):Cn (Ayz N) Aui N 101 [(.pagg a b)] [] F=(Kl N a b (v8 F)):=by
 rw[TH]
 kernel_rfl
def oV (args:List AV) (h:Am) (k:KF R):O R :=
 match args,h with
 | [(.pagg a b)],[]=>(Kl N a b (v8 k))
 | _,_=>none
theorem v_:Aq N 101 @oV:=by
 intro R Q args h k j;unfold oV;split
 exact A2 (v9 ..) (v9 ..) ⟨jQ N,trivial⟩
 exact A5
def Td:=A4 (v_ N)
theorem Yn:A1 Tryz.prog 101 (Td N):=A6 (v_ N) follows
def Ach (r0:Int→O R) (a:LA) (b:Bool):O R :=
 (Ct 1 (a.drop 1) fun c d=>(Sh N c d false b (fun e=>(cond (e==0) (r0 0) (N_ a fun f=>(cond f (r0 (-1)) (r0 1)))))))
def JL:=(Ah (fun (N:Nat) (a:LA) (b:Bool) (r0:Int→O R)=>(Ach N r0 a b))).1
theorem va (a b r0):(@JL R N a b r0)=(Ach N r0 a b):=by rw[JL,(Ah _).2]
def Ay0:Hints:={ H:=hL }
def A3s:Ek:=[(132,MU N)]
def Aci (F:KF R):Int→O R:=(fun g=>F (.int .i64 g) [])
theorem Acj (a:LA) (b:Bool) (F:KF R):Cn (A3s N) Ay0 N 144 [(.pagg a b)] [] F=(JL N a b (Aci F)):=by
 rw[va]
 kernel_rfl
def vd (args:List AV) (h:Am) (k:KF R):O R :=
 match args,h with
 | [(.pagg a b)],[]=>(JL N a b (Aci k))
 | _,_=>none
theorem Ack:Aq N 144 @vd:=by
 intro R Q args h k j;unfold vd;split
 exact A2 (Acj ..) (Acj ..) ⟨jQ N,trivial⟩
 exact A5
def lj:=A4 (Ack N)
theorem Acl:A1 Tryz.prog 144 (lj N):=A6 (Ack N) follows
def Acm (r0:Int→O R) (a:LA) (b:Bool):O R :=
 (cond (Nat.ble 3 (a.length)) (Kl N (a.take 3) b (fun c d g i l=>(cond ((Nat.beq 0 0)&&((Nat.beq (c.length) 2)&&(Nat.beq 2 2))) (cond (Nat.ble 2 (c.length)) (JL N (c.take 2) d (fun e=>(r0 e))) none) none))) none)
def Xe:=(Ah (fun (N:Nat) (a:LA) (b:Bool) (r0:Int→O R)=>(Acm N r0 a b))).1
theorem ve (a b r0):(@Xe R N a b r0)=(Acm N r0 a b):=by rw[Xe,(Ah _).2]
def Ay1:Hints:={ H:=hL }
def A3t:Ek:=[(101,Td N),(144,lj N)]
def Acn (F:KF R):Int→O R:=(fun f=>F (.int .i64 f) [])
theorem Aco (a:LA) (b:Bool) (F:KF R):Cn (A3t N) Ay1 N 95 [(.pagg a b)] [] F=(Xe N a b (Acn F)):=by
 rw[ve]
 kernel_rfl
def vf (args:List AV) (h:Am) (k:KF R):O R :=
 match args,h with
 | [(.pagg a b)],[]=>(Xe N a b (Acn k))
 | _,_=>none
theorem Acp:Aq N 95 @vf:=by
 intro R Q args h k j;unfold vf;split
 exact A2 (Aco ..) (Aco ..) ⟨Yn N,Acl N,trivial⟩
 exact A5
def TI:=A4 (Acp N)
theorem lk:A1 Tryz.prog 95 (TI N):=A6 (Acp N) follows
def FC (N:Nat) (r0:Bool→O R) (a:Int):O R :=
 (r0 (a != a))
def Na:=(Ah (fun (N:Nat) (a:Int) (r0:Bool→O R)=>(FC N r0 a))).1
theorem JM (a r0):(@Na R N a r0)=(FC N r0 a):=by rw[Na,(Ah _).2]
def sT:Hints:={ H:=hL }
def OK (F:KF R):Bool→O R:=(fun b=>F (.bool b) [])
theorem OL (a:Int) (F:KF R):Cn [] sT N 145 [(.int .i64 a)] [] F=(Na N a (OK F)):=by
 rw[JM]
 kernel_rfl
def JN (args:List AV) (h:Am) (k:KF R):O R :=
 match args,h with
 | [(.int .i64 a)],[]=>(Na N a (OK k))
 | _,_=>none
theorem OM:Aq N 145 @JN:=by
 intro R Q args h k j;unfold JN;split
 exact A2 (OL ..) (OL ..) trivial
 exact A5
def ON:=A4 (OM N)
theorem sU:A1 Tryz.prog 145 (ON N):=A6 (OM N) follows
def We (r0:Int→O R) (a b:Int):O R :=
 (Na N a (fun d=>(Na N b (fun c=>(cond d (cond c (r0 0) (r0 (-1))) (cond c (r0 1) (cond (decide (a<b)) (r0 (-1)) (cond (decide (a>b)) (r0 1) (r0 0)))))))))
def Is:=(Ah (fun (N:Nat) (a b:Int) (r0:Int→O R)=>(We N r0 a b))).1
theorem AO (a b r0):(@Is R N a b r0)=(We N r0 a b):=by rw[Is,(Ah _).2]
def lm:Hints:={ H:=hL }
def oW:Ek:=[(145,ON N)]
def FD (F:KF R):Int→O R:=(fun e=>F (.int .i64 e) [])
theorem FE (a b:Int) (F:KF R):Cn (oW N) lm N 98 [(.int .i64 a),(.int .i64 b)] [] F=(Is N a b (FD F)):=by
 rw[AO]
 kernel_rfl
def AP (args:List AV) (h:Am) (k:KF R):O R :=
 match args,h with
 | [(.int .i64 a),(.int .i64 b)],[]=>(Is N a b (FD k))
 | _,_=>none
theorem FF:Aq N 98 @AP:=by
 intro R Q args h k j;unfold AP;split
 exact A2 (FE ..) (FE ..) ⟨sU N,trivial⟩
 exact A5
def FG:=A4 (FF N)
theorem ln:A1 Tryz.prog 98 (FG N):=A6 (FF N) follows
def Lf (N:Nat) (r0:Int→O R) (b:LA) (a:Nat) (c d:Bool) (k0:Int→Int→Int→O R) (f g e:Int):O R :=
 (cond (decide (e<g)) (cond (Ad e a) (Ao .u32 (b.drop ((e.toNat)*1)) fun i=>(cond (decide ((wrap .i64 (32*e))<0)) none (k0 (Ta .u64 f (wrap .u64 ((wrap .u64 i)*2 ^ (min ((wrap .i64 (32*e)).toNat) 64)))) g (wrap .i64 (e+1))))) none) (r0 f))
def Jo (r0:Int→O R) (b:LA) (a:Nat) (c d:Bool):Nat→Int→Int→Int→O R
 | 0,_,_,_=>none
 | n+1,f,g,e=>(Lf N r0 b a c d (Jo r0 b a c d n) f g e)
def oX (N:Nat) (r0:Int→O R) (q0:Int→Int→Int→O R) (b:LA) (a:Nat) (c d:Bool):O R :=
 (q0 0 ((a:Nat):Int) 0)
def Rs:=(Ah (fun (N:Nat) (b:LA) (a:Nat) (c d:Bool) (r0:Int→O R)=>(oX N r0 (fun f g e=>(Jo N r0 b a c d N f g e)) b a c d))).1
theorem vg (b a c d r0):(@Rs R N b a c d r0)=(oX N r0 (fun f g e=>(Jo N r0 b a c d N f g e)) b a c d):=by rw[Rs,(Ah _).2]
def Acq:Hints:={ H:=(hS hL (hS hL (hS (hS hL (hS (hP [3,6,7,8] hL) hL)) hL))) }
def Ay2 (F:KF R):=Kk Tryz.f181 Acq [] [] N F
def FH (F:KF R):Int→O R:=(fun l=>F (.int .u64 l) [])
def Ay3 (b:LA) (a:Nat) (c d:Bool) (f g e:Int):St:=⟨[(3,(.int .u64 f)),(6,(.imm b a 1 c d)),(7,(.int .i64 g)),(8,(.int .i64 e))],[]⟩
def Ay4 (F:KF R):=Ay2 N F [1,1,0,1,0] []
theorem jR (F:KF R) (b:LA) (a:Nat) (c d:Bool):∀ (n:Nat) (f g e:Int),Ap (Ay4 N F) n (Ay3 b a c d f g e)=(Jo N (FH F) b a c d n f g e)
 | 0,_,_,_=>by kernel_rfl
 | n+1,f,g,e=>Eq.trans (by kernel_rfl) (Bs (Lf N (FH F) b a c d · f g e) (funext fun f=>funext fun g=>funext fun e=>(jR F b a c d n f g e)):_)
theorem Acr (b:LA) (a:Nat) (c d:Bool) (F:KF R):Cn [] Acq N 181 [(.imm b a 1 c d)] [] F=(Rs N b a c d (FH F)):=by
 rw[vg]
 exact Eq.trans (by kernel_rfl) (Bs (oX N (FH F) · b a c d) (funext fun f=>funext fun g=>funext fun e=>(Ak ..).trans (jR N F b a c d N f g e)):_)
def vh (args:List AV) (h:Am) (k:KF R):O R :=
 match args,h with
 | [(.imm b a 1 c d)],[]=>(Rs N b a c d (FH k))
 | _,_=>none
theorem Acs:Aq N 181 @vh:=by
 intro R Q args h k j;unfold vh;split
 exact A2 (Acr ..) (Acr ..) trivial
 exact A5
def TJ:=A4 (Acs N)
theorem lp:A1 Tryz.prog 181 (TJ N):=A6 (Acs N) follows
def lq (r0:Int→Bool→O R) (b:LA) (c:Nat) (d a:Bool):O R :=
 (Ci N b c d a (fun f e=>(cond (decide (((e:Nat):Int)>2)) (r0 0 false) (Rs N f e false a (fun g=>(r0 g true))))))
def Wf:=(Ah (fun (N:Nat) (b:LA) (c:Nat) (d a:Bool) (r0:Int→Bool→O R)=>(lq N r0 b c d a))).1
theorem jS (b c d a r0):(@Wf R N b c d a r0)=(lq N r0 b c d a):=by rw[Wf,(Ah _).2]
def Ap2:Hints:={ H:=hL }
def Auj:Ek:=[(171,P0 N),(181,TJ N)]
def oY (F:KF R):Int→Bool→O R:=(fun i l=>F (.tup [(.int .u64 i),(.bool l)]) [])
theorem oZ (b:LA) (c:Nat) (d a:Bool) (F:KF R):Cn (Auj N) Ap2 N 146 [(.imm b c 1 d a)] [] F=(Wf N b c d a (oY F)):=by
 rw[jS]
 kernel_rfl
def jT (args:List AV) (h:Am) (k:KF R):O R :=
 match args,h with
 | [(.imm b c 1 d a)],[]=>(Wf N b c d a (oY k))
 | _,_=>none
theorem o0:Aq N 146 @jT:=by
 intro R Q args h k j;unfold jT;split
 exact A2 (oZ ..) (oZ ..) ⟨T9 N,lp N,trivial⟩
 exact A5
def o7:=A4 (o0 N)
theorem Ap3:A1 Tryz.prog 146 (o7 N):=A6 (o0 N) follows
def F8 (N:Nat) (r0:Int→Int→Bool→O R) (d c:Int) (b:Bool) (a:LA) (e:Bool):O R :=
 (cond e (r0 0 0 false) (cond (c==0) (r0 0 1 true) (N_ a fun f=>(cond f (r0 (wrap .i64 ((0:Int) - (wrap .i64 d))) (wrap .i64 c) true) (r0 (wrap .i64 d) (wrap .i64 c) true)))))
def DW (r0:Int→Int→Bool→O R) (q0:Int→Int→Bool→O R) (a:LA) (b:Bool):O R :=
 (Ct 1 (a.drop 1) fun g i=>(Wf N g i false b (fun d l=>(Ct 1 (a.drop 2) fun m n=>(Wf N m n false b (fun c o=>(cond ((!l)==false) (cond ((cond false true (!o))==false) (cond ((cond false true (decide (d≥2147483648)))==false) (q0 d c (cond false true (decide (c≥2147483648)))) (q0 d c true)) (q0 d c true)) (q0 d c true))))))))
def Gy:=(Ah (fun (N:Nat) (a:LA) (b:Bool) (r0:Int→Int→Bool→O R)=>(DW N r0 (fun d c e=>(F8 N r0 d c b a e)) a b))).1
theorem CO (a b r0):(@Gy R N a b r0)=(DW N r0 (fun d c e=>(F8 N r0 d c b a e)) a b):=by rw[Gy,(Ah _).2]
def vj:Hints:={ H:=(hS hL (hS hL (hS hL (hS (hS (hJ [1,5,6,21] hL hL) hL) hL)))) }
def Acu:Ek:=[(146,o7 N)]
def Auk (F:KF R):=Kk Tryz.f99 vj (Acu N) [] N F
def JO (F:KF R):Int→Int→Bool→O R:=(fun p q r=>F (.tup [(.int .i64 p),(.int .i64 q),(.bool r)]) [])
def Aul (d c:Int) (b:Bool) (a:LA) (e:Bool):St:=⟨[(1,(.optr 300000 0)),(5,(.int .u64 d)),(6,(.int .u64 c)),(21,(.bool e))],[(300000,(bP b 0 a))]⟩
def Aum (F:KF R):=Auk N F [1,1,1,0,0,1] []
theorem Acv (F:KF R) (d c:Int) (b:Bool) (a:LA):∀ (e:Bool),Bb (Aum N F) (Aul d c b a e)=(F8 N (JO F) d c b a e):=by
 intro e
 kernel_rfl
theorem vn (a:LA) (b:Bool) (F:KF R):Cn (Acu N) vj N 99 [(.pagg a b)] [] F=(Gy N a b (JO F)):=by
 rw[CO]
 exact Eq.trans (by kernel_rfl) (Bs (DW N (JO F) · a b) (funext fun d=>funext fun c=>funext fun e=>(As ..).trans (Acv N F d c b a e)):_)
def o8 (args:List AV) (h:Am) (k:KF R):O R :=
 match args,h with
 | [(.pagg a b)],[]=>(Gy N a b (JO k))
 | _,_=>none
theorem vq:Aq N 99 @o8:=by
 intro R Q args h k j;unfold o8;split
 exact A2 (vn ..) (vn ..) ⟨Ap3 N,trivial⟩
 exact A5
def Yo:=A4 (vq N)
theorem JP:A1 Tryz.prog 99 (Yo N):=A6 (vq N) follows
def Wg (N:Nat) (r0:Bool→O R) (a:Int):O R :=
 (r0 (a != a))
def It:=(Ah (fun (N:Nat) (a:Int) (r0:Bool→O R)=>(Wg N r0 a))).1
theorem AQ (a r0):(@It R N a r0)=(Wg N r0 a):=by rw[It,(Ah _).2]
def lw:Hints:={ H:=hL }
def FI (F:KF R):Bool→O R:=(fun b=>F (.bool b) [])
theorem FJ (a:Int) (F:KF R):Cn [] lw N 147 [(.int .i64 a)] [] F=(It N a (FI F)):=by
 rw[AQ]
 kernel_rfl
def AR (args:List AV) (h:Am) (k:KF R):O R :=
 match args,h with
 | [(.int .i64 a)],[]=>(It N a (FI k))
 | _,_=>none
theorem FK:Aq N 147 @AR:=by
 intro R Q args h k j;unfold AR;split
 exact A2 (FJ ..) (FJ ..) trivial
 exact A5
def FL:=A4 (FK N)
theorem mA:A1 Tryz.prog 147 (FL N):=A6 (FK N) follows
def Si (r0:Int→O R) (a b:Int):O R :=
 (It N a (fun d=>(It N b (fun c=>(cond d (cond c (r0 0) (r0 (-1))) (cond c (r0 1) (cond (decide (a<b)) (r0 (-1)) (cond (decide (a>b)) (r0 1) (r0 0)))))))))
def Gf:=(Ah (fun (N:Nat) (a b:Int) (r0:Int→O R)=>(Si N r0 a b))).1
theorem Vh (a b r0):(@Gf R N a b r0)=(Si N r0 a b):=by rw[Gf,(Ah _).2]
def cO:Hints:={ H:=hL }
def gw:Ek:=[(147,FL N)]
def Yp (F:KF R):Int→O R:=(fun e=>F (.int .i64 e) [])
theorem Yq (a b:Int) (F:KF R):Cn (gw N) cO N 100 [(.int .i64 a),(.int .i64 b)] [] F=(Gf N a b (Yp F)):=by
 rw[Vh]
 kernel_rfl
def Vi (args:List AV) (h:Am) (k:KF R):O R :=
 match args,h with
 | [(.int .i64 a),(.int .i64 b)],[]=>(Gf N a b (Yp k))
 | _,_=>none
theorem Yr:Aq N 100 @Vi:=by
 intro R Q args h k j;unfold Vi;split
 exact A2 (Yq ..) (Yq ..) ⟨mA N,trivial⟩
 exact A5
def Ys:=A4 (Yr N)
theorem cP:A1 Tryz.prog 100 (Ys N):=A6 (Yr N) follows
def TK (N:Nat) (k1:Nat→Int→Int→LA→O R) (r0:Nat→LA→O R) (e:LA) (a:Nat) (d:Bool) (i:Nat) (f q:Int) (g:LA) (c:Nat) (b:Bool) (l:Int) (k2:Int→Int→Int→LA→O R) (r s m:Int) (p:LA):O R :=
 (cond (decide (m<s)) (cond (Ad m a) (Ao .u32 (e.drop ((m.toNat)*1)) fun z=>(cond (Ad (wrap .i64 (f+m)) i) (Ao .u32 (p.drop (0+(((wrap .i64 (f+m)).toNat)*1))) fun aa=>(cond (Ad (wrap .i64 (f+m)) i) (cond ((Nat.beq 1 1)&&((Nat.ble ((0+(((wrap .i64 (f+m)).toNat)*1))+1) (p.length))&&(!false))) (k2 (Int.fdiv (wrap .u64 (r+(wrap .u64 ((wrap .u64 ((wrap .u64 q)*(wrap .u64 z)))+(wrap .u64 aa))))) (2 ^ 32)) s (wrap .i64 (m+1)) (p.set (0+(((wrap .i64 (f+m)).toNat)*1)) (.int .u32 (wrap .u32 (wrap .u64 (r+(wrap .u64 ((wrap .u64 ((wrap .u64 q)*(wrap .u64 z)))+(wrap .u64 aa))))))))) none) none)) none)) none) (cond (Ad (wrap .i64 (f+((a:Nat):Int))) i) (cond ((Nat.beq 1 1)&&((Nat.ble ((0+(((wrap .i64 (f+((a:Nat):Int))).toNat)*1))+1) (p.length))&&(!false))) (k1 i l (wrap .i64 (f+1)) (p.set (0+(((wrap .i64 (f+((a:Nat):Int))).toNat)*1)) (.int .u32 (wrap .u32 r)))) none) none))
def Wh (k1:Nat→Int→Int→LA→O R) (r0:Nat→LA→O R) (e:LA) (a:Nat) (d:Bool) (i:Nat) (f q:Int) (g:LA) (c:Nat) (b:Bool) (l:Int):Nat→Int→Int→Int→LA→O R
 | 0,_,_,_,_=>none
 | n+1,r,s,m,p=>(TK N k1 r0 e a d i f q g c b l (Wh k1 r0 e a d i f q g c b l n) r s m p)
def FM (r0:Nat→LA→O R) (e:LA) (a:Nat) (d:Bool) (g:LA) (c:Nat) (b:Bool) (k1:Nat→Int→Int→LA→O R) (q2:Int→Int→Int→Int→LA→O R) (i:Nat) (l f:Int) (o:LA):O R :=
 (cond (decide (f<l)) (cond (Ad f c) (Ao .u32 (g.drop ((f.toNat)*1)) fun q=>(cond (q==0) (k1 i l (wrap .i64 (f+1)) o) (q2 q 0 ((a:Nat):Int) 0 o))) none) (Wc N i o (fun ac=>(r0 ac o))))
def P3 (r0:Nat→LA→O R) (e:LA) (a:Nat) (d:Bool) (g:LA) (c:Nat) (b:Bool):Nat→Nat→Int→Int→LA→O R
 | 0,_,_,_,_=>none
 | n+1,i,l,f,o=>(FM N r0 e a d g c b (P3 r0 e a d g c b n) (fun q r s m p=>(Wh N (P3 r0 e a d g c b n) r0 e a d i f q g c b l N r s m p)) i l f o)
def mB (N:Nat) (r0:Nat→LA→O R) (g:LA) (c:Nat) (b:Bool) (e:LA) (a:Nat) (d:Bool) (q1:Nat→Int→Int→LA→O R):O R :=
 (cond ((decide (0≤(wrap .i64 (((c:Nat):Int)+((a:Nat):Int)))))&&((decide ((wrap .i64 (((c:Nat):Int)+((a:Nat):Int)))≤(wrap .i64 (((c:Nat):Int)+((a:Nat):Int)))))&&((decide ((wrap .i64 (((c:Nat):Int)+((a:Nat):Int)))≤140737488355328))&&(decide (((wrap .i64 (((c:Nat):Int)+((a:Nat):Int)))*((4:Nat):Int))≤140737488355328))))) (q1 ((wrap .i64 (((c:Nat):Int)+((a:Nat):Int))).toNat) ((c:Nat):Int) 0 (List.replicate ((wrap .i64 (((c:Nat):Int)+((a:Nat):Int))).toNat) (.int .u32 0))) none)
def gL (r0:Nat→LA→O R) (g:LA) (c:Nat) (b:Bool) (e:LA) (a:Nat) (d:Bool):O R:=(mB N r0 g c b e a d (fun i l f o=>(P3 N r0 e a d g c b N i l f o)))
def gM (r0:Nat→LA→O R) (q0:LA→Nat→LA→Nat→O R) (u:LA) (t:Nat) (v b:Bool) (w:LA) (x:Nat) (y d:Bool):O R :=
 (Ci N u t v b (fun g c=>(Ci N w x y d (fun e a=>(cond ((((c:Nat):Int)==0)==false) (cond (cond false true (((a:Nat):Int)==0)) (r0 0 []) (q0 g c e a)) (r0 0 []))))))
def MV:=(Ah (fun (N:Nat) (u:LA) (t:Nat) (v b:Bool) (w:LA) (x:Nat) (y d:Bool) (r0:Nat→LA→O R)=>(gM N r0 (fun g c e a=>(gL N r0 g c b e a d)) u t v b w x y d))).1
theorem TL (u t v b w x y d r0):(@MV R N u t v b w x y d r0)=(gM N r0 (fun g c e a=>(gL N r0 g c b e a d)) u t v b w x y d):=by rw[MV,(Ah _).2]
def Al1:Hints:={ H:=(hS hL (hS hL (hJ [0,1] hL (hS hL (hS (hS hL (hS (hP [1,5,29,30,31] (hS hL (hS hL (hS (hS (hS hL (hS hL (hS hL (hS (hS hL (hS (hP [1,5,6,7,8,29,30,31,38,39,40] hL) hL)) hL)))) hL) hL)))) hL)) hL))))),nils:=[(4,1)],modes:=[(2,1)] }
def Rb (args:List AV) (h:Am) (k:KF R):O R :=
 match args,h with
 | [(.imm u t 1 v b)],[]=>(Ci N u t v b (Lq b k))
 | [(.own 100000 0 t)],[(100000,⟨false,false,true,false,1,ab,false⟩)]=>(Wc N t ab (DU ab k))
 | _,_=>none
theorem Te:Aq N 171 @Rb:=by
 intro R Q args h k j;unfold Rb;split
 exact A2 (Pz ..) (Pz ..) trivial
 exact A2 (gI ..) (gI ..) trivial
 exact A5
def Ec:=A4 (Te N)
theorem Gg:A1 Tryz.prog 171 (Ec N):=A6 (Te N) follows
def Aun:Ek:=[(171,Ec N)]
def sV (F:KF R):=Kk Tryz.f135 Al1 (Aun N) [] N F
def Nb (F:KF R):Nat→LA→O R:=(fun ad ae=>F (.own 300000 0 ad) [(300000,(bQ 1 ae))])
def A3u (e:LA) (a:Nat) (d:Bool) (i:Nat) (f q:Int) (g:LA) (c:Nat) (b:Bool) (l r s m:Int) (p:LA):St:=⟨[(1,(.imm e a 1 false d)),(5,(.own 300000 0 i)),(6,(.int .i64 f)),(7,(.int .u32 q)),(8,(.int .u64 r)),(29,(.imm g c 1 false b)),(30,(.int .i64 l)),(31,(.int .i64 f)),(38,(.imm e a 1 false d)),(39,(.int .i64 s)),(40,(.int .i64 m))],[(300000,(bQ 1 p))]⟩
def A3v (F:KF R) (Q1:St→O R):=sV N F [1,1,1,1,0,1,0,0,1,1,0,0,1,1,1,0,1,0] [Q1]
def sW (e:LA) (a:Nat) (d:Bool) (g:LA) (c:Nat) (b:Bool) (i:Nat) (l f:Int) (o:LA):St:=⟨[(1,(.imm e a 1 false d)),(5,(.own 300000 0 i)),(29,(.imm g c 1 false b)),(30,(.int .i64 l)),(31,(.int .i64 f))],[(300000,(bQ 1 o))]⟩
def Al2 (F:KF R):=sV N F [1,1,1,1,0,1,0] []
def A3w (g:LA) (c:Nat) (b:Bool) (e:LA) (a:Nat) (d:Bool):St:=⟨[(0,(.imm g c 1 false b)),(1,(.imm e a 1 false d))],[]⟩
def A3x (F:KF R):=sV N F [1,1,1] []
theorem o9 (Q1:St→O R) (F:KF R) (e:LA) (a:Nat) (d:Bool) (i:Nat) (f q:Int) (g:LA) (c:Nat) (b:Bool) (l:Int):∀ (n:Nat) (r s m:Int) (p:LA),Ap (A3v N F Q1) n (A3u e a d i f q g c b l r s m p)=(Wh N (fun i l f o=>Q1 (sW e a d g c b i l f o)) (Nb F) e a d i f q g c b l n r s m p)
 | 0,_,_,_,_=>by kernel_rfl
 | n+1,r,s,m,p=>Eq.trans (by kernel_rfl) (Bs (TK N (fun i l f o=>Q1 (sW e a d g c b i l f o)) (Nb F) e a d i f q g c b l · r s m p) (funext fun r=>funext fun s=>funext fun m=>funext fun p=>(o9 Q1 F e a d i f q g c b l n r s m p)):_)
theorem o_ (F:KF R) (e:LA) (a:Nat) (d:Bool) (g:LA) (c:Nat) (b:Bool):∀ (n i:Nat) (l f:Int) (o:LA),Ap (Al2 N F) n (sW e a d g c b i l f o)=(P3 N (Nb F) e a d g c b n i l f o)
 | 0,_,_,_,_=>by kernel_rfl
 | n+1,i,l,f,o=>have e0:=(funext fun i=>funext fun l=>funext fun f=>funext fun o=>(o_ F e a d g c b n i l f o))
  Eq.trans (by kernel_rfl) (bJ (FM N (Nb F) e a d g c b · · i l f o) e0 (funext fun q=>funext fun r=>funext fun s=>funext fun m=>funext fun p=>(Ak ..).trans ((o9 N (Ap (Al2 N F) n) F e a d i f q g c b l N r s m p).trans (Bs (Wh N · (Nb F) e a d i f q g c b l N r s m p) e0))):_)
theorem Ap4 (F:KF R) (g:LA) (c:Nat) (b:Bool) (e:LA) (a:Nat) (d:Bool):Bb (A3x N F) (A3w g c b e a d)=(gL N (Nb F) g c b e a d):=by
 exact Eq.trans (by kernel_rfl) (Bs (mB N (Nb F) g c b e a d ·) (funext fun i=>funext fun l=>funext fun f=>funext fun o=>(Ak ..).trans (o_ N F e a d g c b N i l f o)):_)
theorem Al3 (u:LA) (t:Nat) (v b:Bool) (w:LA) (x:Nat) (y d:Bool) (F:KF R):Cn (Aun N) Al1 N 135 [(.imm u t 1 v b),(.imm w x 1 y d)] [] F=(MV N u t v b w x y d (Nb F)):=by
 rw[TL]
 exact Eq.trans (by kernel_rfl) (Bs (gM N (Nb F) · u t v b w x y d) (funext fun g=>funext fun c=>funext fun e=>funext fun a=>(As ..).trans (Ap4 N F g c b e a d)):_)
def Acw (args:List AV) (h:Am) (k:KF R):O R :=
 match args,h with
 | [(.imm u t 1 v b),(.imm w x 1 y d)],[]=>(MV N u t v b w x y d (Nb k))
 | _,_=>none
theorem Al4:Aq N 135 @Acw:=by
 intro R Q args h k j;unfold Acw;split
 exact A2 (Al3 ..) (Al3 ..) ⟨Gg N,trivial⟩
 exact A5
def OO:=A4 (Al4 N)
theorem gN:A1 Tryz.prog 135 (OO N):=A6 (Al4 N) follows
def Ap5 (r0:Bool→Nat→LA→O R) (a:LA) (c:Bool) (b:LA) (d:Bool):O R :=
 (N_ a fun g=>(N_ b fun i=>(Ct 1 (a.drop 1) fun l m=>(Ct 1 (b.drop 1) fun n o=>(MV N l m false c n o false d (fun e f=>(Ir N (!(g==i)) e f (fun p=>(r0 p e f)))))))))
def MW:=(Ah (fun (N:Nat) (a:LA) (c:Bool) (b:LA) (d:Bool) (r0:Bool→Nat→LA→O R)=>(Ap5 N r0 a c b d))).1
theorem Acx (a c b d r0):(@MW R N a c b d r0)=(Ap5 N r0 a c b d):=by rw[MW,(Ah _).2]
def A3y:Hints:={ H:=hL }
def A6x:Ek:=[(135,OO N),(148,T8 N)]
def Al5 (F:KF R):Bool→Nat→LA→O R:=(fun q r s=>F (.agg [(.bool q),(.own 300000 0 r)]) [(300000,(bQ 1 s))])
theorem Al6 (a:LA) (c:Bool) (b:LA) (d:Bool) (F:KF R):Cn (A6x N) A3y N 103 [(.pagg a c),(.pagg b d)] [] F=(MW N a c b d (Al5 F)):=by
 rw[Acx]
 kernel_rfl
def Acy (args:List AV) (h:Am) (k:KF R):O R :=
 match args,h with
 | [(.pagg a c),(.pagg b d)],[]=>(MW N a c b d (Al5 k))
 | _,_=>none
theorem Al7:Aq N 103 @Acy:=by
 intro R Q args h k j;unfold Acy;split
 exact A2 (Al6 ..) (Al6 ..) ⟨gN N,CN N,trivial⟩
 exact A5
def gO:=A4 (Al7 N)
theorem sX:A1 Tryz.prog 103 (gO N):=A6 (Al7 N) follows
end
end Gx

namespace Gx
open Go Go.Proofs
section
variable {R:Type}
def fit (k N:Nat):Prop:=100*k+1000≤N∧k≤1000000000
theorem fit.le {j k N:Nat} (h:fit k N) (A:j≤k):fit j N:=⟨by have:=h.1;omega,by have:=h.2;omega⟩
theorem ct (x y:Option R):cond true x y=x:=rfl
theorem cf (x y:Option R):cond false x y=y:=rfl
theorem Axi (x y:Bool):cond true x y=x:=rfl
theorem Bc6 (x y:Bool):cond false x y=y:=rfl
theorem Ay5 (c:Nat):((decide (((c+1:Nat):Int)>(0:Int)))==true)=true:=by simp
theorem Jp {j n:Nat} (h:j<n):decide ((j:Int)<(n:Int))=true:=by simp;omega
theorem Lb {j n:Nat} (h:n≤j):decide ((j:Int)<(n:Int))=false:=by simp;omega
theorem wS {j:Nat} (h:j≤1000000000000):IntKind.wrap .i64 ((j:Int)+1)=((j+1:Nat):Int):=by rw[i64 (by omega)];omega
theorem wP {j:Nat} (h:j≤1000000000000):IntKind.wrap .i64 (((j+1:Nat):Int) - 1)=(j:Int):=by rw[i64 (by omega)];omega
theorem wA {j k:Nat} (h:j+k≤1000000000000):IntKind.wrap .i64 ((j:Int)+(k:Int))=((j+k:Nat):Int):=by rw[i64 (by omega)];omega
theorem aH {l:List Nat} {j:Nat} (h:j<l.length) {f:Int→Option R}:Ao .u32 (List.drop ((Int.toNat (j:Int))*1) (Ae l)) f=f (l[j]:Nat):=by
 rw[Int.toNat_natCast,Nat.mul_one,Aty h]
theorem oa {l:List Nat} {j:Nat} (h:j<l.length) {f:Int→Option R}:Ao .u32 (List.drop (0+((Int.toNat (j:Int))*1)) (Ae l)) f=f (l[j]:Nat):=by
 rw[Nat.zero_add,aH h]
theorem Bab {c a:Nat} (h:c≤a):((decide ((0:Int)≤(0:Int)))&&((decide ((0:Int)≤(c:Int)))&&((decide ((c:Int)≤(a:Int)))&&(decide ((a:Int)≤(a:Int))))))=true:=by
 simp;omega
theorem A6c {n:Nat} (h:n≤1000000000000):((decide ((0:Int)≤(n:Int)))&&((decide ((n:Int)≤(n:Int)))&&((decide ((n:Int)≤(140737488355328:Int)))&&(decide (((n:Int)*((4:Nat):Int))≤(140737488355328:Int))))))=true:=by
 simp;omega
theorem Aln {x:Nat} {m:List Nat} (h:x<m.length):((Nat.beq 1 1)&&((Nat.ble ((0+((Int.toNat (x:Int))*1))+1) (List.length (Ae m)))&&(!false)))=true:=by
 rw[B7,Int.toNat_natCast];simp;omega
theorem cQ {x v:Nat} {m:List Nat}:List.set (Ae m) (0+((Int.toNat (x:Int))*1)) (.int .u32 (v:Int))=Ae (m.set x v):=by
 rw[Int.toNat_natCast,Nat.mul_one,Nat.zero_add,nf]
theorem Auo {l:List Nat} (h:Al l):l.take (Ar (val l)).length=Ar (val l):=by
 obtain⟨k,A⟩:=Bu h
 rw[congrArg (List.take (Ar (val l)).length) k,List.take_left]
theorem Nc {l:List Nat} (h:Al l):List.take ((Ar (val l)).length*1) (Ae l)=Ae (Ar (val l)):=by rw[Nat.mul_one,Wa,Auo h]
theorem A7 {l:List Nat} {c:Nat} (h:c<l.length):val (l.take (c+1))=val (l.take c)+4294967296 ^ c*l[c]:=by
 rw[List.take_succ_eq_append_getElem h,Ayc,List.length_take,Nat.min_eq_left (by omega)]
theorem Ap6 {l:List Nat} {c:Nat} (k:Al l) (h:c<l.length) (A:l[c]≠0):Ar (val (l.take (c+1)))=l.take (c+1):=by
 apply Ba5 (Co k _)
 intro B
 rw[List.getLast_eq_getElem]
 simp only[List.length_take,Nat.min_eq_left (show c+1≤l.length by omega),Nat.add_sub_cancel,List.getElem_take]
 exact A
theorem Acz {N:Nat} {l:List Nat} {K:Nat→Option R} (A:Al l) (hs:l.length≤1000000000000):∀ (c fuel:Nat),c≤l.length→c<fuel →
  Wb N K l.length (Ae l) fuel (c:Int)=K (Ar (val (l.take c))).length
 | 0,fuel+1,B,_=>by
  rw[Wb];unfold TE
  rw[show decide (((0:Nat):Int)>0)=false by simp]
  rw[show((false:Bool)==true)=false by rfl,cf,Bab (by omega),ct,Int.toNat_natCast];rfl
 | c+1,fuel+1,B,C=>by
  rw[Wb];unfold TE
  rw[Ay5,ct,wP (by omega),Aa (by omega),ct,oa (by omega),Axi,Bab (by omega),ct,Acz A hs c fuel (by omega) (by omega),Int.toNat_natCast]
  by_cases k:l[c]=0
  ·rw[A7 (by omega),k];simp
  ·rw[Ap6 A (by omega) k,List.length_take,Nat.min_eq_left B]
   rw[show(((l[c]:Nat):Int)==0)=false by simp;exact k,cf]
theorem OP {N:Nat} {l:List Nat} {n:Nat} {K:Nat→Option R} (hn:n=l.length) (A:Al l) (k:fit l.length N):Wc N n (Ae l) K=K (Ar (val l)).length:=by
 subst hn
 have B:=k.1;have C:=k.2
 rw[lh];unfold oL
 dsimp only
 rw[Acz A (by omega) l.length N (Nat.le_refl _) (by omega),List.take_length]
theorem Al8 {N:Nat} {l:List Nat} {t o:Bool} {K:LA→Nat→Option R} (A:Al l) (hs:l.length≤1000000000000):∀ (c fuel:Nat),c≤l.length→c<fuel →
  Lp N K (Ae l) l.length t o fuel (c:Int)=K (Ae (Ar (val (l.take c)))) (Ar (val (l.take c))).length
 | 0,fuel+1,B,_=>by
  rw[Lp];unfold Xd
  rw[show decide (((0:Nat):Int)>0)=false by simp]
  rw[show((false:Bool)==true)=false by rfl,cf,Bab (by omega),ct,Int.toNat_natCast];rfl
 | c+1,fuel+1,B,C=>by
  rw[Lp];unfold Xd
  rw[Ay5,ct,wP (by omega),Aa (by omega),ct,aH (by omega),Axi,Bab (by omega),ct,Al8 A hs c fuel (by omega) (by omega),Int.toNat_natCast,Nat.mul_one,Wa]
  by_cases k:l[c]=0
  ·rw[A7 (by omega),k];simp
  ·rw[Ap6 A (by omega) k,List.length_take,Nat.min_eq_left B]
   rw[show(((l[c]:Nat):Int)==0)=false by simp;exact k,cf]
theorem Ca {N:Nat} {l:List Nat} {n:Nat} {t o:Bool} {K:LA→Nat→Option R} (hn:n=l.length) (A:Al l) (k:fit l.length N):Ci N (Ae l) n t o K=K (Ae (Ar (val l))) (Ar (val l)).length:=by
 subst hn
 have B:=k.1;have C:=k.2
 rw[jJ];unfold TF
 dsimp only
 rw[Al8 A (by omega) l.length N (Nat.le_refl _) (by omega),List.take_length]
theorem A3z {N:Nat} {K:LA→Option R} (hN:1≤N):DV N K=K []:=by
 rw[jM];unfold TG
 cases N with
 | zero=>omega
 | succ N=>rw[Ua];rfl
end
end Gx

namespace Gx
open Go Go.RowKit
theorem A30 {P:Program} {f:Nat} {t:Tw} (C:A1 P f t) {W:World} {avs:List AV} {vs:List Value} (hr:Reps (fun _ k=>k<W.heap.size) (fun _=>none) [] W avs vs)
  (B:(t.runK avs [] fun v h=>some (v,h))=some (.bool true,[])):Calls P f vs.toArray W fun e w'=>e=.returned (.bool true)∧Below W.heap.size W w':=by
 have S:SimH (fun _ k=>k<W.heap.size) (fun _=>none) [] W:=⟨fun _ _ h=>h,fun _ h=>h,fun b x A=>by simp[Au] at A,fun b x A=>by simp[Au] at A,fun b b' x x' k o o' A=>by simp[Au] at A⟩
 refine Calls.mono (C avs [] _ _ B _ _ W vs S hr) ?_
 rintro e w' ⟨vc,J',β',rfl,F,D⟩
 rw[Rep] at D;subst D
 refine⟨rfl,F.os,F.tape,F.output,F.size,fun k G=>F.frame k G ?_⟩
 rintro⟨b,x,o,A,_⟩
 change Au [] b=some x at A
 simp[Au] at A
structure Opens (P:Program) (t:TypeId) {α:Type} (e:α→List AV) (n:Nat):Prop where
 size:P.cellsOf t=n
 pos:0<n
 len:∀ a,(e a).length=n
 read:∀ {H:Type} (enc:TypeId×Value→H) (W:World) (fuel:Nat) (cs:List Value) (d:DataW H) (ps:List MemPlace),DataW.trod enc P W 0 (fun _=>true) true fuel t cs=some (d,ps) →
  cs.length=n∧∃ a,RepCs (fun k=>k<W.heap.size) W (e a) (fun j=>cs[j]?) 0
theorem gP {P:Program} {t:TypeId} {k:IntKind} (A:P.underlying t=some (.int k)) (B:P.cellsOf t=1):Opens P t (α:={ n:Int // (Lit.int k n).wf=true }) (fun n=>[.int k n.1]) 1:=by
 refine⟨B,by omega,fun _=>rfl,fun enc W fuel cs d ps h=>?_⟩
 obtain⟨n,rfl,_,C⟩:=DataW.trod_int A h
 exact⟨rfl,⟨n,C⟩,by simp[RepCs,RepC]⟩
theorem vr {α β:Type} {e:α→List β} {n:Nat} (hn:0<n) (k:∀ a,(e a).length=n):∀ (l:List α) (j:Nat),(l.flatMap e)[j]?=(l[j/n]?).bind fun a=>(e a)[j%n]?
 | [],j=>by simp
 | a::r,j=>by
  rw[List.flatMap_cons]
  by_cases A:j<n
  ·rw[List.getElem?_append_left (by rw[k];exact A),Nat.div_eq_of_lt A,Nat.mod_eq_of_lt A];simp
  ·rw[List.getElem?_append_right (by rw[k];omega),k,vr hn k r (j - n)]
   have B:j/n=(j - n)/n+1:=by
    have:=Nat.add_div_right (j - n) hn
    rw[show j - n+n=j by omega] at this;exact this
   have C:j%n=(j - n)%n:=by
    have:=Nat.add_mod_right (j - n) n
    rw[show j - n+n=j by omega] at this;exact this
   rw[B,C];simp
theorem vt {α β:Type} {e:α→List β} {n:Nat} (k:∀ a,(e a).length=n):∀ (l:List α),(l.flatMap e).length=l.length*n
 | []=>by simp
 | a::r=>by rw[List.flatMap_cons,List.length_append,k,vt k r,List.length_cons,Nat.succ_mul];omega
theorem Aup {α β:Type} {f:α→Option β}:∀ {l:List α} {r:List β},l.mapM f=some r→r.length=l.length∧∀ (i:Nat) (a:α),l[i]?=some a→f a=r[i]?
 | [],r,h=>by simp at h;subst h;simp
 | x::l,r,h=>by
  rw[List.mapM_cons] at h
  cases k:f x with
  | none=>simp[k] at h
  | some y =>
   cases A:l.mapM f with
   | none=>simp[k,A] at h
   | some ys =>
    simp[k,A] at h
    subst h
    obtain⟨B,C⟩:=Aup A
    refine⟨by simp[B],fun i a hi=>?_⟩
    cases i with
    | zero=>simp at hi;subst hi;simpa using k
    | succ i=>simpa using C i a (by simpa using hi)
theorem cR {P:Program} {t el:TypeId} {α:Type} {e:α→List AV} {n:Nat} (hu:P.underlying t=some (.slice el)) (hc:P.cellsOf t=1) (D:Opens P el e n) :
  Opens P t (α:={ l:List α // l.length≤maxLen }) (fun l=>[.imm (l.1.flatMap e) l.1.length n false false]) 1:=by
 refine⟨hc,by omega,fun _=>rfl,fun enc W fuel cs d ps h=>?_⟩
 cases fuel with
 | zero=>simp[DataW.trod] at h
 | succ fuel =>
  unfold DataW.trod at h
  simp only[hu] at h
  split at h
  all_goals first | (rename_i A;simp at A;done) | (rename_i A _;simp at A;done) | (rename_i A _ _;simp at A;done) | skip
  ·refine⟨rfl,⟨[],by simp⟩,?_⟩
   simp[RepCs,RepC]
  ·rename_i e' a len cap A
   simp at A;subst A
   split at h
   ·rename_i F
    obtain⟨hb,hlc,hcm⟩:=F
    refine⟨rfl,?_⟩
    cases U:(List.range len).mapM (fun i=>(W.cells? 0 (a.add (i*P.cellsOf el)) (P.cellsOf el)).bind (DataW.trod enc P W 0 (fun _=>true) true fuel el)) with
    | none=>rw[U] at h;simp at h
    | some Ala =>
     obtain⟨h1,h2⟩:=Aup U
     rw[D.size] at h2
     have each:∀ i:Nat,i<len→∃ x:α,∃ cs,W.cells? 0 (a.add (i*n)) n=some cs∧RepCs (fun k=>k<W.heap.size) W (e x) (fun j=>cs[j]?) 0:=by
      intro i hi
      have O:=h2 i i (by simp[hi])
      rw[List.getElem?_eq_getElem (by rw[h1];simpa using hi)] at O
      cases B:W.cells? 0 (a.add (i*n)) n with
      | none=>rw[B] at O;simp at O
      | some cs =>
       rw[B] at O
       obtain⟨_,x,A⟩:=D.read enc W fuel cs _ _ O
       exact⟨x,cs,rfl,A⟩
     have build:∀ m,m≤len→∃ l:List α,l.length=m∧∀ i x,l[i]?=some x→∃ cs,W.cells? 0 (a.add (i*n)) n=some cs∧RepCs (fun k=>k<W.heap.size) W (e x) (fun j=>cs[j]?) 0:=by
      intro m
      induction m with
      | zero=>intro _;exact⟨[],rfl,by simp⟩
      | succ m ih =>
       intro U
       obtain⟨l,T,G⟩:=ih (by omega)
       obtain⟨x,cs,V,Y⟩:=each m (by omega)
       refine⟨l++[x],by simp[T],fun i y L=>?_⟩
       rw[List.getElem?_append] at L
       split at L
       ·exact G i y L
       ·have:i=m:=by
         have:=(List.getElem?_eq_some_iff.1 L).1
         simp at this;omega
        subst this
        simp[T] at L;subst L
        exact⟨cs,V,Y⟩
     obtain⟨l,T,G⟩:=build len (Nat.le_refl _)
     refine⟨⟨l,by omega⟩,?_⟩
     simp only[RepCs,RepC,and_true]
     refine⟨_,rfl,?_,some a,cap,by rw[T],by omega,by simp,?_⟩
     ·exact vt D.len l
     ·by_cases h0:l.length=0
      ·exact .inl h0
      ·right
       refine⟨a,rfl,?_,?_⟩
       ·obtain⟨x,cs,A,_⟩:=each 0 (by omega)
        have:=World.cells?_block A D.pos
        rwa [V3] at this
       ·rw[Cw]
        intro j x M
        rw[vr D.pos D.len] at M
        cases hq:l[j/n]? with
        | none=>rw[hq] at M;simp at M
        | some y =>
         rw[hq] at M
         simp at M
         obtain⟨cs,B,C⟩:=G (j/n) y hq
         rw[Cw] at C
         obtain⟨u,S,hu2⟩:=C (j%n) x M
         refine⟨u,?_,hu2⟩
         obtain⟨_,hlen,I⟩:=World.cells?_some B
         have hlt:j%n<n:=Nat.mod_lt _ D.pos
         have:=I (j%n) hlt
         rw[Addr.add_add,show j/n*n+j%n=j by rw[Nat.mul_comm];exact Nat.div_add_mod j n] at this
         simp only[Nat.zero_add] at S ⊢
         rw[this];exact S
   ·simp at h
  ·simp at h
end Gx

namespace Gx
open Go Go.RowKit
section
variable {P:Program} {W:World} {H:Type} {enc:TypeId×Value→H} {β:C1} {h:Am}
theorem Ap7 {t el:TypeId} {α:Type} {e:α→List AV} {n:Nat} {a:Option Addr} {len cap:Nat} {d:DataW H} {p:List MemPlace} (A:P.underlying t=some (.slice el)) (B:P.cellsOf t=1) (C:Opens P el e n)
  (D:DataW.Trod enc P W 0 (fun _=>true) true t (.slice a len cap) d p):∃ l:List α,l.length≤maxLen∧Rep (fun _ k=>k<W.heap.size) β h W (.imm (l.flatMap e) l.length n false false) (.slice a len cap):=by
 obtain⟨fuel,F⟩:=D
 obtain⟨_,⟨l,G⟩,hr⟩:=(cR A B C).read enc W fuel _ _ _ F
 refine⟨l,G,?_⟩
 simp only[RepCs,Value.cells,and_true] at hr
 obtain⟨u,A,hr⟩:=hr
 simp at A;subst A
 rw[Rep];exact hr
theorem A8t {k:IntKind} {n:Int}:Rep (fun _ k=>k<W.heap.size) β h W (.int k n) (.int k n):=by rw[Rep]
theorem A6y {b:Bool}:Rep (fun _ k=>k<W.heap.size) β h W (.bool b) (.bool b):=by rw[Rep]
theorem A6z:Reps (fun _ k=>k<W.heap.size) β h W [] []:=by rw[Reps]
theorem DX {x:AV} {xs:List AV} {v:Value} {vs:List Value} (A:Rep (fun _ k=>k<W.heap.size) β h W x v) (B:Reps (fun _ k=>k<W.heap.size) β h W xs vs):Reps (fun _ k=>k<W.heap.size) β h W (x::xs) (v::vs):=by
 rw[Reps];exact⟨v,vs,rfl,A,B⟩
end
end Gx

namespace Gx
open Go Go.RowKit
section
variable {P:Program} {W:World} {H:Type} {enc:TypeId×Value→H} {β:C1} {h:Am}
theorem A60 {t:TypeId} {α:Type} {e:α→List AV} {n:Nat} {cs:Array Value} {d:DataW H} {p:List MemPlace} (A:Opens P t e n)
  (B:DataW.Trod enc P W 0 (fun _=>true) true t (.agg cs) d p):∃ a:α,Rep (fun _ k=>k<W.heap.size) β h W (.pagg (e a) false) (.agg cs):=by
 obtain⟨fuel,C⟩:=B
 obtain⟨D,a,hr⟩:=A.read enc W fuel _ _ _ C
 refine⟨a,?_⟩
 rw[Rep]
 exact⟨cs.toList,rfl,by rw[A.len];exact D,hr⟩
end
end Gx

namespace Gx
open Go Go.Proofs
open IntKind (wrap)
set_option maxRecDepth 100000
noncomputable section
variable {R:Type} (N:Nat)
def TM (N:Nat) (r0:Bool→O R) (a:LA) (b:Bool):O R :=
 (Ct 1 (a.drop 18) fun f c=>(cond ((decide (((c:Nat):Int)≤40))==true) (Ct 2 (a.drop 4) fun g d=>(r0 (cond true (decide (((d:Nat):Int)≤20)) false))) (r0 false)))
def Tf:=(Ah (fun (N:Nat) (a:LA) (b:Bool) (r0:Bool→O R)=>(TM N r0 a b))).1
theorem WT (a b r0):(@Tf R N a b r0)=(TM N r0 a b):=by rw[Tf,(Ah _).2]
def Ac0:Hints:={ H:=hL }
def cS (F:KF R):Bool→O R:=(fun e=>F (.bool e) [])
theorem cT (a:LA) (b:Bool) (F:KF R):Cn [] Ac0 N 11 [(.pagg a b)] [] F=(Tf N a b (cS F)):=by
 rw[WT]
 kernel_rfl
def WU (args:List AV) (h:Am) (k:KF R):O R :=
 match args,h with
 | [(.pagg a b)],[]=>(Tf N a b (cS k))
 | _,_=>none
theorem cU:Aq N 11 @WU:=by
 intro R Q args h k j;unfold WU;split
 exact A2 (cT ..) (cT ..) trivial
 exact A5
def cV:=A4 (cU N)
theorem Ac1:A1 Tryz.prog 11 (cV N):=A6 (cU N) follows
def mC (N:Nat) (r0:Int→O R) (b a:Int):O R :=
 (cond (a==0) none (cond (a==0) none (r0 (Int.tmod (wrap .i64 ((Int.tmod b a)+a)) a))))
def DY:=(Ah (fun (N:Nat) (b a:Int) (r0:Int→O R)=>(mC N r0 b a))).1
theorem jU (b a r0):(@DY R N b a r0)=(mC N r0 b a):=by rw[DY,(Ah _).2]
def Ap8:Hints:={ H:=hL }
def ob (F:KF R):Int→O R:=(fun c=>F (.int .i64 c) [])
theorem od (b a:Int) (F:KF R):Cn [] Ap8 N 12 [(.int .i64 b),(.int .i64 a)] [] F=(DY N b a (ob F)):=by
 rw[jU]
 kernel_rfl
def jV (args:List AV) (h:Am) (k:KF R):O R :=
 match args,h with
 | [(.int .i64 b),(.int .i64 a)],[]=>(DY N b a (ob k))
 | _,_=>none
theorem oe:Aq N 12 @jV:=by
 intro R Q args h k j;unfold jV;split
 exact A2 (od ..) (od ..) trivial
 exact A5
def og:=A4 (oe N)
theorem Ap9:A1 Tryz.prog 12 (og N):=A6 (oe N) follows
def TN (N:Nat) (r0:Bool→O R) (b:LA) (a:Nat) (d e:Bool) (c:Int) (k0:Int→O R) (f:Int):O R :=
 (cond (decide (f<((a:Nat):Int))) (cond (Ad f a) (Ao .i64 (b.drop ((f.toNat)*1)) fun g=>(cond (g==c) (r0 true) (k0 (wrap .i64 (f+1))))) none) (r0 false))
def Wi (r0:Bool→O R) (b:LA) (a:Nat) (d e:Bool) (c:Int):Nat→Int→O R
 | 0,_=>none
 | n+1,f=>(TN N r0 b a d e c (Wi r0 b a d e c n) f)
def z_ (N:Nat) (r0:Bool→O R) (q0:Int→O R) (b:LA) (a:Nat) (d e:Bool) (c:Int):O R :=
 (q0 0)
def mD:=(Ah (fun (N:Nat) (b:LA) (a:Nat) (d e:Bool) (c:Int) (r0:Bool→O R)=>(z_ N r0 (fun f=>(Wi N r0 b a d e c N f)) b a d e c))).1
theorem Ac2 (b a d e c r0):(@mD R N b a d e c r0)=(z_ N r0 (fun f=>(Wi N r0 b a d e c N f)) b a d e c):=by rw[mD,(Ah _).2]
def Al9:Hints:={ H:=(hS hL (hS (hS hL (hS (hP [0,1,5] hL) hL)) hL)) }
def A31 (F:KF R):=Kk Tryz.f45 Al9 [] [] N F
def OQ (F:KF R):Bool→O R:=(fun i=>F (.bool i) [])
def A32 (b:LA) (a:Nat) (d e:Bool) (c f:Int):St:=⟨[(0,(.imm b a 1 d e)),(1,(.int .i64 c)),(5,(.int .i64 f))],[]⟩
def A33 (F:KF R):=A31 N F [1,0,1,0] []
theorem oh (F:KF R) (b:LA) (a:Nat) (d e:Bool) (c:Int):∀ (n:Nat) (f:Int),Ap (A33 N F) n (A32 b a d e c f)=(Wi N (OQ F) b a d e c n f)
 | 0,_=>by kernel_rfl
 | n+1,f=>Eq.trans (by kernel_rfl) (Bs (TN N (OQ F) b a d e c · f) (funext fun f=>(oh F b a d e c n f)):_)
theorem Ama (b:LA) (a:Nat) (d e:Bool) (c:Int) (F:KF R):Cn [] Al9 N 45 [(.imm b a 1 d e),(.int .i64 c)] [] F=(mD N b a d e c (OQ F)):=by
 rw[Ac2]
 exact Eq.trans (by kernel_rfl) (Bs (z_ N (OQ F) · b a d e c) (funext fun f=>(Ak ..).trans (oh N F b a d e c N f)):_)
def Ac3 (args:List AV) (h:Am) (k:KF R):O R :=
 match args,h with
 | [(.imm b a 1 d e),(.int .i64 c)],[]=>(mD N b a d e c (OQ k))
 | _,_=>none
theorem Amb:Aq N 45 @Ac3:=by
 intro R Q args h k j;unfold Ac3;split
 exact A2 (Ama ..) (Ama ..) trivial
 exact A5
def Amc:=A4 (Amb N)
theorem A34:A1 Tryz.prog 45 (Amc N):=A6 (Amb N) follows
end
end Gx

namespace Gx
open Go Go.Proofs
open IntKind (wrap)
set_option maxRecDepth 100000
noncomputable section
variable {R:Type} (N:Nat)
def cW (N:Nat) (r0:LA→O R):O R :=
 (r0 [(.str ([]:List UInt8)),(.int .i64 0),(.int .i64 10),(.int .i64 40),(.imm [(.int .i64 20),(.int .i64 3),(.int .i64 10),(.int .i64 5)] 2 2 false false),(.int .i64 0),(.int .i64 5),(.int .i64 10),(.int .i64 15),(.int .i64 15),(.int .i64 0),(.int .i64 0),(.int .i64 0),(.int .i64 0),(.int .i64 0),(.int .i64 0),(.int .i64 0),(.int .i64 0),.nsl,(.int .i64 2),(.int .i64 1),(.int .i64 12)])
def Nd:=(Ah (fun (N:Nat) (r0:LA→O R)=>(cW N r0))).1
theorem JQ (r0):(@Nd R N r0)=(cW N r0):=by rw[Nd,(Ah _).2]
def sY:Hints:={ H:=hL,modes:=[(3,0)] }
def OR (F:KF R):LA→O R:=(fun a=>F (.pagg a false) [])
theorem OS (F:KF R):Cn [] sY N 46 [] [] F=(Nd N (OR F)):=by
 rw[JQ]
 kernel_rfl
def JR (args:List AV) (h:Am) (k:KF R):O R :=
 match args,h with
 | [],[]=>(Nd N (OR k))
 | _,_=>none
theorem OT:Aq N 46 @JR:=by
 intro R Q args h k j;unfold JR;split
 exact A2 (OS ..) (OS ..) trivial
 exact A5
def OU:=A4 (OT N)
theorem sZ:A1 Tryz.prog 46 (OU N):=A6 (OT N) follows
def Uc (N:Nat) (r0:Bool→O R) (b c:Int) (d:LA) (a:Nat) (e f:Bool) (k0:Int→Int→O R) (i g:Int):O R :=
 (cond (decide (g<i)) (cond (Ad g a) (Ao .i64 (d.drop ((g.toNat)*1)) fun l=>(cond ((decide (l<b))==false) (cond (cond false true (decide (l>c))) (r0 false) (k0 i (wrap .i64 (g+1)))) (r0 false))) none) (r0 true))
def Jq (r0:Bool→O R) (b c:Int) (d:LA) (a:Nat) (e f:Bool):Nat→Int→Int→O R
 | 0,_,_=>none
 | n+1,i,g=>(Uc N r0 b c d a e f (Jq r0 b c d a e f n) i g)
def JT (N:Nat) (r0:Bool→O R) (q0:Int→Int→O R) (b c:Int) (d:LA) (a:Nat) (e f:Bool):O R :=
 (q0 ((a:Nat):Int) 0)
def Db:=(Ah (fun (N:Nat) (b c:Int) (d:LA) (a:Nat) (e f:Bool) (r0:Bool→O R)=>(JT N r0 (fun i g=>(Jq N r0 b c d a e f N i g)) b c d a e f))).1
theorem cX (b c d a e f r0):(@Db R N b c d a e f r0)=(JT N r0 (fun i g=>(Jq N r0 b c d a e f N i g)) b c d a e f):=by rw[Db,(Ah _).2]
def jW:Hints:={ H:=(hS hL (hS (hS hL (hS (hP [0,1,9,10,11] hL) hL)) hL)) }
def Aji (F:KF R):=Kk Tryz.f47 jW [] [] N F
def Rc (F:KF R):Bool→O R:=(fun m=>F (.bool m) [])
def Ajj (b c:Int) (d:LA) (a:Nat) (e f:Bool) (i g:Int):St:=⟨[(0,(.int .i64 b)),(1,(.int .i64 c)),(9,(.imm d a 1 e f)),(10,(.int .i64 i)),(11,(.int .i64 g))],[]⟩
def Ajk (F:KF R):=Aji N F [1,0,1,0] []
theorem OV (F:KF R) (b c:Int) (d:LA) (a:Nat) (e f:Bool):∀ (n:Nat) (i g:Int),Ap (Ajk N F) n (Ajj b c d a e f i g)=(Jq N (Rc F) b c d a e f n i g)
 | 0,_,_=>by kernel_rfl
 | n+1,i,g=>Eq.trans (by kernel_rfl) (Bs (Uc N (Rc F) b c d a e f · i g) (funext fun i=>funext fun g=>(OV F b c d a e f n i g)):_)
theorem jX (b c:Int) (d:LA) (a:Nat) (e f:Bool) (F:KF R):Cn [] jW N 47 [(.int .i64 b),(.int .i64 c),(.imm d a 1 e f)] [] F=(Db N b c d a e f (Rc F)):=by
 rw[cX]
 exact Eq.trans (by kernel_rfl) (Bs (JT N (Rc F) · b c d a e f) (funext fun i=>funext fun g=>(Ak ..).trans (OV N F b c d a e f N i g)):_)
def cY (args:List AV) (h:Am) (k:KF R):O R :=
 match args,h with
 | [(.int .i64 b),(.int .i64 c),(.imm d a 1 e f)],[]=>(Db N b c d a e f (Rc k))
 | _,_=>none
theorem jY:Aq N 47 @cY:=by
 intro R Q args h k j;unfold cY;split
 exact A2 (jX ..) (jX ..) trivial
 exact A5
def Xf:=A4 (jY N)
theorem MX:A1 Tryz.prog 47 (Xf N):=A6 (jY N) follows
def JU (N:Nat) (r0:Bool→O R) (b:Bool) (a:LA):O R :=
 (Ao .i64 (a.drop 20) fun i=>(cond ((decide (i<1))==false) (Ao .i64 (a.drop 20) fun l=>(cond (cond false true (decide (l>48))) (r0 false) (Ao .i64 (a.drop 19) fun m=>(cond ((m != 1)==false) (Ao .i64 (a.drop 20) fun o=>(Ao .i64 (a.drop 12) fun p=>(r0 (cond false true (decide (o≤p)))))) (r0 true))))) (r0 false)))
def TO (N:Nat) (r0:Bool→O R) (d e f g:Int) (b:Bool) (a:LA) (k0:Int→O R) (q1:O R) (c:Int):O R :=
 (cond (decide (c<4)) (cond (Ad c 4) (cond (Nat.beq ((c.toNat)*1) 0) (cond ((decide (d<0))==false) (cond (cond false true (decide (d>24))) (r0 false) (k0 (wrap .i64 (c+1)))) (r0 false)) (cond (Nat.beq ((c.toNat)*1) 1) (cond ((decide (e<0))==false) (cond (cond false true (decide (e>24))) (r0 false) (k0 (wrap .i64 (c+1)))) (r0 false)) (cond (Nat.beq ((c.toNat)*1) 2) (cond ((decide (f<0))==false) (cond (cond false true (decide (f>24))) (r0 false) (k0 (wrap .i64 (c+1)))) (r0 false)) (cond (Nat.beq ((c.toNat)*1) 3) (cond ((decide (g<0))==false) (cond (cond false true (decide (g>24))) (r0 false) (k0 (wrap .i64 (c+1)))) (r0 false)) none)))) none) (Ao .i64 (a.drop 19) fun q=>(cond ((q != 0)==true) (Ao .i64 (a.drop 19) fun r=>(cond ((cond true (r != 1) false)==true) (Ao .i64 (a.drop 19) fun s=>(cond (cond true (s != 2) false) (r0 false) q1)) q1)) q1)))
def Tg (r0:Bool→O R) (d e f g:Int) (b:Bool) (a:LA):Nat→Int→O R
 | 0,_=>none
 | n+1,c=>(TO N r0 d e f g b a (Tg r0 d e f g b a n) (JU N r0 b a) c)
def gQ (N:Nat) (r0:Bool→O R) (q0:Int→Int→Int→Int→Int→O R) (a:LA) (b:Bool):O R :=
 (Ao .i64 (a.drop 10) fun d=>(Ao .i64 (a.drop 11) fun e=>(Ao .i64 (a.drop 12) fun f=>(Ao .i64 (a.drop 15) fun g=>(q0 d e f g 0)))))
def Ok:=(Ah (fun (N:Nat) (a:LA) (b:Bool) (r0:Bool→O R)=>(gQ N r0 (fun d e f g c=>(Tg N r0 d e f g b a N c)) a b))).1
theorem oi (a b r0):(@Ok R N a b r0)=(gQ N r0 (fun d e f g c=>(Tg N r0 d e f g b a N c)) a b):=by rw[Ok,(Ah _).2]
def vu:Hints:={ H:=(hS hL (hS (hS hL (hS (hP [1,13,14] hL) hL)) (hJ [1] hL hL))) }
def vw (F:KF R):=Kk Tryz.f48 vu [] [] N F
def Th (F:KF R):Bool→O R:=(fun t=>F (.bool t) [])
def Auq (b:Bool) (a:LA):St:=⟨[(1,(.optr 300000 0))],[(300000,(bP b 0 a))]⟩
def Aur (F:KF R):=vw N F [1,1,1] []
def Aus (d e f g:Int) (b:Bool) (a:LA) (c:Int):St:=⟨[(1,(.optr 300000 0)),(13,(.agg [(.int .i64 d),(.int .i64 e),(.int .i64 f),(.int .i64 g)])),(14,(.int .i64 c))],[(300000,(bP b 0 a))]⟩
def Aut (F:KF R):=vw N F [1,0,1,0] []
theorem Ac4 (F:KF R) (b:Bool) (a:LA):Bb (Aur N F) (Auq b a)=(JU N (Th F) b a):=by
 kernel_rfl
theorem cZ (F:KF R) (d e f g:Int) (b:Bool) (a:LA):∀ (n:Nat) (c:Int),Ap (Aut N F) n (Aus d e f g b a c)=(Tg N (Th F) d e f g b a n c)
 | 0,_=>by kernel_rfl
 | n+1,c=>Eq.trans (by kernel_rfl) (bJ (TO N (Th F) d e f g b a · · c) (funext fun c=>(cZ F d e f g b a n c)) ((As ..).trans (Ac4 N F b a)):_)
theorem vz (a:LA) (b:Bool) (F:KF R):Cn [] vu N 48 [(.pagg a b)] [] F=(Ok N a b (Th F)):=by
 rw[oi]
 exact Eq.trans (by kernel_rfl) (Bs (gQ N (Th F) · a b) (funext fun d=>funext fun e=>funext fun f=>funext fun g=>funext fun c=>(Ak ..).trans (cZ N F d e f g b a N c)):_)
def om (args:List AV) (h:Am) (k:KF R):O R :=
 match args,h with
 | [(.pagg a b)],[]=>(Ok N a b (Th k))
 | _,_=>none
theorem wB:Aq N 48 @om:=by
 intro R Q args h k j;unfold om;split
 exact A2 (vz ..) (vz ..) trivial
 exact A5
def Ti:=A4 (wB N)
theorem Yt:A1 Tryz.prog 48 (Ti N):=A6 (wB N) follows
def J8 (N:Nat) (k0:Int→Int→Int→O R) (r0:Bool→O R) (c:LA) (d:Nat) (b:Bool) (e:Int) (a:LA) (m i o:Int) (l:LA):O R :=
 (cond ((decide (i>0))==true) (Ao .i64 (l.drop 1) fun p=>(Ct 2 (a.drop 4) fun q r=>(cond (Ad (wrap .i64 (i - 1)) r) (Ao .i64 ((q.drop (((wrap .i64 (i - 1)).toNat)*2)).drop 1) fun s=>(cond (cond true (decide (p<s)) false) (r0 false) (Ao .i64 l fun t=>(k0 (wrap .i64 (m+t)) e (wrap .i64 (o+1)))))) none))) (Ao .i64 l fun u=>(k0 (wrap .i64 (m+u)) e (wrap .i64 (o+1)))))
def I5 (r0:Bool→O R) (c:LA) (d:Nat) (b:Bool) (a:LA) (k0:Int→Int→Int→O R) (q1:Int→Int→Int→LA→O R) (g e f:Int):O R :=
 (cond (decide (f<e)) (cond (Ad f d) (cond (Nat.ble 2 ((c.drop ((f.toNat)*2)).length)) (cond ((!b)||(Bd ((c.drop ((f.toNat)*2)).take 2))) (cond ((Nat.beq (((c.drop ((f.toNat)*2)).take 2).length) 2)&&((Nat.ble 2 2)&&(!false))) (Ao .i64 (setCells [(.int .i64 0),(.int .i64 0)] 0 ((c.drop ((f.toNat)*2)).take 2)) fun v=>(Db N 1 1048576 [(.int .i64 v)] 1 false true (fun w=>(cond ((!w)==false) (Ao .i64 ((setCells [(.int .i64 0),(.int .i64 0)] 0 ((c.drop ((f.toNat)*2)).take 2)).drop 1) fun x=>(Db N (-1048576) 1048576 [(.int .i64 x)] 1 false true (fun y=>(cond (cond false true (!y)) (r0 false) (q1 g f f (setCells [(.int .i64 0),(.int .i64 0)] 0 ((c.drop ((f.toNat)*2)).take 2))))))) (r0 false))))) none) none) none) none) (Ao .i64 (a.drop 3) fun z=>(Ao .i64 (a.drop 2) fun aa=>(r0 (g==(wrap .i64 (z - aa)))))))
def Cy (r0:Bool→O R) (c:LA) (d:Nat) (b:Bool) (a:LA):Nat→Int→Int→Int→O R
 | 0,_,_,_=>none
 | n+1,g,e,f=>(I5 N r0 c d b a (Cy r0 c d b a n) (fun m i o l=>(J8 N (Cy r0 c d b a n) r0 c d b e a m i o l)) g e f)
def Ns (N:Nat) (r0:Bool→O R) (q0:LA→Nat→Int→Int→Int→O R) (a:LA) (b:Bool):O R :=
 (Ct 2 (a.drop 4) fun ad ab=>(cond (decide (((ab:Nat):Int)>8)) (r0 false) (Ct 2 (a.drop 4) fun c d=>(q0 c d 0 ((d:Nat):Int) 0))))
def Fl:=(Ah (fun (N:Nat) (a:LA) (b:Bool) (r0:Bool→O R)=>(Ns N r0 (fun c d g e f=>(Cy N r0 c d b a N g e f)) a b))).1
theorem Yu (a b r0):(@Fl R N a b r0)=(Ns N r0 (fun c d g e f=>(Cy N r0 c d b a N g e f)) a b):=by rw[Fl,(Ah _).2]
def AS:Hints:={ H:=(hS hL (hS hL (hS hL (hS (hS hL (hS (hP [1,3,11,12,13] (hS hL (hS hL (hS (hS (hS hL (hJ [1,3,4,5,11,12,13] hL hL)) hL) hL)))) hL)) hL)))) }
def FN:Ek:=[(47,Xf N)]
def AT (F:KF R):=Kk Tryz.f49 AS (FN N) [] N F
def Ds (F:KF R):Bool→O R:=(fun ac=>F (.bool ac) [])
def gy (c:LA) (d:Nat) (b:Bool) (e:Int) (a:LA) (m i o:Int) (l:LA):St:=⟨[(1,(.optr 300000 0)),(3,(.int .i64 m)),(4,(.int .i64 i)),(5,(.optr 300001 0)),(11,(.imm c d 2 false b)),(12,(.int .i64 e)),(13,(.int .i64 o))],[(300000,(bP b 0 a)),(300001,(bQ 0 l))]⟩
def gz (F:KF R) (Q0:St→O R):=AT N F [1,1,1,0,1,0,0,1,1,0,0,1,1] [Q0]
def AU (c:LA) (d:Nat) (b:Bool) (a:LA) (g e f:Int):St:=⟨[(1,(.optr 300000 0)),(3,(.int .i64 g)),(11,(.imm c d 2 false b)),(12,(.int .i64 e)),(13,(.int .i64 f))],[(300000,(bP b 0 a))]⟩
def AW (F:KF R):=AT N F [1,1,1,0,1,0] []
theorem TP (Q0:St→O R) (F:KF R) (c:LA) (d:Nat) (b:Bool) (e:Int) (a:LA):∀ (m i o:Int) (l:LA),Bb (gz N F Q0) (gy c d b e a m i o l)=(J8 N (fun g e f=>Q0 (AU c d b a g e f)) (Ds F) c d b e a m i o l):=by
 intro m i o l
 kernel_rfl
theorem Ud (F:KF R) (c:LA) (d:Nat) (b:Bool) (a:LA):∀ (n:Nat) (g e f:Int),Ap (AW N F) n (AU c d b a g e f)=(Cy N (Ds F) c d b a n g e f)
 | 0,_,_,_=>by kernel_rfl
 | n+1,g,e,f=>have e0:=(funext fun g=>funext fun e=>funext fun f=>(Ud F c d b a n g e f))
  Eq.trans (by kernel_rfl) (bJ (I5 N (Ds F) c d b a · · g e f) e0 (funext fun m=>funext fun i=>funext fun o=>funext fun l=>(As ..).trans ((TP N (Ap (AW N F) n) F c d b e a m i o l).trans (Bs (J8 N · (Ds F) c d b e a m i o l) e0))):_)
theorem AX (a:LA) (b:Bool) (F:KF R):Cn (FN N) AS N 49 [(.pagg a b)] [] F=(Fl N a b (Ds F)):=by
 rw[Yu]
 exact Eq.trans (by kernel_rfl) (Bs (Ns N (Ds F) · a b) (funext fun c=>funext fun d=>funext fun g=>funext fun e=>funext fun f=>(Ak ..).trans (Ud N F c d b a N g e f)):_)
def Yv (args:List AV) (h:Am) (k:KF R):O R :=
 match args,h with
 | [(.pagg a b)],[]=>(Fl N a b (Ds k))
 | _,_=>none
theorem AY:Aq N 49 @Yv:=by
 intro R Q args h k j;unfold Yv;split
 exact A2 (AX ..) (AX ..) ⟨MX N,trivial⟩
 exact A5
def AZ:=A4 (AY N)
theorem hG:A1 Tryz.prog 49 (AZ N):=A6 (AY N) follows
def P4 (r0:Bool→O R) (b:LA) (a:Nat) (c d:Bool) (e:Int) (k0:Int→Int→O R) (g f:Int):O R :=
 (cond (decide (f<g)) (cond (Ad f a) (Ao .i64 (b.drop ((f.toNat)*1)) fun i=>(Db N 0 (wrap .i64 (e - 1)) [(.int .i64 i)] 1 false true (fun l=>(cond ((!l)==false) (cond ((decide (f>0))==true) (cond (Ad (wrap .i64 (f - 1)) a) (Ao .i64 (b.drop (((wrap .i64 (f - 1)).toNat)*1)) fun m=>(cond (cond false true (cond true (decide (i≤m)) false)) (r0 false) (k0 g (wrap .i64 (f+1))))) none) (k0 g (wrap .i64 (f+1)))) (r0 false))))) none) (r0 true))
def Gn (r0:Bool→O R) (b:LA) (a:Nat) (c d:Bool) (e:Int):Nat→Int→Int→O R
 | 0,_,_=>none
 | n+1,g,f=>(P4 N r0 b a c d e (Gn r0 b a c d e n) g f)
def Xg (N:Nat) (r0:Bool→O R) (q0:Int→Int→O R) (b:LA) (a:Nat) (c d:Bool) (e:Int):O R :=
 (q0 ((a:Nat):Int) 0)
def Lr:=(Ah (fun (N:Nat) (b:LA) (a:Nat) (c d:Bool) (e:Int) (r0:Bool→O R)=>(Xg N r0 (fun g f=>(Gn N r0 b a c d e N g f)) b a c d e))).1
theorem OW (b a c d e r0):(@Lr R N b a c d e r0)=(Xg N r0 (fun g f=>(Gn N r0 b a c d e N g f)) b a c d e):=by rw[Lr,(Ah _).2]
def WV:Hints:={ H:=(hS hL (hS (hS hL (hS (hP [0,1,7,8,9] hL) hL)) hL)) }
def c6:Ek:=[(47,Xf N)]
def y_ (F:KF R):=Kk Tryz.f50 WV (c6 N) [] N F
def Mt (F:KF R):Bool→O R:=(fun o=>F (.bool o) [])
def ya (b:LA) (a:Nat) (c d:Bool) (e g f:Int):St:=⟨[(0,(.imm b a 1 c d)),(1,(.int .i64 e)),(7,(.imm b a 1 c d)),(8,(.int .i64 g)),(9,(.int .i64 f))],[]⟩
def yb (F:KF R):=y_ N F [1,0,1,0] []
theorem FO (F:KF R) (b:LA) (a:Nat) (c d:Bool) (e:Int):∀ (n:Nat) (g f:Int),Ap (yb N F) n (ya b a c d e g f)=(Gn N (Mt F) b a c d e n g f)
 | 0,_,_=>by kernel_rfl
 | n+1,g,f=>Eq.trans (by kernel_rfl) (Bs (P4 N (Mt F) b a c d e · g f) (funext fun g=>funext fun f=>(FO F b a c d e n g f)):_)
theorem WW (b:LA) (a:Nat) (c d:Bool) (e:Int) (F:KF R):Cn (c6 N) WV N 50 [(.imm b a 1 c d),(.int .i64 e)] [] F=(Lr N b a c d e (Mt F)):=by
 rw[OW]
 exact Eq.trans (by kernel_rfl) (Bs (Xg N (Mt F) · b a c d e) (funext fun g=>funext fun f=>(Ak ..).trans (FO N F b a c d e N g f)):_)
def OX (args:List AV) (h:Am) (k:KF R):O R :=
 match args,h with
 | [(.imm b a 1 c d),(.int .i64 e)],[]=>(Lr N b a c d e (Mt k))
 | _,_=>none
theorem WX:Aq N 50 @OX:=by
 intro R Q args h k j;unfold OX;split
 exact A2 (WW ..) (WW ..) ⟨MX N,trivial⟩
 exact A5
def WY:=A4 (WX N)
theorem yc:A1 Tryz.prog 50 (WY N):=A6 (WX N) follows
end
end Gx

namespace Gx
open Go Go.Proofs
open IntKind (wrap)
set_option maxRecDepth 100000
noncomputable section
variable {R:Type} (N:Nat)
def Nt (N:Nat) (r0:Int→O R) (f:LA) (d:Nat) (b:Bool) (g:LA) (e:Nat) (c:Bool) (k0:Int→O R) (a:Int):O R :=
 (cond (decide (a≥0)) (cond (Ad a d) (Ao .u32 (f.drop ((a.toNat)*1)) fun r=>(cond (Ad a e) (Ao .u32 (g.drop ((a.toNat)*1)) fun s=>(cond (decide (r<s)) (r0 (-1)) (cond (Ad a d) (Ao .u32 (f.drop ((a.toNat)*1)) fun t=>(cond (Ad a e) (Ao .u32 (g.drop ((a.toNat)*1)) fun u=>(cond (decide (t>u)) (r0 1) (k0 (wrap .i64 (a - 1))))) none)) none))) none)) none) (r0 0))
def Fm (r0:Int→O R) (f:LA) (d:Nat) (b:Bool) (g:LA) (e:Nat) (c:Bool):Nat→Int→O R
 | 0,_=>none
 | n+1,a=>(Nt N r0 f d b g e c (Fm r0 f d b g e c n) a)
def Ue (r0:Int→O R) (q0:LA→Nat→LA→Nat→Int→O R) (i:LA) (l:Nat) (m b:Bool) (o:LA) (p:Nat) (q c:Bool):O R :=
 (Ci N i l m b (fun f d=>(Ci N o p q c (fun g e=>(cond (((d:Nat):Int) != ((e:Nat):Int)) (cond (decide (((d:Nat):Int)<((e:Nat):Int))) (r0 (-1)) (r0 1)) (q0 f d g e (wrap .i64 (((d:Nat):Int) - 1))))))))
def D3:=(Ah (fun (N:Nat) (i:LA) (l:Nat) (m b:Bool) (o:LA) (p:Nat) (q c:Bool) (r0:Int→O R)=>(Ue N r0 (fun f d g e a=>(Fm N r0 f d b g e c N a)) i l m b o p q c))).1
theorem JV (i l m b o p q c r0):(@D3 R N i l m b o p q c r0)=(Ue N r0 (fun f d g e a=>(Fm N r0 f d b g e c N a)) i l m b o p q c):=by rw[D3,(Ah _).2]
def OY:Hints:={ H:=(hS hL (hS hL (hS hL (hS (hS hL (hS (hP [0,1,5] hL) hL)) hL)))) }
def WZ:Ek:=[(171,P0 N)]
def s5 (F:KF R):=Kk Tryz.f132 OY (WZ N) [] N F
def Km (F:KF R):Int→O R:=(fun v=>F (.int .i64 v) [])
def s6 (f:LA) (d:Nat) (b:Bool) (g:LA) (e:Nat) (c:Bool) (a:Int):St:=⟨[(0,(.imm f d 1 false b)),(1,(.imm g e 1 false c)),(5,(.int .i64 a))],[]⟩
def s7 (F:KF R):=s5 N F [1,1,1,0,1,0] []
theorem A_ (F:KF R) (f:LA) (d:Nat) (b:Bool) (g:LA) (e:Nat) (c:Bool):∀ (n:Nat) (a:Int),Ap (s7 N F) n (s6 f d b g e c a)=(Fm N (Km F) f d b g e c n a)
 | 0,_=>by kernel_rfl
 | n+1,a=>Eq.trans (by kernel_rfl) (Bs (Nt N (Km F) f d b g e c · a) (funext fun a=>(A_ F f d b g e c n a)):_)
theorem OZ (i:LA) (l:Nat) (m b:Bool) (o:LA) (p:Nat) (q c:Bool) (F:KF R):Cn (WZ N) OY N 132 [(.imm i l 1 m b),(.imm o p 1 q c)] [] F=(D3 N i l m b o p q c (Km F)):=by
 rw[JV]
 exact Eq.trans (by kernel_rfl) (Bs (Ue N (Km F) · i l m b o p q c) (funext fun f=>funext fun d=>funext fun g=>funext fun e=>funext fun a=>(Ak ..).trans (A_ N F f d b g e c N a)):_)
def JW (args:List AV) (h:Am) (k:KF R):O R :=
 match args,h with
 | [(.imm i l 1 m b),(.imm o p 1 q c)],[]=>(D3 N i l m b o p q c (Km k))
 | _,_=>none
theorem O_:Aq N 132 @JW:=by
 intro R Q args h k j;unfold JW;split
 exact A2 (OZ ..) (OZ ..) ⟨T9 N,trivial⟩
 exact A5
def Hh:=A4 (O_ N)
theorem Kn:A1 Tryz.prog 132 (Hh N):=A6 (O_ N) follows
def c7 (r0:Int→O R) (a:LA) (c:Bool) (b:LA) (d:Bool):O R :=
 (cond (Nat.ble 2 (a.length)) (JL N (a.take 2) c (fun e=>(cond (Nat.ble 2 (b.length)) (JL N (b.take 2) d (fun f=>(cond (decide (e<f)) (r0 (-1)) (cond (decide (e>f)) (r0 1) (cond (decide (e<0)) (Ct 1 (b.drop 1) fun g i=>(Ct 1 (a.drop 1) fun l m=>(D3 N g i false d l m false c (fun n=>(r0 n))))) (Ct 1 (a.drop 1) fun o p=>(Ct 1 (b.drop 1) fun q r=>(D3 N o p false c q r false d (fun s=>(r0 s)))))))))) none))) none)
def Wj:=(Ah (fun (N:Nat) (a:LA) (c:Bool) (b:LA) (d:Bool) (r0:Int→O R)=>(c7 N r0 a c b d))).1
theorem c8 (a c b d r0):(@Wj R N a c b d r0)=(c7 N r0 a c b d):=by rw[Wj,(Ah _).2]
def Ajl:Hints:={ H:=hL }
def Aqa:Ek:=[(144,lj N),(132,Hh N)]
def jZ (F:KF R):Int→O R:=(fun t=>F (.int .i64 t) [])
theorem j0 (a:LA) (c:Bool) (b:LA) (d:Bool) (F:KF R):Cn (Aqa N) Ajl N 102 [(.pagg a c),(.pagg b d)] [] F=(Wj N a c b d (jZ F)):=by
 rw[c8]
 kernel_rfl
def c9 (args:List AV) (h:Am) (k:KF R):O R :=
 match args,h with
 | [(.pagg a c),(.pagg b d)],[]=>(Wj N a c b d (jZ k))
 | _,_=>none
theorem j1:Aq N 102 @c9:=by
 intro R Q args h k j;unfold c9;split
 exact A2 (j0 ..) (j0 ..) ⟨Acl N,Kn N,trivial⟩
 exact A5
def j2:=A4 (j1 N)
theorem Ajm:A1 Tryz.prog 102 (j2 N):=A6 (j1 N) follows
def Rd (r0:Int→O R) (c:Bool) (a:LA) (d:Bool) (b:LA):O R :=
 (cond (Nat.ble 3 (a.length)) (Kl N (a.take 3) c (fun e p q r g=>(cond ((Nat.beq 0 0)&&((Nat.beq (e.length) 2)&&(Nat.beq 2 2))) (cond (Nat.ble 3 (b.length)) (Kl N (b.take 3) d (fun f s t u i=>(cond ((Nat.beq 0 0)&&((Nat.beq (f.length) 2)&&(Nat.beq 2 2))) (cond (Nat.ble 2 (e.length)) (MW N (e.take 2) p [(.bool false),(.imm t u 1 false i)] (i||false) (fun v l w=>(cond (Nat.ble 2 (f.length)) (MW N (f.take 2) s [(.bool false),(.imm q r 1 false g)] (g||false) (fun x m y=>(Wj N [(.bool v),(.imm (w.take (l*1)) l 1 false true)] true [(.bool x),(.imm (y.take (m*1)) m 1 false true)] true (fun z=>(r0 z))))) none))) none) none))) none) none))) none)
def JX (r0:Int→O R) (q0:O R) (a:LA) (c:Bool) (b:LA) (d:Bool):O R :=
 (cond (Nat.ble 3 (a.length)) (Xe N (a.take 3) c (fun n=>(cond (Nat.ble 3 (b.length)) (Xe N (b.take 3) d (fun o=>(cond (n != o) (Is N n o (fun aa=>(r0 aa))) (cond (Nat.ble 3 (a.length)) (Gy N (a.take 3) c (fun ab ac ad=>(cond (Nat.ble 3 (b.length)) (Gy N (b.take 3) d (fun ae af ag=>(cond (ad==true) (cond (cond true ag false) (Gf N (wrap .i64 (ab*af)) (wrap .i64 (ae*ac)) (fun ah=>(r0 ah))) q0) q0))) none))) none)))) none))) none)
def Hu:=(Ah (fun (N:Nat) (a:LA) (c:Bool) (b:LA) (d:Bool) (r0:Int→O R)=>(JX N r0 (Rd N r0 c a d b) a c b d))).1
theorem c_ (a c b d r0):(@Hu R N a c b d r0)=(JX N r0 (Rd N r0 c a d b) a c b d):=by rw[Hu,(Ah _).2]
def j3:Hints:={ H:=(hS hL (hS hL (hS hL (hS hL (hJ [2,3] hL hL))))) }
def oq:Ek:=[(95,TI N),(98,FG N),(99,Yo N),(100,Ys N),(101,Td N),(103,gO N),(102,j2 N)]
def Ajn (F:KF R):=Kk Tryz.f59 j3 (oq N) [] N F
def Xh (F:KF R):Int→O R:=(fun ai=>F (.int .i64 ai) [])
def Ajo (c:Bool) (a:LA) (d:Bool) (b:LA):St:=⟨[(2,(.optr 300000 0)),(3,(.optr 300001 0))],[(300000,(bP c 0 a)),(300001,(bP d 0 b))]⟩
def Ajp (F:KF R):=Ajn N F [1,1,1,1,1] []
theorem s8 (F:KF R) (c:Bool) (a:LA) (d:Bool) (b:LA):Bb (Ajp N F) (Ajo c a d b)=(Rd N (Xh F) c a d b):=by
 kernel_rfl
theorem j4 (a:LA) (c:Bool) (b:LA) (d:Bool) (F:KF R):Cn (oq N) j3 N 59 [(.pagg a c),(.pagg b d)] [] F=(Hu N a c b d (Xh F)):=by
 rw[c_]
 exact Eq.trans (by kernel_rfl) (Bs (JX N (Xh F) · a c b d) ((As ..).trans (s8 N F c a d b)):_)
def dA (args:List AV) (h:Am) (k:KF R):O R :=
 match args,h with
 | [(.pagg a c),(.pagg b d)],[]=>(Hu N a c b d (Xh k))
 | _,_=>none
theorem j5:Aq N 59 @dA:=by
 intro R Q args h k j;unfold dA;split
 exact A2 (j4 ..) (j4 ..) ⟨lk N,ln N,JP N,cP N,Yn N,sX N,Ajm N,trivial⟩
 exact A5
def Xi:=A4 (j5 N)
theorem MY:A1 Tryz.prog 59 (Xi N):=A6 (j5 N) follows
def Mu (r0:LA→O R) (a b c:Int) (k1:Int→Int→O R) (d e:Int):O R :=
 (cond (e != 0) (cond (e==0) none (k1 e (Int.tmod d e))) (cond (d==0) none (Bw N (wrap .u64 (Int.tdiv c d)) (fun f i=>(cond (d==0) none (Bw N (wrap .u64 (Int.tdiv (wrap .u64 b) d)) (fun g l=>(r0 [(.bool (decide (a<0))),(.imm (i.take (f*1)) f 1 false false),(.imm (l.take (g*1)) g 1 false false)]))))))))
def Dc (r0:LA→O R) (a b c:Int):Nat→Int→Int→O R
 | 0,_,_=>none
 | n+1,d,e=>(Mu N r0 a b c (Dc r0 a b c n) d e)
def Z6 (N:Nat) (r0:LA→O R) (a b:Int) (q1:Int→Int→O R) (c:Int):O R :=
 (q1 (wrap .u64 b) c)
def Uf (r0:LA→O R) (a b:Int) (c:Int):O R:=(Z6 N r0 a b (fun d e=>(Dc N r0 a b c N d e)) c)
def CP (N:Nat) (r0:LA→O R) (q0:Int→O R) (a b:Int):O R :=
 (cond (decide (a<0)) (q0 (wrap .u64 ((0:Int) - (wrap .u64 a)))) (q0 (wrap .u64 a)))
def I6:=(Ah (fun (N:Nat) (a b:Int) (r0:LA→O R)=>(CP N r0 (fun c=>(Uf N r0 a b c)) a b))).1
theorem W_ (a b r0):(@I6 R N a b r0)=(CP N r0 (fun c=>(Uf N r0 a b c)) a b):=by rw[I6,(Ah _).2]
def dB:Hints:={ H:=(hS hL (hS hL (hJ [0,1,4,5] hL (hS hL (hS (hS (hP [0,1,4,5,6,7] hL) hL) hL))))),modes:=[(3,0)] }
def j6:Ek:=[(149,Fk N)]
def dC (F:KF R):=Kk Tryz.f131 dB (j6 N) [] N F
def Hv (F:KF R):LA→O R:=(fun m=>F (.pagg m false) [])
def Ac5 (a b c d e:Int):St:=⟨[(0,(.int .i64 a)),(1,(.int .i64 b)),(4,(.optr 300000 0)),(5,(.int .u64 c)),(6,(.int .u64 d)),(7,(.int .u64 e))],[(300000,⟨false,false,false,false,0,[(.bool false),.nsl,.nsl],false⟩)]⟩
def Ac6 (F:KF R):=dC N F [1,1,1,1,0,0] []
def Ac7 (a b c:Int):St:=⟨[(0,(.int .i64 a)),(1,(.int .i64 b)),(4,(.optr 300000 0)),(5,(.int .u64 c))],[(300000,⟨false,false,false,false,0,[(.bool false),.nsl,.nsl],false⟩)]⟩
def Ac8 (F:KF R):=dC N F [1,1,1] []
theorem JY (F:KF R) (a b c:Int):∀ (n:Nat) (d e:Int),Ap (Ac6 N F) n (Ac5 a b c d e)=(Dc N (Hv F) a b c n d e)
 | 0,_,_=>by kernel_rfl
 | n+1,d,e=>Eq.trans (by kernel_rfl) (Bs (Mu N (Hv F) a b c · d e) (funext fun d=>funext fun e=>(JY F a b c n d e)):_)
theorem ot (F:KF R) (a b:Int):∀ (c:Int),Bb (Ac8 N F) (Ac7 a b c)=(Uf N (Hv F) a b c):=by
 intro c
 exact Eq.trans (by kernel_rfl) (Bs (Z6 N (Hv F) a b · c) (funext fun d=>funext fun e=>(Ak ..).trans (JY N F a b c N d e)):_)
theorem dD (a b:Int) (F:KF R):Cn (j6 N) dB N 131 [(.int .i64 a),(.int .i64 b)] [] F=(I6 N a b (Hv F)):=by
 rw[W_]
 exact Eq.trans (by kernel_rfl) (Bs (CP N (Hv F) · a b) (funext fun c=>(As ..).trans (ot N F a b c)):_)
def XA (args:List AV) (h:Am) (k:KF R):O R :=
 match args,h with
 | [(.int .i64 a),(.int .i64 b)],[]=>(I6 N a b (Hv k))
 | _,_=>none
theorem dE:Aq N 131 @XA:=by
 intro R Q args h k j;unfold XA;split
 exact A2 (dD ..) (dD ..) ⟨Hg N,trivial⟩
 exact A5
def Ug:=A4 (dE N)
theorem FP:A1 Tryz.prog 131 (Ug N):=A6 (dE N) follows
def Ac9 (r0:Nat→LA→O R) (b:LA) (c:Nat) (d a:Bool):O R :=
 (Ci N b c d a (fun f e=>(cond ((decide (0≤((e:Nat):Int)))&&((decide (((e:Nat):Int)≤((e:Nat):Int)))&&((decide (((e:Nat):Int)≤140737488355328))&&(decide ((((e:Nat):Int)*((4:Nat):Int))≤140737488355328))))) (cond ((!a)||(Bd f)) (r0 e (Cr (List.replicate e (.int .u32 0)) 0 (f.take ((min e e)*1)))) none) none)))
def Xj:=(Ah (fun (N:Nat) (b:LA) (c:Nat) (d a:Bool) (r0:Nat→LA→O R)=>(Ac9 N r0 b c d a))).1
theorem wC (b c d a r0):(@Xj R N b c d a r0)=(Ac9 N r0 b c d a):=by rw[Xj,(Ah _).2]
def Ay6:Hints:={ H:=hL,nils:=[(2,1)],modes:=[(2,1)] }
def A35:Ek:=[(171,P0 N)]
def Ada (F:KF R):Nat→LA→O R:=(fun g i=>F (.own 300000 0 g) [(300000,(bQ 1 i))])
theorem Adb (b:LA) (c:Nat) (d a:Bool) (F:KF R):Cn (A35 N) Ay6 N 173 [(.imm b c 1 d a)] [] F=(Xj N b c d a (Ada F)):=by
 rw[wC]
 kernel_rfl
def wD (args:List AV) (h:Am) (k:KF R):O R :=
 match args,h with
 | [(.imm b c 1 d a)],[]=>(Xj N b c d a (Ada k))
 | _,_=>none
theorem Adc:Aq N 173 @wD:=by
 intro R Q args h k j;unfold wD;split
 exact A2 (Adb ..) (Adb ..) ⟨T9 N,trivial⟩
 exact A5
def FQ:=A4 (Adc N)
theorem TQ:A1 Tryz.prog 173 (FQ N):=A6 (Adc N) follows
def Add (r0:Bool→Nat→LA→O R) (a:LA) (b:Bool):O R :=
 (N_ a fun e=>(Ct 1 (a.drop 1) fun f g=>(Xj N f g false b (fun c d=>(Ir N e c d (fun i=>(r0 i c d)))))))
def gR:=(Ah (fun (N:Nat) (a:LA) (b:Bool) (r0:Bool→Nat→LA→O R)=>(Add N r0 a b))).1
theorem wE (a b r0):(@gR R N a b r0)=(Add N r0 a b):=by rw[gR,(Ah _).2]
def Ay7:Hints:={ H:=hL }
def A36:Ek:=[(173,FQ N),(148,T8 N)]
def Ade (F:KF R):Bool→Nat→LA→O R:=(fun l m n=>F (.agg [(.bool l),(.own 300000 0 m)]) [(300000,(bQ 1 n))])
theorem Adf (a:LA) (b:Bool) (F:KF R):Cn (A36 N) Ay7 N 172 [(.pagg a b)] [] F=(gR N a b (Ade F)):=by
 rw[wE]
 kernel_rfl
def wF (args:List AV) (h:Am) (k:KF R):O R :=
 match args,h with
 | [(.pagg a b)],[]=>(gR N a b (Ade k))
 | _,_=>none
theorem Adg:Aq N 172 @wF:=by
 intro R Q args h k j;unfold wF;split
 exact A2 (Adf ..) (Adf ..) ⟨TQ N,CN N,trivial⟩
 exact A5
def Adh:=A4 (Adg N)
theorem Ay8:A1 Tryz.prog 172 (Adh N):=A6 (Adg N) follows
def Fn (N:Nat) (r0:Int→O R) (a b:Int):O R :=
 (cond (decide (a≥256)) (cond (Ad (wrap .u8 (Int.fdiv a (2 ^ 8))) 256) (r0 (wrap .i64 ((wrap .i64 (b+8))+(wrap .i64 ((UInt8.toNat (List.getD ([0,1,2,2,3,3,3,3,4,4,4,4,4,4,4,4,5,5,5,5,5,5,5,5,5,5,5,5,5,5,5,5,6,6,6,6,6,6,6,6,6,6,6,6,6,6,6,6,6,6,6,6,6,6,6,6,6,6,6,6,6,6,6,6,7,7,7,7,7,7,7,7,7,7,7,7,7,7,7,7,7,7,7,7,7,7,7,7,7,7,7,7,7,7,7,7,7,7,7,7,7,7,7,7,7,7,7,7,7,7,7,7,7,7,7,7,7,7,7,7,7,7,7,7,7,7,7,7,8,8,8,8,8,8,8,8,8,8,8,8,8,8,8,8,8,8,8,8,8,8,8,8,8,8,8,8,8,8,8,8,8,8,8,8,8,8,8,8,8,8,8,8,8,8,8,8,8,8,8,8,8,8,8,8,8,8,8,8,8,8,8,8,8,8,8,8,8,8,8,8,8,8,8,8,8,8,8,8,8,8,8,8,8,8,8,8,8,8,8,8,8,8,8,8,8,8,8,8,8,8,8,8,8,8,8,8,8,8,8,8,8,8,8,8,8,8,8,8,8,8,8,8,8,8,8,8]:List UInt8) ((wrap .u8 (Int.fdiv a (2 ^ 8))).toNat) 0):Nat):Int))))) none) (cond (Ad (wrap .u8 a) 256) (r0 (wrap .i64 (b+(wrap .i64 ((UInt8.toNat (List.getD ([0,1,2,2,3,3,3,3,4,4,4,4,4,4,4,4,5,5,5,5,5,5,5,5,5,5,5,5,5,5,5,5,6,6,6,6,6,6,6,6,6,6,6,6,6,6,6,6,6,6,6,6,6,6,6,6,6,6,6,6,6,6,6,6,7,7,7,7,7,7,7,7,7,7,7,7,7,7,7,7,7,7,7,7,7,7,7,7,7,7,7,7,7,7,7,7,7,7,7,7,7,7,7,7,7,7,7,7,7,7,7,7,7,7,7,7,7,7,7,7,7,7,7,7,7,7,7,7,8,8,8,8,8,8,8,8,8,8,8,8,8,8,8,8,8,8,8,8,8,8,8,8,8,8,8,8,8,8,8,8,8,8,8,8,8,8,8,8,8,8,8,8,8,8,8,8,8,8,8,8,8,8,8,8,8,8,8,8,8,8,8,8,8,8,8,8,8,8,8,8,8,8,8,8,8,8,8,8,8,8,8,8,8,8,8,8,8,8,8,8,8,8,8,8,8,8,8,8,8,8,8,8,8,8,8,8,8,8,8,8,8,8,8,8,8,8,8,8,8,8,8,8,8,8,8,8]:List UInt8) ((wrap .u8 a).toNat) 0):Nat):Int))))) none))
def P5 (N:Nat) (r0:Int→O R) (q0:Int→Int→O R) (c:Int):O R :=
 (cond (decide (c≥65536)) (q0 (Int.fdiv c (2 ^ 16)) 16) (q0 c 0))
def Iu:=(Ah (fun (N:Nat) (c:Int) (r0:Int→O R)=>(P5 N r0 (fun a b=>(Fn N r0 a b)) c))).1
theorem BA (c r0):(@Iu R N c r0)=(P5 N r0 (fun a b=>(Fn N r0 a b)) c):=by rw[Iu,(Ah _).2]
def FR:Hints:={ H:=(hS hL (hJ [0,2] hL hL)) }
def mE (F:KF R):=Kk Tryz.f205 FR [] [] N F
def Ls (F:KF R):Int→O R:=(fun d=>F (.int .i64 d) [])
def mF (a b:Int):St:=⟨[(0,(.int .u32 a)),(2,(.int .i64 b))],[]⟩
def mG (F:KF R):=mE N F [1,1] []
theorem aI (F:KF R):∀ (a b:Int),Bb (mG N F) (mF a b)=(Fn N (Ls F) a b):=by
 intro a b
 kernel_rfl
theorem FS (c:Int) (F:KF R):Cn [] FR N 205 [(.int .u32 c)] [] F=(Iu N c (Ls F)):=by
 rw[BA]
 exact Eq.trans (by kernel_rfl) (Bs (P5 N (Ls F) · c) (funext fun a=>funext fun b=>(As ..).trans (aI N F a b)):_)
def BB (args:List AV) (h:Am) (k:KF R):O R :=
 match args,h with
 | [(.int .u32 c)],[]=>(Iu N c (Ls k))
 | _,_=>none
theorem FT:Aq N 205 @BB:=by
 intro R Q args h k j;unfold BB;split
 exact A2 (FS ..) (FS ..) trivial
 exact A5
def FU:=A4 (FT N)
theorem mH:A1 Tryz.prog 205 (FU N):=A6 (FT N) follows
def Ij (r0:Int→O R) (a:Int):O R :=
 (Iu N a (fun b=>(r0 (wrap .i64 (32 - b)))))
def Bx:=(Ah (fun (N:Nat) (a:Int) (r0:Int→O R)=>(Ij N r0 a))).1
theorem Mv (a r0):(@Bx R N a r0)=(Ij N r0 a):=by rw[Bx,(Ah _).2]
def CQ:Hints:={ H:=hL }
def FV:Ek:=[(205,FU N)]
def Nu (F:KF R):Int→O R:=(fun c=>F (.int .i64 c) [])
theorem Nv (a:Int) (F:KF R):Cn (FV N) CQ N 200 [(.int .u32 a)] [] F=(Bx N a (Nu F)):=by
 rw[Mv]
 kernel_rfl
def Mw (args:List AV) (h:Am) (k:KF R):O R :=
 match args,h with
 | [(.int .u32 a)],[]=>(Bx N a (Nu k))
 | _,_=>none
theorem Nw:Aq N 200 @Mw:=by
 intro R Q args h k j;unfold Mw;split
 exact A2 (Nv ..) (Nv ..) ⟨mH N,trivial⟩
 exact A5
def G1:=A4 (Nw N)
theorem Nx:A1 Tryz.prog 200 (G1 N):=A6 (Nw N) follows
def MZ (N:Nat) (r0:Int→O R) (e:Int) (b:LA) (a:Nat) (c d:Bool):O R :=
 (cond (decide (e<((a:Nat):Int))) (cond (Ad e a) (Ao .u32 (b.drop ((e.toNat)*1)) fun f=>(r0 (wrap .u64 f))) none) (r0 0))
def I7:=(Ah (fun (N:Nat) (e:Int) (b:LA) (a:Nat) (c d:Bool) (r0:Int→O R)=>(MZ N r0 e b a c d))).1
theorem O' (e b a c d r0):(@I7 R N e b a c d r0)=(MZ N r0 e b a c d):=by rw[I7,(Ah _).2]
def yd:Hints:={ H:=hL }
def XB (b:LA) (a:Nat) (c d:Bool) (F:KF R):Int→O R:=(fun g=>F (.int .u64 g) [(100000,⟨false,false,false,false,0,[(.imm b a 1 c d)],false⟩)])
theorem XC (e:Int) (b:LA) (a:Nat) (c d:Bool) (F:KF R):Cn [] yd N 206 [(.int .i64 e),(.optr 100000 0)] [(100000,⟨false,false,false,false,0,[(.imm b a 1 c d)],false⟩)] F=(I7 N e b a c d (XB b a c d F)):=by
 rw[O']
 kernel_rfl
def PA (args:List AV) (h:Am) (k:KF R):O R :=
 match args,h with
 | [(.int .i64 e),(.optr 100000 0)],[(100000,⟨false,false,false,false,0,[(.imm b a 1 c d)],false⟩)]=>(I7 N e b a c d (XB b a c d k))
 | _,_=>none
theorem XD:Aq N 206 @PA:=by
 intro R Q args h k j;unfold PA;split
 exact A2 (XC ..) (XC ..) trivial
 exact A5
def XE:=A4 (XD N)
theorem ye:A1 Tryz.prog 206 (XE N):=A6 (XD N) follows
def mI (r0:Int→O R) (b:LA) (c:Nat) (d e:Bool) (f a:Int):O R :=
 (I7 N (wrap .i64 (f - 1)) b c d e (fun g=>(I7 N (wrap .i64 (f - 2)) b c d e (fun i=>(cond (decide (a<0)) none (I7 N (wrap .i64 (f - 3)) b c d e (fun l=>(cond (decide ((wrap .i64 (32 - a))<0)) none (r0 (Ta .u64 (wrap .u64 ((Ta .u64 (wrap .u64 (g*2 ^ 32)) i)*2 ^ (min (a.toNat) 64))) (Int.fdiv l (2 ^ (min ((wrap .i64 (32 - a)).toNat) 64)))))))))))))
def Wk:=(Ah (fun (N:Nat) (b:LA) (c:Nat) (d e:Bool) (f a:Int) (r0:Int→O R)=>(mI N r0 b c d e f a))).1
theorem j7 (b c d e f a r0):(@Wk R N b c d e f a r0)=(mI N r0 b c d e f a):=by rw[Wk,(Ah _).2]
def Aqb:Hints:={ H:=hL }
def Auu:Ek:=[(206,XE N)]
def ou (F:KF R):Int→O R:=(fun m=>F (.int .u64 m) [])
theorem ov (b:LA) (c:Nat) (d e:Bool) (f a:Int) (F:KF R):Cn (Auu N) Aqb N 201 [(.imm b c 1 d e),(.int .i64 f),(.int .i64 a)] [] F=(Wk N b c d e f a (ou F)):=by
 rw[j7]
 kernel_rfl
def j8 (args:List AV) (h:Am) (k:KF R):O R :=
 match args,h with
 | [(.imm b c 1 d e),(.int .i64 f),(.int .i64 a)],[]=>(Wk N b c d e f a (ou k))
 | _,_=>none
theorem ow:Aq N 201 @j8:=by
 intro R Q args h k j;unfold j8;split
 exact A2 (ov ..) (ov ..) ⟨ye N,trivial⟩
 exact A5
def oz:=A4 (ow N)
theorem Aqc:A1 Tryz.prog 201 (oz N):=A6 (ow N) follows
def Xk (N:Nat) (k0:Int→Int→Int→Int→Int→Int→Int→Int→Bool→O R) (r0:LA→O R) (p m q r s t:Int) (v:Bool):O R :=
 (cond (m==0) none (cond (m==0) none (k0 m (Int.tmod p m) q r (wrap .u64 (q+(wrap .u64 ((wrap .u64 (Int.tdiv p m))*r)))) s t (wrap .u64 (s+(wrap .u64 ((wrap .u64 (Int.tdiv p m))*t)))) (!v))))
def Ko (N:Nat) (r0:LA→O R) (k0:Int→Int→Int→Int→Int→Int→Int→Int→Bool→O R) (q1:Int→Int→Int→Int→Int→Int→Bool→O R) (f b g c l i a d:Int) (e:Bool):O R :=
 (cond ((decide (b≥d))==true) (cond (cond true (decide ((wrap .u64 (f - b))≥(wrap .u64 (a+d)))) false) (q1 f b c l a d e) (r0 [(.int .u64 g),(.int .u64 c),(.int .u64 i),(.int .u64 a),(.bool e)])) (r0 [(.int .u64 g),(.int .u64 c),(.int .u64 i),(.int .u64 a),(.bool e)]))
def Eo (r0:LA→O R):Nat→Int→Int→Int→Int→Int→Int→Int→Int→Bool→O R
 | 0,_,_,_,_,_,_,_,_,_=>none
 | n+1,f,b,g,c,l,i,a,d,e=>(Ko N r0 (Eo r0 n) (fun p m q r s t v=>(Xk N (Eo r0 n) r0 p m q r s t v)) f b g c l i a d e)
def JZ (r0:LA→O R) (q0:Int→Int→Int→Int→Int→Int→Int→Int→Bool→O R) (u:LA) (o:Nat) (aa w:Bool) (x:LA) (y:Nat) (ab z:Bool):O R :=
 (cond (Ad (wrap .i64 (((o:Nat):Int) - 1)) o) (Ao .u32 (u.drop (((wrap .i64 (((o:Nat):Int) - 1)).toNat)*1)) fun ad=>(Bx N ad (fun ac=>(Wk N u o false w ((o:Nat):Int) ac (fun ae=>(Wk N x y false z ((o:Nat):Int) ac (fun af=>(q0 ae af 0 1 0 0 0 1 false)))))))) none)
def Wl:=(Ah (fun (N:Nat) (u:LA) (o:Nat) (aa w:Bool) (x:LA) (y:Nat) (ab z:Bool) (r0:LA→O R)=>(JZ N r0 (fun f b g c l i a d e=>(Eo N r0 N f b g c l i a d e)) u o aa w x y ab z))).1
theorem dF (u o aa w x y ab z r0):(@Wl R N u o aa w x y ab z r0)=(JZ N r0 (fun f b g c l i a d e=>(Eo N r0 N f b g c l i a d e)) u o aa w x y ab z):=by rw[Wl,(Ah _).2]
def j9:Hints:={ H:=(hS hL (hS hL (hS hL (hS hL (hS hL (hS hL (hS hL (hS (hS (hP [4,7,8,9,10,11,12,13,14,15] (hJ [4,7,8,10,11,13,14,15] hL hL)) hL) hL)))))))),modes:=[(3,0)] }
def pA:Ek:=[(200,G1 N),(201,oz N)]
def j_ (F:KF R):=Kk Tryz.f195 j9 (pA N) [] N F
def Jr (F:KF R):LA→O R:=(fun ag=>F (.pagg ag false) [])
def Ajq (p m q r s t:Int) (v:Bool):St:=⟨[(4,(.optr 300000 0)),(7,(.int .u64 p)),(8,(.int .u64 m)),(10,(.int .u64 q)),(11,(.int .u64 r)),(13,(.int .u64 s)),(14,(.int .u64 t)),(15,(.bool v))],[(300000,(bQ 0 [(.int .u64 0),(.int .u64 0),(.int .u64 0),(.int .u64 0),(.bool false)]))]⟩
def Ajr (F:KF R) (Q0:St→O R):=j_ N F [1,1,1,1,1,1,1,0,0,0,1] [Q0]
def ja (f b g c l i a d:Int) (e:Bool):St:=⟨[(4,(.optr 300000 0)),(7,(.int .u64 f)),(8,(.int .u64 b)),(9,(.int .u64 g)),(10,(.int .u64 c)),(11,(.int .u64 l)),(12,(.int .u64 i)),(13,(.int .u64 a)),(14,(.int .u64 d)),(15,(.bool e))],[(300000,(bQ 0 [(.int .u64 0),(.int .u64 0),(.int .u64 0),(.int .u64 0),(.bool false)]))]⟩
def jb (F:KF R):=j_ N F [1,1,1,1,1,1,1,0,0] []
theorem s9 (Q0:St→O R) (F:KF R):∀ (p m q r s t:Int) (v:Bool),Bb (Ajr N F Q0) (Ajq p m q r s t v)=(Xk N (fun f b g c l i a d e=>Q0 (ja f b g c l i a d e)) (Jr F) p m q r s t v):=by
 intro p m q r s t v
 kernel_rfl
theorem PB (F:KF R):∀ (n:Nat) (f b g c l i a d:Int) (e:Bool),Ap (jb N F) n (ja f b g c l i a d e)=(Eo N (Jr F) n f b g c l i a d e)
 | 0,_,_,_,_,_,_,_,_,_=>by kernel_rfl
 | n+1,f,b,g,c,l,i,a,d,e=>have e0:=(funext fun f=>funext fun b=>funext fun g=>funext fun c=>funext fun l=>funext fun i=>funext fun a=>funext fun d=>funext fun e=>(PB F n f b g c l i a d e))
  Eq.trans (by kernel_rfl) (bJ (Ko N (Jr F) · · f b g c l i a d e) e0 (funext fun p=>funext fun m=>funext fun q=>funext fun r=>funext fun s=>funext fun t=>funext fun v=>(As ..).trans ((s9 N (Ap (jb N F) n) F p m q r s t v).trans (Bs (Xk N · (Jr F) p m q r s t v) e0))):_)
theorem jc (u:LA) (o:Nat) (aa w:Bool) (x:LA) (y:Nat) (ab z:Bool) (F:KF R):Cn (pA N) j9 N 195 [(.imm u o 1 aa w),(.imm x y 1 ab z)] [] F=(Wl N u o aa w x y ab z (Jr F)):=by
 rw[dF]
 exact Eq.trans (by kernel_rfl) (Bs (JZ N (Jr F) · u o aa w x y ab z) (funext fun f=>funext fun b=>funext fun g=>funext fun c=>funext fun l=>funext fun i=>funext fun a=>funext fun d=>funext fun e=>(Ak ..).trans (PB N F N f b g c l i a d e)):_)
def dG (args:List AV) (h:Am) (k:KF R):O R :=
 match args,h with
 | [(.imm u o 1 aa w),(.imm x y 1 ab z)],[]=>(Wl N u o aa w x y ab z (Jr k))
 | _,_=>none
theorem jd:Aq N 195 @dG:=by
 intro R Q args h k j;unfold dG;split
 exact A2 (jc ..) (jc ..) ⟨Nx N,Aqc N,trivial⟩
 exact A5
def je:=A4 (jd N)
theorem Ajs:A1 Tryz.prog 195 (je N):=A6 (jd N) follows
def J9 (r0:Nat→Nat→LA→LA→O R) (c:LA) (a:Nat) (d e:Bool) (b:Int) (k0:Int→Int→LA→O R) (i f:Int) (g:LA):O R :=
 (cond (decide (f≥0)) (cond (Ad f a) (Ao .u32 (c.drop ((f.toNat)*1)) fun l=>(cond ((wrap .u64 b)==0) none (cond (Ad f a) (cond ((Nat.beq 1 1)&&((Nat.ble ((0+((f.toNat)*1))+1) (g.length))&&(!false))) (cond ((wrap .u64 b)==0) none (k0 (Int.tmod (Ta .u64 (wrap .u64 (i*2 ^ 32)) (wrap .u64 l)) (wrap .u64 b)) (wrap .i64 (f - 1)) (g.set (0+((f.toNat)*1)) (.int .u32 (wrap .u32 (wrap .u64 (Int.tdiv (Ta .u64 (wrap .u64 (i*2 ^ 32)) (wrap .u64 l)) (wrap .u64 b)))))))) none) none))) none) (Wc N a g (fun m=>(Bw N i (fun o p=>(r0 m o g p))))))
def D9 (r0:Nat→Nat→LA→LA→O R) (c:LA) (a:Nat) (d e:Bool) (b:Int):Nat→Int→Int→LA→O R
 | 0,_,_,_=>none
 | n+1,i,f,g=>(J9 N r0 c a d e b (D9 r0 c a d e b n) i f g)
def P6 (N:Nat) (r0:Nat→Nat→LA→LA→O R) (q0:Int→Int→LA→O R) (c:LA) (a:Nat) (d e:Bool) (b:Int):O R :=
 (cond ((decide (0≤((a:Nat):Int)))&&((decide (((a:Nat):Int)≤((a:Nat):Int)))&&((decide (((a:Nat):Int)≤140737488355328))&&(decide ((((a:Nat):Int)*((4:Nat):Int))≤140737488355328))))) (q0 0 (wrap .i64 (((a:Nat):Int) - 1)) (List.replicate a (.int .u32 0))) none)
def Gp:=(Ah (fun (N:Nat) (c:LA) (a:Nat) (d e:Bool) (b:Int) (r0:Nat→Nat→LA→LA→O R)=>(P6 N r0 (fun i f g=>(D9 N r0 c a d e b N i f g)) c a d e b))).1
theorem BC (c a d e b r0):(@Gp R N c a d e b r0)=(P6 N r0 (fun i f g=>(D9 N r0 c a d e b N i f g)) c a d e b):=by rw[Gp,(Ah _).2]
def FW:Hints:={ H:=(hS hL (hS hL (hS hL (hS (hS hL (hS (hP [0,1,4,6,7] hL) hL)) hL)))),nils:=[(4,1),(5,1)],modes:=[(2,1),(2,1)] }
def J_:Ek:=[(171,gJ N),(149,Fk N)]
def mJ (F:KF R):=Kk Tryz.f197 FW (J_ N) [] N F
def Hw (F:KF R):Nat→Nat→LA→LA→O R:=(fun q r s t=>F (.tup [(.own 300000 0 q),(.own 300001 0 r)]) [(300000,(bQ 1 s)),(300001,(bQ 1 t))])
def mK (c:LA) (a:Nat) (d e:Bool) (b i f:Int) (g:LA):St:=⟨[(0,(.imm c a 1 d e)),(1,(.int .u32 b)),(4,(.own 300000 0 a)),(6,(.int .u64 i)),(7,(.int .i64 f))],[(300000,(bQ 1 g))]⟩
def mL (F:KF R):=mJ N F [1,1,1,0,1,0] []
theorem Vj (F:KF R) (c:LA) (a:Nat) (d e:Bool) (b:Int):∀ (n:Nat) (i f:Int) (g:LA),Ap (mL N F) n (mK c a d e b i f g)=(D9 N (Hw F) c a d e b n i f g)
 | 0,_,_,_=>by kernel_rfl
 | n+1,i,f,g=>Eq.trans (by kernel_rfl) (Bs (J9 N (Hw F) c a d e b · i f g) (funext fun i=>funext fun f=>funext fun g=>(Vj F c a d e b n i f g)):_)
theorem FX (c:LA) (a:Nat) (d e:Bool) (b:Int) (F:KF R):Cn (J_ N) FW N 197 [(.imm c a 1 d e),(.int .u32 b)] [] F=(Gp N c a d e b (Hw F)):=by
 rw[BC]
 exact Eq.trans (by kernel_rfl) (Bs (P6 N (Hw F) · c a d e b) (funext fun i=>funext fun f=>funext fun g=>(Ak ..).trans (Vj N F c a d e b N i f g)):_)
def BD (args:List AV) (h:Am) (k:KF R):O R :=
 match args,h with
 | [(.imm c a 1 d e),(.int .u32 b)],[]=>(Gp N c a d e b (Hw k))
 | _,_=>none
theorem FY:Aq N 197 @BD:=by
 intro R Q args h k j;unfold BD;split
 exact A2 (FX ..) (FX ..) ⟨sR N,Hg N,trivial⟩
 exact A5
def FZ:=A4 (FY N)
theorem mM:A1 Tryz.prog 197 (FZ N):=A6 (FY N) follows
def Uh (N:Nat) (r0:Nat→LA→O R) (c:LA) (a:Nat) (d e:Bool) (b:Int) (k0:Nat→Int→Int→Int→LA→O R) (g:Nat) (l m f:Int) (i:LA):O R :=
 (cond (decide (f<m)) (cond (Ad f a) (Ao .u32 (c.drop ((f.toNat)*1)) fun o=>(cond (decide (b<0)) none (cond (Ad f g) (cond ((Nat.beq 1 1)&&((Nat.ble ((0+((f.toNat)*1))+1) (i.length))&&(!false))) (k0 g (Int.fdiv (Ta .u64 l (wrap .u64 ((wrap .u64 o)*2 ^ (min (b.toNat) 64)))) (2 ^ 32)) m (wrap .i64 (f+1)) (i.set (0+((f.toNat)*1)) (.int .u32 (wrap .u32 (Ta .u64 l (wrap .u64 ((wrap .u64 o)*2 ^ (min (b.toNat) 64)))))))) none) none))) none) (cond (Ad ((a:Nat):Int) g) (cond ((Nat.beq 1 1)&&((Nat.ble ((0+(a*1))+1) (i.length))&&(!false))) (r0 g (i.set (0+(a*1)) (.int .u32 (wrap .u32 l)))) none) none))
def Js (r0:Nat→LA→O R) (c:LA) (a:Nat) (d e:Bool) (b:Int):Nat→Nat→Int→Int→Int→LA→O R
 | 0,_,_,_,_,_=>none
 | n+1,g,l,m,f,i=>(Uh N r0 c a d e b (Js r0 c a d e b n) g l m f i)
def KA (N:Nat) (r0:Nat→LA→O R) (q0:Nat→Int→Int→Int→LA→O R) (c:LA) (a:Nat) (d e:Bool) (b:Int):O R :=
 (cond ((decide (0≤(wrap .i64 (((a:Nat):Int)+1))))&&((decide ((wrap .i64 (((a:Nat):Int)+1))≤(wrap .i64 (((a:Nat):Int)+1))))&&((decide ((wrap .i64 (((a:Nat):Int)+1))≤140737488355328))&&(decide (((wrap .i64 (((a:Nat):Int)+1))*((4:Nat):Int))≤140737488355328))))) (q0 ((wrap .i64 (((a:Nat):Int)+1)).toNat) 0 ((a:Nat):Int) 0 (List.replicate ((wrap .i64 (((a:Nat):Int)+1)).toNat) (.int .u32 0))) none)
def Sj:=(Ah (fun (N:Nat) (c:LA) (a:Nat) (d e:Bool) (b:Int) (r0:Nat→LA→O R)=>(KA N r0 (fun g l m f i=>(Js N r0 c a d e b N g l m f i)) c a d e b))).1
theorem dH (c a d e b r0):(@Sj R N c a d e b r0)=(KA N r0 (fun g l m f i=>(Js N r0 c a d e b N g l m f i)) c a d e b):=by rw[Sj,(Ah _).2]
def jf:Hints:={ H:=(hS hL (hS hL (hS hL (hS (hS hL (hS (hP [0,1,5,6,13,14,15] hL) hL)) hL)))),nils:=[(4,1)],modes:=[(2,1)] }
def Ajt (F:KF R):=Kk Tryz.f202 jf [] [] N F
def Re (F:KF R):Nat→LA→O R:=(fun p q=>F (.own 300000 0 p) [(300000,(bQ 1 q))])
def Aju (c:LA) (a:Nat) (d e:Bool) (b:Int) (g:Nat) (l m f:Int) (i:LA):St:=⟨[(0,(.imm c a 1 d e)),(1,(.int .i64 b)),(5,(.own 300000 0 g)),(6,(.int .u64 l)),(13,(.imm c a 1 d e)),(14,(.int .i64 m)),(15,(.int .i64 f))],[(300000,(bQ 1 i))]⟩
def Ajv (F:KF R):=Ajt N F [1,1,1,0,1,0] []
theorem PC (F:KF R) (c:LA) (a:Nat) (d e:Bool) (b:Int):∀ (n g:Nat) (l m f:Int) (i:LA),Ap (Ajv N F) n (Aju c a d e b g l m f i)=(Js N (Re F) c a d e b n g l m f i)
 | 0,_,_,_,_,_=>by kernel_rfl
 | n+1,g,l,m,f,i=>Eq.trans (by kernel_rfl) (Bs (Uh N (Re F) c a d e b · g l m f i) (funext fun g=>funext fun l=>funext fun m=>funext fun f=>funext fun i=>(PC F c a d e b n g l m f i)):_)
theorem jg (c:LA) (a:Nat) (d e:Bool) (b:Int) (F:KF R):Cn [] jf N 202 [(.imm c a 1 d e),(.int .i64 b)] [] F=(Sj N c a d e b (Re F)):=by
 rw[dH]
 exact Eq.trans (by kernel_rfl) (Bs (KA N (Re F) · c a d e b) (funext fun g=>funext fun l=>funext fun m=>funext fun f=>funext fun i=>(Ak ..).trans (PC N F c a d e b N g l m f i)):_)
def dI (args:List AV) (h:Am) (k:KF R):O R :=
 match args,h with
 | [(.imm c a 1 d e),(.int .i64 b)],[]=>(Sj N c a d e b (Re k))
 | _,_=>none
theorem jh:Aq N 202 @dI:=by
 intro R Q args h k j;unfold dI;split
 exact A2 (jg ..) (jg ..) trivial
 exact A5
def ji:=A4 (jh N)
theorem Ajw:A1 Tryz.prog 202 (ji N):=A6 (jh N) follows
def P7 (N:Nat) (r0:Int→LA→O R) (b c:Nat) (d l:Int) (e:LA) (a:Nat) (f g:Bool) (k4:Int→Int→Int→LA→O R) (u v p:Int) (s:LA):O R :=
 (cond (decide (p<v)) (cond (Ad p a) (Ao .u32 (e.drop ((p.toNat)*1)) fun z=>(cond (Ad p c) (Ao .u32 (s.drop (b+((p.toNat)*1))) fun aa=>(cond (Ad p c) (cond ((Nat.beq 1 1)&&((Nat.ble ((b+((p.toNat)*1))+1) (s.length))&&(!false))) (k4 (Int.fdiv (wrap .u64 (u+(wrap .u64 ((wrap .u64 aa)+(wrap .u64 z))))) (2 ^ 32)) v (wrap .i64 (p+1)) (s.set (b+((p.toNat)*1)) (.int .u32 (wrap .u32 (wrap .u64 (u+(wrap .u64 ((wrap .u64 aa)+(wrap .u64 z))))))))) none) none)) none)) none) (cond (Ad d c) (Ao .u32 (s.drop (b+((d.toNat)*1))) fun ah=>(cond (Ad d c) (cond ((Nat.beq 1 1)&&((Nat.ble ((b+((d.toNat)*1))+1) (s.length))&&(!false))) (r0 (wrap .u32 (wrap .u64 (l - 1))) (s.set (b+((d.toNat)*1)) (.int .u32 (wrap .u32 (ah+(wrap .u32 u)))))) none) none)) none))
def Iv (r0:Int→LA→O R) (b c:Nat) (d l:Int) (e:LA) (a:Nat) (f g:Bool):Nat→Int→Int→Int→LA→O R
 | 0,_,_,_,_=>none
 | n+1,u,v,p,s=>(P7 N r0 b c d l e a f g (Iv r0 b c d l e a f g n) u v p s)
def Kp (N:Nat) (r0:Int→LA→O R) (b c:Nat) (e:LA) (a:Nat) (f g:Bool) (d l:Int) (k3:Int→Int→Int→LA→O R) (q4:Int→Int→Int→LA→O R) (t w q:Int) (r:LA):O R :=
 (cond (decide (q<w)) (cond (Ad q a) (Ao .u32 (e.drop ((q.toNat)*1)) fun x=>(cond (Ad q c) (Ao .u32 (r.drop (b+((q.toNat)*1))) fun ab=>(cond (Ad q c) (cond ((Nat.beq 1 1)&&((Nat.ble ((b+((q.toNat)*1))+1) (r.length))&&(!false))) (k3 (wrap .u64 ((Int.fdiv (wrap .u64 ((wrap .u64 (l*(wrap .u64 x)))+t)) (2 ^ 32))+(Int.fdiv (wrap .u64 ((wrap .u64 ab) - (wrap .u64 (wrap .u32 (wrap .u64 ((wrap .u64 (l*(wrap .u64 x)))+t)))))) (2 ^ 63)))) w (wrap .i64 (q+1)) (r.set (b+((q.toNat)*1)) (.int .u32 (wrap .u32 (wrap .u64 ((wrap .u64 ab) - (wrap .u64 (wrap .u32 (wrap .u64 ((wrap .u64 (l*(wrap .u64 x)))+t)))))))))) none) none)) none)) none) (cond (Ad d c) (Ao .u32 (r.drop (b+((d.toNat)*1))) fun y=>(cond (Ad d c) (cond ((Nat.beq 1 1)&&((Nat.ble ((b+((d.toNat)*1))+1) (r.length))&&(!false))) (cond ((Int.fdiv (wrap .u64 ((wrap .u64 y) - t)) (2 ^ 63))==0) (r0 (wrap .u32 l) (r.set (b+((d.toNat)*1)) (.int .u32 (wrap .u32 (wrap .u64 ((wrap .u64 y) - t)))))) (q4 0 ((a:Nat):Int) 0 (r.set (b+((d.toNat)*1)) (.int .u32 (wrap .u32 (wrap .u64 ((wrap .u64 y) - t))))))) none) none)) none))
def Gq (r0:Int→LA→O R) (b c:Nat) (e:LA) (a:Nat) (f g:Bool) (d l:Int):Nat→Int→Int→Int→LA→O R
 | 0,_,_,_,_=>none
 | n+1,t,w,q,r=>(Kp N r0 b c e a f g d l (Gq r0 b c e a f g d l n) (fun u v p s=>(Iv N r0 b c d l e a f g N u v p s)) t w q r)
def Wm (N:Nat) (r0:Int→LA→O R) (b c:Nat) (e:LA) (a:Nat) (f g:Bool) (d:Int) (i:LA) (q3:Int→Int→Int→LA→O R) (l:Int):O R :=
 (q3 0 ((a:Nat):Int) 0 i)
def Fa (r0:Int→LA→O R) (b c:Nat) (e:LA) (a:Nat) (f g:Bool) (d:Int) (i:LA) (l:Int):O R:=(Wm N r0 b c e a f g d i (fun t w q r=>(Gq N r0 b c e a f g d l N t w q r)) l)
def Wn (N:Nat) (k0:Int→Int→Int→O R) (r0:Int→LA→O R) (b c:Nat) (e:LA) (a:Nat) (f g:Bool) (d m o:Int) (i:LA) (q2:Int→O R):O R :=
 (cond (Ad (wrap .i64 (d - 1)) a) (Ao .u32 (e.drop (((wrap .i64 (d - 1)).toNat)*1)) fun ac=>(cond ((Int.fdiv (wrap .u64 (o+(wrap .u64 ac))) (2 ^ 32)) != 0) (q2 (wrap .u64 (m - 1))) (k0 d (wrap .u64 (m - 1)) (wrap .u64 (o+(wrap .u64 ac)))))) none)
def Mx (k0:Int→Int→Int→O R) (r0:Int→LA→O R) (b c:Nat) (e:LA) (a:Nat) (f g:Bool) (d m o:Int) (i:LA):O R:=(Wn N k0 r0 b c e a f g d m o i (fun l=>(Fa N r0 b c e a f g d i l)))
def Wo (N:Nat) (r0:Int→LA→O R) (b c:Nat) (e:LA) (a:Nat) (f g:Bool) (i:LA) (k0:Int→Int→Int→O R) (q1:O R) (q2:Int→O R) (d m o:Int):O R :=
 (cond (((Int.fdiv m (2 ^ 32)) != 0)==false) (cond (Ad (wrap .i64 (d - 2)) a) (Ao .u32 (e.drop (((wrap .i64 (d - 2)).toNat)*1)) fun ai=>(cond (Ad (wrap .i64 (d - 2)) c) (Ao .u32 (i.drop (b+(((wrap .i64 (d - 2)).toNat)*1))) fun aj=>(cond (cond false true (decide ((wrap .u64 (m*(wrap .u64 ai)))>(Ta .u64 (wrap .u64 (o*2 ^ 32)) (wrap .u64 aj))))) q1 (q2 m))) none)) none) q1)
def Fb (r0:Int→LA→O R) (b c:Nat) (e:LA) (a:Nat) (f g:Bool) (i:LA):Nat→Int→Int→Int→O R
 | 0,_,_,_=>none
 | n+1,d,m,o=>(Wo N r0 b c e a f g i (Fb r0 b c e a f g i n) (Mx N (Fb r0 b c e a f g i n) r0 b c e a f g d m o i) (fun l=>(Fa N r0 b c e a f g d i l)) d m o)
def Xl (N:Nat) (r0:Int→LA→O R) (q0:Int→Int→Int→O R) (b c:Nat) (e:LA) (a:Nat) (f g:Bool) (i:LA):O R :=
 (cond (Ad ((a:Nat):Int) c) (Ao .u32 (i.drop (b+(a*1))) fun ad=>(cond (Ad (wrap .i64 (((a:Nat):Int) - 1)) c) (Ao .u32 (i.drop (b+(((wrap .i64 (((a:Nat):Int) - 1)).toNat)*1))) fun ae=>(cond (Ad (wrap .i64 (((a:Nat):Int) - 1)) a) (Ao .u32 (e.drop (((wrap .i64 (((a:Nat):Int) - 1)).toNat)*1)) fun af=>(cond ((wrap .u64 af)==0) none (cond (Ad (wrap .i64 (((a:Nat):Int) - 1)) a) (Ao .u32 (e.drop (((wrap .i64 (((a:Nat):Int) - 1)).toNat)*1)) fun ag=>(cond ((wrap .u64 ag)==0) none (q0 ((a:Nat):Int) (wrap .u64 (Int.tdiv (Ta .u64 (wrap .u64 ((wrap .u64 ad)*2 ^ 32)) (wrap .u64 ae)) (wrap .u64 af))) (Int.tmod (Ta .u64 (wrap .u64 ((wrap .u64 ad)*2 ^ 32)) (wrap .u64 ae)) (wrap .u64 ag))))) none))) none)) none)) none)
def Lt:=(Ah (fun (N:Nat) (b c:Nat) (e:LA) (a:Nat) (f g:Bool) (i:LA) (r0:Int→LA→O R)=>(Xl N r0 (fun d m o=>(Fb N r0 b c e a f g i N d m o)) b c e a f g i))).1
theorem PE (b c e a f g i r0):(@Lt R N b c e a f g i r0)=(Xl N r0 (fun d m o=>(Fb N r0 b c e a f g i N d m o)) b c e a f g i):=by rw[Lt,(Ah _).2]
def XF:Hints:={ H:=(hS hL (hS hL (hS hL (hS hL (hJ [0,1,5,7] (hS (hP [0,1,5,7,8] (hJ [0,1,5,7,8] hL hL)) hL) (hS hL (hS (hS hL (hS (hP [0,1,5,7,9,84,85,86] hL) hL)) (hS hL (hS hL (hS hL (hS hL (hS (hS hL (hS (hP [0,5,7,9,134,135,136] hL) hL)) hL)))))))))))) }
def My (F:KF R):=Kk Tryz.f203 XF [] [100000] N F
def Bz (F:KF R):Int→LA→O R:=(fun ak al=>F (.int .u32 ak) [(100000,(bQ 1 al))])
def yf (b c:Nat) (d l:Int) (e:LA) (a:Nat) (f g:Bool) (u v p:Int) (s:LA):St:=⟨[(0,(.own 100000 b c)),(5,(.int .i64 d)),(7,(.int .u64 l)),(9,(.int .u64 u)),(134,(.imm e a 1 f g)),(135,(.int .i64 v)),(136,(.int .i64 p))],[(100000,(bQ 1 s))]⟩
def yg (F:KF R):=My N F [1,1,1,1,1,1,1,1,1,1,1,0,1,0] []
def yh (b c:Nat) (e:LA) (a:Nat) (f g:Bool) (d l t w q:Int) (r:LA):St:=⟨[(0,(.own 100000 b c)),(1,(.imm e a 1 f g)),(5,(.int .i64 d)),(7,(.int .u64 l)),(9,(.int .u64 t)),(84,(.imm e a 1 f g)),(85,(.int .i64 w)),(86,(.int .i64 q))],[(100000,(bQ 1 r))]⟩
def yi (F:KF R):=My N F [1,1,1,1,1,1,0,1,0] []
def yj (b c:Nat) (e:LA) (a:Nat) (f g:Bool) (d:Int) (i:LA) (l:Int):St:=⟨[(0,(.own 100000 b c)),(1,(.imm e a 1 f g)),(5,(.int .i64 d)),(7,(.int .u64 l))],[(100000,(bQ 1 i))]⟩
def yk (F:KF R):=My N F [1,1,1,1,1] []
def ym (b c:Nat) (e:LA) (a:Nat) (f g:Bool) (d m o:Int) (i:LA):St:=⟨[(0,(.own 100000 b c)),(1,(.imm e a 1 f g)),(5,(.int .i64 d)),(7,(.int .u64 m)),(8,(.int .u64 o))],[(100000,(bQ 1 i))]⟩
def yn (F:KF R) (Q0:St→O R):=My N F [1,1,1,1,0,0,0,1] [Q0]
def Z7 (b c:Nat) (e:LA) (a:Nat) (f g:Bool) (i:LA) (d m o:Int):St:=⟨[(0,(.own 100000 b c)),(1,(.imm e a 1 f g)),(5,(.int .i64 d)),(7,(.int .u64 m)),(8,(.int .u64 o))],[(100000,(bQ 1 i))]⟩
def XG (F:KF R):=My N F [1,1,1,1,0,0] []
theorem F_ (F:KF R) (b c:Nat) (d l:Int) (e:LA) (a:Nat) (f g:Bool):∀ (n:Nat) (u v p:Int) (s:LA),Ap (yg N F) n (yf b c d l e a f g u v p s)=(Iv N (Bz F) b c d l e a f g n u v p s)
 | 0,_,_,_,_=>by kernel_rfl
 | n+1,u,v,p,s=>Eq.trans (by kernel_rfl) (Bs (P7 N (Bz F) b c d l e a f g · u v p s) (funext fun u=>funext fun v=>funext fun p=>funext fun s=>(F_ F b c d l e a f g n u v p s)):_)
theorem F' (F:KF R) (b c:Nat) (e:LA) (a:Nat) (f g:Bool) (d l:Int):∀ (n:Nat) (t w q:Int) (r:LA),Ap (yi N F) n (yh b c e a f g d l t w q r)=(Gq N (Bz F) b c e a f g d l n t w q r)
 | 0,_,_,_,_=>by kernel_rfl
 | n+1,t,w,q,r=>Eq.trans (by kernel_rfl) (bJ (Kp N (Bz F) b c e a f g d l · · t w q r) (funext fun t=>funext fun w=>funext fun q=>funext fun r=>(F' F b c e a f g d l n t w q r)) (funext fun u=>funext fun v=>funext fun p=>funext fun s=>(Ak ..).trans (F_ N F b c d l e a f g N u v p s)):_)
theorem GA (F:KF R) (b c:Nat) (e:LA) (a:Nat) (f g:Bool) (d:Int) (i:LA):∀ (l:Int),Bb (yk N F) (yj b c e a f g d i l)=(Fa N (Bz F) b c e a f g d i l):=by
 intro l
 exact Eq.trans (by kernel_rfl) (Bs (Wm N (Bz F) b c e a f g d i · l) (funext fun t=>funext fun w=>funext fun q=>funext fun r=>(Ak ..).trans (F' N F b c e a f g d l N t w q r)):_)
theorem mN (Q0:St→O R) (F:KF R) (b c:Nat) (e:LA) (a:Nat) (f g:Bool) (d m o:Int) (i:LA):Bb (yn N F Q0) (ym b c e a f g d m o i)=(Mx N (fun d m o=>Q0 (Z7 b c e a f g i d m o)) (Bz F) b c e a f g d m o i):=by
 exact Eq.trans (by kernel_rfl) (Bs (Wn N (fun d m o=>Q0 (Z7 b c e a f g i d m o)) (Bz F) b c e a f g d m o i ·) (funext fun l=>(As ..).trans (GA N F b c e a f g d i l)):_)
theorem GB (F:KF R) (b c:Nat) (e:LA) (a:Nat) (f g:Bool) (i:LA):∀ (n:Nat) (d m o:Int),Ap (XG N F) n (Z7 b c e a f g i d m o)=(Fb N (Bz F) b c e a f g i n d m o)
 | 0,_,_,_=>by kernel_rfl
 | n+1,d,m,o=>have e0:=(funext fun d=>funext fun m=>funext fun o=>(GB F b c e a f g i n d m o))
  Eq.trans (by kernel_rfl) (Bcd (Wo N (Bz F) b c e a f g i · · · d m o) e0 ((As ..).trans ((mN N (Ap (XG N F) n) F b c e a f g d m o i).trans (Bs (Mx N · (Bz F) b c e a f g d m o i) e0))) (funext fun l=>(As ..).trans (GA N F b c e a f g d i l)):_)
theorem XH (b c:Nat) (e:LA) (a:Nat) (f g:Bool) (i:LA) (F:KF R):Cn [] XF N 203 [(.own 100000 b c),(.imm e a 1 f g)] [(100000,(bQ 1 i))] F=(Lt N b c e a f g i (Bz F)):=by
 rw[PE]
 exact Eq.trans (by kernel_rfl) (Bs (Xl N (Bz F) · b c e a f g i) (funext fun d=>funext fun m=>funext fun o=>(Ak ..).trans (GB N F b c e a f g i N d m o)):_)
def PF (args:List AV) (h:Am) (k:KF R):O R :=
 match args,h with
 | [(.own 100000 b c),(.imm e a 1 f g)],[(100000,⟨false,false,true,false,1,i,false⟩)]=>(Lt N b c e a f g i (Bz k))
 | _,_=>none
theorem XI:Aq N 203 @PF:=by
 intro R Q args h k j;unfold PF;split
 exact A2 (XH ..) (XH ..) trivial
 exact A5
def XJ:=A4 (XI N)
theorem yp:A1 Tryz.prog 203 (XJ N):=A6 (XI N) follows
def I8 (r0:Nat→Bool→LA→O R) (c:Bool) (k0:LA→Nat→Int→Nat→LA→Nat→Int→Int→LA→O R) (i:LA) (g:Nat) (d:Int) (f:Nat) (l:LA) (m:Nat) (o a:Int) (e:LA):O R :=
 (cond (decide (a<o)) (cond (Ad a m) (Ao .u32 (l.drop ((a.toNat)*1)) fun t=>(cond (decide ((wrap .i64 (a+1))<((g:Nat):Int))) (cond (Ad (wrap .i64 (a+1)) g) (Ao .u32 (i.drop (((wrap .i64 (a+1)).toNat)*1)) fun v=>(cond (decide (d<0)) none (cond (Ad a f) (cond ((Nat.beq 1 1)&&((Nat.ble ((0+((a.toNat)*1))+1) (e.length))&&(!false))) (k0 i g d f l m o (wrap .i64 (a+1)) (e.set (0+((a.toNat)*1)) (.int .u32 (wrap .u32 (Int.fdiv (Ta .u64 (wrap .u64 t) (wrap .u64 ((wrap .u64 v)*2 ^ 32))) (2 ^ (min (d.toNat) 64))))))) none) none))) none) (cond (decide (d<0)) none (cond (Ad a f) (cond ((Nat.beq 1 1)&&((Nat.ble ((0+((a.toNat)*1))+1) (e.length))&&(!false))) (k0 i g d f l m o (wrap .i64 (a+1)) (e.set (0+((a.toNat)*1)) (.int .u32 (wrap .u32 (Int.fdiv (wrap .u64 t) (2 ^ (min (d.toNat) 64))))))) none) none)))) none) (Wc N f e (fun w=>(r0 w true e))))
def Dk (r0:Nat→Bool→LA→O R) (c:Bool):Nat→LA→Nat→Int→Nat→LA→Nat→Int→Int→LA→O R
 | 0,_,_,_,_,_,_,_,_,_=>none
 | n+1,i,g,d,f,l,m,o,a,e=>(I8 N r0 c (Dk r0 c n) i g d f l m o a e)
def Ol (r0:Nat→Bool→LA→O R) (q0:LA→Nat→Int→Nat→LA→Nat→Int→Int→LA→O R) (q:LA) (r:Nat) (s c:Bool) (b:Int):O R :=
 (cond (decide (b<0)) (r0 0 false []) (Ci N q r s c (fun u p=>(cond (decide ((wrap .i64 (Int.tdiv b 32))≥((p:Nat):Int))) (r0 0 true []) (cond ((decide (0≤(wrap .i64 (Int.tdiv b 32))))&&((decide ((wrap .i64 (Int.tdiv b 32))≤((p:Nat):Int)))&&((decide (((p:Nat):Int)≤((p:Nat):Int)))&&(decide (((p:Nat):Int)≤((p:Nat):Int)))))) (cond ((decide (0≤(((p - ((wrap .i64 (Int.tdiv b 32)).toNat)):Nat):Int)))&&((decide ((((p - ((wrap .i64 (Int.tdiv b 32)).toNat)):Nat):Int)≤(((p - ((wrap .i64 (Int.tdiv b 32)).toNat)):Nat):Int)))&&((decide ((((p - ((wrap .i64 (Int.tdiv b 32)).toNat)):Nat):Int)≤140737488355328))&&(decide (((((p - ((wrap .i64 (Int.tdiv b 32)).toNat)):Nat):Int)*((4:Nat):Int))≤140737488355328))))) (q0 ((u.drop (((wrap .i64 (Int.tdiv b 32)).toNat)*1)).take ((p - ((wrap .i64 (Int.tdiv b 32)).toNat))*1)) (p - ((wrap .i64 (Int.tdiv b 32)).toNat)) (Int.tmod b 32) (p - ((wrap .i64 (Int.tdiv b 32)).toNat)) ((u.drop (((wrap .i64 (Int.tdiv b 32)).toNat)*1)).take ((p - ((wrap .i64 (Int.tdiv b 32)).toNat))*1)) (p - ((wrap .i64 (Int.tdiv b 32)).toNat)) (((p - ((wrap .i64 (Int.tdiv b 32)).toNat)):Nat):Int) 0 (List.replicate (p - ((wrap .i64 (Int.tdiv b 32)).toNat)) (.int .u32 0))) none) none)))))
def Ne:=(Ah (fun (N:Nat) (q:LA) (r:Nat) (s c:Bool) (b:Int) (r0:Nat→Bool→LA→O R)=>(Ol N r0 (fun i g d f l m o a e=>(Dk N r0 c N i g d f l m o a e)) q r s c b))).1
theorem Ui (q r s c b r0):(@Ne R N q r s c b r0)=(Ol N r0 (fun i g d f l m o a e=>(Dk N r0 c N i g d f l m o a e)) q r s c b):=by rw[Ne,(Ah _).2]
def PG:Hints:={ H:=(hS hL (hS hL (hS hL (hS hL (hS hL (hS hL (hS hL (hS (hS hL (hS (hP [0,6,7,29,30,31] hL) hL)) hL)))))))),nils:=[(4,1)],modes:=[(2,1),(0,0)] }
def XK:Ek:=[(171,Ec N)]
def s_ (F:KF R):=Kk Tryz.f204 PG (XK N) [] N F
def Kq (F:KF R):Nat→Bool→LA→O R:=(fun x y z=>F (.tup [(.own 300000 0 x),(.bool y)]) [(300000,(bQ 1 z))])
def sa (c:Bool) (i:LA) (g:Nat) (d:Int) (f:Nat) (l:LA) (m:Nat) (o a:Int) (e:LA):St:=⟨[(0,(.imm i g 1 false c)),(6,(.int .i64 d)),(7,(.own 300000 0 f)),(29,(.imm l m 1 false c)),(30,(.int .i64 o)),(31,(.int .i64 a))],[(300000,(bQ 1 e))]⟩
def sb (F:KF R):=s_ N F [1,1,1,1,1,1,1,0,1,0] []
theorem BE (F:KF R) (c:Bool):∀ (n:Nat) (i:LA) (g:Nat) (d:Int) (f:Nat) (l:LA) (m:Nat) (o a:Int) (e:LA),Ap (sb N F) n (sa c i g d f l m o a e)=(Dk N (Kq F) c n i g d f l m o a e)
 | 0,_,_,_,_,_,_,_,_,_=>by kernel_rfl
 | n+1,i,g,d,f,l,m,o,a,e=>Eq.trans (by kernel_rfl) (Bs (I8 N (Kq F) c · i g d f l m o a e) (funext fun i=>funext fun g=>funext fun d=>funext fun f=>funext fun l=>funext fun m=>funext fun o=>funext fun a=>funext fun e=>(BE F c n i g d f l m o a e)):_)
theorem PH (q:LA) (r:Nat) (s c:Bool) (b:Int) (F:KF R):Cn (XK N) PG N 204 [(.imm q r 1 s c),(.int .i64 b)] [] F=(Ne N q r s c b (Kq F)):=by
 rw[Ui]
 exact Eq.trans (by kernel_rfl) (Bs (Ol N (Kq F) · q r s c b) (funext fun i=>funext fun g=>funext fun d=>funext fun f=>funext fun l=>funext fun m=>funext fun o=>funext fun a=>funext fun e=>(Ak ..).trans (BE N F c N i g d f l m o a e)):_)
def KB (args:List AV) (h:Am) (k:KF R):O R :=
 match args,h with
 | [(.imm q r 1 s c),(.int .i64 b)],[]=>(Ne N q r s c b (Kq k))
 | _,_=>none
theorem PI:Aq N 204 @KB:=by
 intro R Q args h k j;unfold KB;split
 exact A2 (PH ..) (PH ..) ⟨Gg N,trivial⟩
 exact A5
def PJ:=A4 (PI N)
theorem sc:A1 Tryz.prog 204 (PJ N):=A6 (PI N) follows
end
end Gx
