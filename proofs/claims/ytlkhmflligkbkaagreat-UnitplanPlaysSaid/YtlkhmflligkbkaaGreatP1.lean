/- A part of the proof: what it holds is said by each theorem. -/
import Derived.IntWalk
import Derived.Test.YtlkhmflligkbkaaGreatProg
import Derived.ProofKit
import Derived.OpenShut
import Derived.ChangeOld
import Derived.Below
import Derived.Test.YtlkhmflligkbkaaGreatP0
set_option linter.unusedVariables false
set_option linter.defProp false
set_option linter.unusedSimpArgs false
namespace Gx
open Go
def Bb9:Nat→List Oper→List (Nat×Oper)
 | _,[]=>[]
 | n,o::r=>(n,o)::Bb9 (n+1) r
theorem Ahn:∀ {l:List Oper} {n:Nat} {p:Nat×Oper},p ∈ Bb9 n l↔n≤p.1∧l[p.1 - n]?=some p.2
 | [],n,p=>by simp[Bb9]
 | o::r,n,p=>by
  rw[Bb9,List.mem_cons,Ahn]
  constructor
  ·rintro(rfl | ⟨C,k⟩)
   ·simp
   ·refine⟨by omega,?_⟩
    rw[show p.1 - n=(p.1 - (n+1))+1 by omega];simpa using k
  ·rintro⟨C,k⟩
   by_cases e:p.1=n
   ·left
    rw[e] at k;simp at k
    obtain⟨a,b⟩:=p
    simp at e k;subst e k;rfl
   ·right
    refine⟨by omega,?_⟩
    rw[show p.1 - n=(p.1 - (n+1))+1 by omega] at k;simpa using k
theorem Aiw:∀ (l:List Oper) (n:Nat),(Bb9 n l).Pairwise (fun a b=>a.1<b.1)
 | [],n=>List.Pairwise.nil
 | o::r,n=>by
  rw[Bb9]
  refine List.pairwise_cons.2 ⟨fun p k=>?_,Aiw r (n+1)⟩
  have:=(Ahn.1 k).1
  show n<p.1;omega
section
variable {R:Type} {r:R} {Z:Start} {E:Env} {ops:Array Oper}
def RunL (E:Env) (ops:Array Oper):List Oper→List Foot→St→St→Prop
 | [],[],st,e=>st=e
 | o::l,f::fs,st,e=>∃ st' q,Eqv st st'∧Xb E ops o st'=some q∧q.2.2=f∧RunL E ops l fs (after E o st' q) e
 | _,_,_,_=>False
theorem A3y:∀ {l:List Oper} {st:St} {tr:List Foot} {k:St→List Foot→O R},Ah4 E ops l st tr k=some r→∃ fs e,k e (fs.reverse++tr)=some r∧RunL E ops l fs st e
 | [],st,tr,k,h=>⟨[],st,by simpa[Ah4] using h,rfl⟩
 | o::l,st,tr,k,h=>by
  rw[Ah4] at h
  obtain⟨st',C,h⟩:=Aik h
  rw[kX] at h
  obtain⟨q,D,F⟩:=ub h
  obtain⟨fs,e,G,I⟩:=A3y F
  exact⟨q.2.2::fs,e,by simpa using G,st',q,C,D,rfl,I⟩
theorem RunL.length:∀ {l:List Oper} {fs:List Foot} {st e:St},RunL E ops l fs st e→fs.length=l.length
 | [],[],_,_,_=>rfl
 | [],_::_,_,_,h=>h.elim
 | _::_,[],_,_,h=>h.elim
 | o::l,f::fs,st,e,⟨_,q,_,_,_,h⟩=>by simp[RunL.length h]
theorem RunL.runF {fp:Nat→Foot}:∀ {l:List Oper} {fs:List Foot} {n:Nat} {st e:St},RunL E ops l fs st e→(∀ (j:Nat) (f:Foot),fs[j]?=some f→fp (n+j)=f)→RunF E ops fp (Bb9 n l) st e
 | [],[],n,st,e,h,_=>by subst h;exact Eqv.refl _
 | [],_::_,_,_,_,h,_=>h.elim
 | _::_,[],_,_,_,h,_=>h.elim
 | o::l,f::fs,n,st,e,⟨st',q,C,D,F,G⟩,k=>by
  rw[Bb9]
  refine RunF.congr ?_ C.symm
  rw[RunF]
  refine⟨q,D,by rw[F];exact(k 0 f (by simp)).symm,RunL.runF G (fun j g I=>?_)⟩
  have:=k (j+1) g (by simpa using I)
  rwa [show n+(j+1)=n+1+j by omega] at this
theorem zf {f:Foot} {anc:List Nat}:∀ {seen:List Foot} {i:Nat},ro f anc i seen=true→∀ (j:Nat) (g:Foot),seen[j]?=some g→(i+j) ∈ anc∨zX g f=true
 | [],i,_,j,g,k=>by simp at k
 | x::r,i,h,j,g,k=>by
  rw[ro] at h;simp only[Bool.and_eq_true,Bool.or_eq_true] at h
  cases j with
  | zero =>
   simp at k;subst k
   rcases h.1 with C | C
   ·exact .inl (No.1 C)
   ·exact .inr C
  | succ j =>
   have:=zf h.2 j g (by simpa using k)
   rwa [show i+1+j=i+(j+1) by omega] at this
theorem Aix:∀ {fs:List Foot} {az9:List (List Nat)} {seen:List Foot},kO fs az9 seen=true→∀ (i:Nat) (f:Foot),fs[i]?=some f →
  ∃ a,az9[i]?=some a∧∀ (j:Nat) (g:Foot),(seen++fs)[j]?=some g→j<seen.length+i→j ∈ a∨zX g f=true
 | [],az9,seen,_,i,f,k=>by simp at k
 | x::r,[],seen,h,i,f,k=>by simp[kO] at h
 | x::r,a::az9,seen,h,i,f,k=>by
  rw[kO] at h;simp only[Bool.and_eq_true] at h
  cases i with
  | zero =>
   simp at k;subst k
   refine⟨a,by simp,fun j g C D=>?_⟩
   rw[List.getElem?_append,if_pos (by omega)] at C
   simpa using zf h.1 j g C
  | succ i =>
   obtain⟨F,G,I⟩:=Aix h.2 i f (by simpa using k)
   refine⟨F,by simpa using G,fun j g C D=>I j g ?_ (by simp;omega)⟩
   simpa using C
theorem QC:∀ {l:List Oper} {k:List (List Nat)} {i:Nat},i<k.length→(Ho l k)[i]?=k[i]?
 | [],k,i,_=>rfl
 | o::r,k,i,hi=>by
  rw[Ho,RN,QC (by simp;omega),List.getElem?_append,if_pos hi]
theorem WS:∀ {l:List Oper} {C:List (List Nat)} {i:Nat} {a:List Nat},(Ho l C)[i]?=some a→C.length≤i→∃ o,l[i - C.length]?=some o ∧
  ∀ k ∈ a,k ∈ WK o∨∃ j G,j ∈ WK o∧j<i∧(Ho l C)[j]?=some G∧k ∈ G
 | [],C,i,a,h,hi=>by
  rw[Ho,List.getElem?_eq_none hi] at h;cases h
 | o::r,C,i,a,h,hi=>by
  by_cases e:i=C.length
  ·subst e
   rw[Ho,RN,QC (by simp)] at h
   simp only[List.getElem?_concat_length,Option.some.injEq] at h
   refine⟨o,by simp,fun k D=>?_⟩
   rw[←h,RS] at D
   replace D:=D.resolve_right (by simp)
   rcases List.mem_append.1 D with D | D
   ·exact .inl D
   ·right
    obtain⟨j,M,D⟩:=List.mem_flatMap.1 D
    cases I:C[j]? with
    | none=>rw[I] at D;simp at D
    | some G =>
     rw[I] at D;simp at D
     have F:j<C.length:=(List.getElem?_eq_some_iff.1 I).1
     exact⟨j,G,M,F,by rw[QC F];exact I,D⟩
  ·rw[Ho,RN] at h
   obtain⟨o',L,S⟩:=WS h (by simp;omega)
   refine⟨o',?_,fun k D=>?_⟩
   ·simp at L
    rw[show i - C.length=(i - (C.length+1))+1 by omega];simpa using L
   ·rw[Ho,RN];exact S k D
theorem sF:∀ {l:List Oper} {n i:Nat} {o:Oper},GC n l=true→l[i]?=some o→∀ e ∈ o.after,fA e=true→e.on<n+i
 | [],n,i,o,_,hi,_,_,_=>by simp at hi
 | x::r,n,i,o,h,hi,e,k,C=>by
  rw[GC] at h;simp only[Bool.and_eq_true] at h
  cases i with
  | zero =>
   simp at hi;subst hi
   have:=List.all_eq_true.1 h.1 e (by simpa using k)
   rw[C] at this;simpa using this
  | succ i =>
   have:=sF h.2 (by simpa using hi) e k C
   omega
theorem Avd (e:Edge):Region.binds .any e=fA e:=by
 unfold Region.binds fA
 cases e.ground<;>rfl
theorem A8h {listed:Array Bool} (hclosed:∀ (j:Nat) (o:Oper),ops[j]?=some o→listed.getD j true=true→∀ k ∈ WK o,listed.getD k false=true) :
  ∀ (i:Nat) (a:List Nat) (o:Oper),(Ho ops.toList [])[i]?=some a→ops[i]?=some o→(∀ k ∈ WK o,listed.getD k false=true)→∀ k ∈ a,listed.getD k false=true:=by
 intro i
 induction i using Nat.strongRecOn with
 | _ i T =>
  intro a o U V L k Y
  obtain⟨o',F,h2⟩:=WS U (by simp)
  simp at F
  rw[V] at F;simp at F;subst F
  rcases h2 k Y with G | ⟨j,a',G,h4,M,h6⟩
  ·exact L k G
  ·have C:=L j G
   obtain⟨oj,D,_⟩:=WS M (by simp)
   simp at D
   have I:listed.getD j true=true:=by
    rw[Array.getD_eq_getD_getElem?] at C ⊢
    cases S:listed[j]? with
    | none=>rw[S] at C;simp at C
    | some b=>rw[S] at C;simpa using C
   exact T j h4 a' oj M D (hclosed j oj D I) k h6
def Qr (ops:Array Oper) (listed:Array Bool):List (Nat×Oper):=(Bb9 0 ops.toList).filter fun p=>!listed.getD p.1 true
theorem fL (listed:Array Bool):(Qr ops listed).Pairwise (fun a b=>a.1<b.1):=(Aiw _ _).filter _
theorem RT {listed:Array Bool} {p:Nat×Oper}:p ∈ Qr ops listed↔ops[p.1]?=some p.2∧listed.getD p.1 true=false:=by
 unfold Qr
 rw[List.mem_filter,Ahn]
 simp
theorem A3z {listed:Array Bool} {i:Nat} {o:Oper} {A B:List (Nat×Oper)} (h:Qr ops listed=A++(i,o)::B):Qr ops (listed.setIfInBounds i true)=A++B:=by
 have hi:(i,o) ∈ Qr ops listed:=by rw[h];simp
 have k:=(RT.1 hi).2
 have D:i<listed.size:=by
  rw[Array.getD_eq_getD_getElem?] at k
  rcases Nat.lt_or_ge i listed.size with F | F
  ·exact F
  ·rw[Array.getElem?_eq_none F] at k;simp at k
 have I:Qr ops (listed.setIfInBounds i true)=(Qr ops listed).filter fun p=>!Nat.beq p.1 i:=by
  unfold Qr
  rw[List.filter_filter]
  congr 1;funext p
  by_cases e:p.1=i
  ·rw[e];simp[D]
  ·rw[getD_set_ne true (fun e'=>e e'.symm),lS e];simp
 rw[I,h,List.filter_append,List.filter_cons]
 have hs:=fL (ops:=ops) listed
 rw[h] at hs
 have C:=List.pairwise_append.1 hs
 have hB:=List.pairwise_cons.1 C.2.1
 have e1:A.filter (fun p=>!Nat.beq p.1 i)=A:=List.filter_eq_self.2 (fun p G=>by
  have:p.1<i:=C.2.2 p G (i,o) (by simp)
  rw[lS (by omega)];rfl)
 have L:B.filter (fun p=>!Nat.beq p.1 i)=B:=List.filter_eq_self.2 (fun p G=>by
  have:i<p.1:=hB.1 p G
  rw[lS (by omega)];rfl)
 rw[e1,L];simp
theorem Bdp (hC:pq E) {Q:Exit→Act→World→Prop} {fp:Nat→Foot} {e:St} (hfw:GC 0 ops.toList=true)
  (hord:∀ (i j:Nat) (o:Oper),ops[i]?=some o→j<i→∃ a,(Ho ops.toList [])[i]?=some a∧(j ∈ a∨zX (fp j) (fp i)=true))
  (hQ:∀ a' w' J' β',Inv Z E.nt J' β' e a' w'→Q .normal a' w') :
  ∀ (fuel:Nat) (listed:Array Bool) {st:St} {a:Act} {w:World} {J:Bool→Nat→Prop} {β:De},listed.size=ops.size→(Qr ops listed).length=fuel →
   (∀ (j:Nat) (o:Oper),ops[j]?=some o→listed.getD j true=true→∀ k ∈ WK o,listed.getD k false=true) →
   RunF E ops fp (Qr ops listed) st e→Inv Z E.nt J β st a w→wpAny E.P .any ops Q fuel listed a w:=by
 intro fuel
 have fin:∀ (listed:Array Bool) {st:St} {a:Act} {w:World} {J:Bool→Nat→Prop} {β:De},Qr ops listed=[]→RunF E ops fp (Qr ops listed) st e→Inv Z E.nt J β st a w→Region.ready .any ops listed=[]∧Q .normal a w:=by
  intro listed st a w J β hr C I
  refine⟨List.eq_nil_iff_forall_not_mem.2 (fun i hi=>?_),?_⟩
  ·obtain⟨h1,o,L,_⟩:=mem_ready.1 hi
   have:(i,o) ∈ Qr ops listed:=RT.2 ⟨L,h1⟩
   rw[hr] at this;simp at this
  ·rw[hr,RunF] at C
   exact hQ _ _ J β (I.eqv C)
 induction fuel with
 | zero =>
  intro listed st a w J β _ D _ C I
  exact fin listed (List.length_eq_zero_iff.1 D) C I
 | succ fuel ih =>
  intro listed st a w J β hsz D hclosed C I
  refine⟨fun hnil=>?_,fun i hi=>?_⟩
  ·
   cases F:Qr ops listed with
   | nil=>rw[F] at D;simp at D
   | cons p r =>
    exfalso
    have hp:p ∈ Qr ops listed:=by rw[F];simp
    obtain⟨G,hl⟩:=RT.1 hp
    have hs:=fL (ops:=ops) listed
    rw[F] at hs
    have hmin:=(List.pairwise_cons.1 hs).1
    have:p.1 ∈ Region.ready .any ops listed:=mem_ready.2 ⟨hl,p.2,G,fun T V hb=>by
     rw[Avd] at hb
     have M:=sF hfw (i:=p.1) (o:=p.2) (by simpa using G) T V hb
     simp at M
     have hops:T.on<ops.size:=by have:=(Array.getElem?_eq_some_iff.1 G).1;omega
     cases Y:listed.getD T.on true with
     | true =>
      rw[Array.getD_eq_getD_getElem?] at Y ⊢
      rw[Array.getElem?_eq_getElem (by omega)] at Y ⊢
      simpa using Y
     | false =>
      have hm:(T.on,ops[T.on]) ∈ Qr ops listed:=RT.2 ⟨by simp[hops],Y⟩
      rw[F] at hm
      rcases List.mem_cons.1 hm with e1 | e1
      ·have:T.on=p.1:=by rw[←e1]
       omega
      ·have:=hmin _ e1
       simp at this;omega⟩
    rw[hnil] at this;simp at this
  ·obtain⟨hl,o,G,hall⟩:=mem_ready.1 hi
   have hmem:(i,o) ∈ Qr ops listed:=RT.2 ⟨G,hl⟩
   obtain⟨A,B,hAB⟩:=List.append_of_mem hmem
   have U:∀ k ∈ WK o,listed.getD k false=true:=by
    intro k hk
    unfold WK at hk
    obtain⟨T,V,rfl⟩:=List.mem_map.1 hk
    obtain⟨h1,L⟩:=List.mem_filter.1 V
    exact hall T (by simpa using h1) (by rw[Avd];exact L)
   have hs:=fL (ops:=ops) listed
   rw[hAB] at hs
   have hs':=List.pairwise_append.1 hs
   rw[hAB] at C
   obtain⟨q,g1,g2,g3⟩:=C.pull (fun jp hjp=>by
    have M:jp.1<i:=hs'.2.2 jp hjp (i,o) (by simp)
    obtain⟨an,h1,L⟩:=hord i jp.1 o G M
    rcases L with L | L
    ·exfalso
     have:=A8h hclosed i an o h1 G U jp.1 L
     have hjm:jp ∈ Qr ops listed:=by rw[hAB];simp[hjp]
     have h3:=(RT.1 hjm).2
     rw[Array.getD_eq_getD_getElem?] at this h3
     cases Y:listed[jp.1]? with
     | none=>rw[Y] at this;simp at this
     | some b=>rw[Y] at this h3;simp at this h3;rw[this] at h3;cases h3
    ·exact L)
   have hone:A3b E ops o st (fun s f=>some (s,f))=some (after E o st q,q.2.2):=by rw[kX,g1];rfl
   obtain⟨st',f,h4,h5⟩:=Aij (K:=wpAny E.P .any ops Q fuel (listed.setIfInBounds i true)) (Q:=Q) hC I hone
   simp only[Option.some.injEq,Prod.mk.injEq] at h4
   obtain⟨rfl,rfl⟩:=h4
   have M:i<listed.size:=by rw[hsz];exact(Array.getElem?_eq_some_iff.1 G).1
   have:=h5 (fun a' w' J' β' I'=>ih (listed.setIfInBounds i true) (by simp[hsz]) (by
     rw[A3z hAB];rw[hAB] at D;simp at D ⊢;omega) (fun j oj S hj k hk=>?_) (by rw[A3z hAB];exact g3) I')
   ·unfold wpOp
    rw[G]
    simp only
    split
    ·rename_i hw;rw[if_pos hw] at this;exact .inl this
    ·rename_i hw;rw[if_neg hw] at this;exact this
   ·by_cases e1:j=i
    ·subst e1
     rw[G] at S;simp at S;subst S
     exact getD_set_true (U k hk)
    ·rw[getD_set_ne true (fun e'=>e1 e'.symm)] at hj
     exact getD_set_true (hclosed j oj S hj k hk)
end
end Gx

namespace Gx
open Go
section
variable {R:Type} {r:R} {Z:Start} {E:Env}
theorem Ars (hC:pq E) (hm:E.P.follows .mixedOrders=true) {roots:List Nat} {id:Nat} {ops:Array Oper} {draw:Bool} {st:St} {k:St→O R} {a:Act} {w:World} {J:Bool→Nat→Prop} {β:De} {Q:Exit→Act→World→Prop}
  (I:Inv Z E.nt J β st a w) (Y:kP E roots ops draw st k=some r) (hQ:∀ st' D w' J' β',Inv Z E.nt J' β' st' D w'→k st'=some r→Q .normal D w'):(Code.region id ops draw).wp E.P Q a w:=by
 unfold kP at Y
 have done:∀ {st':St} {tr:List Foot} {D:Act} {w':World} {J':Bool→Nat→Prop} {β':De},Inv Z E.nt J' β' st' D w' →
   cond (!draw||(GC 0 ops.toList&&kO tr.reverse (Ho ops.toList []) [])) ((clean (st'.s.map (·.1)) roots st').bind k) none=some r→Q .normal D w':=by
  intro st' tr D w' J' β' I' h'
  obtain⟨_,U⟩:=uc h'
  obtain⟨eh,V,h3⟩:=ub U
  obtain⟨β2,I2⟩:=A3s I' V
  exact hQ _ _ _ _ _ I2 h3
 cases draw with
 | false=>exact wp_region_list (Ail hC _ I Y (fun st' tr' D w' J' β' I' h'=>done I' h'))
 | true =>
  obtain⟨fs,e,U,V⟩:=A3y Y
  obtain⟨hc,h3⟩:=uc U
  simp at hc
  obtain⟨hfw,L⟩:=hc
  have M:=V.length
  refine wp_region_any hm ?_
  have I':Inv Z E.nt J β st a w.drew:=I.step (Step.drew I.sim) (fun b x hx hn=>by rw[hx] at hn;cases hn)
  have C:Qr ops (Array.replicate ops.size false)=Bb9 0 ops.toList:=by
   unfold Qr
   refine List.filter_eq_self.2 (fun p hp=>?_)
   have:=(Ahn.1 hp).2
   have F:p.1<ops.size:=by
    simp at this
    exact(Array.getElem?_eq_some_iff.1 this).1
   simp[F]
  have S:(Bb9 0 ops.toList).length=ops.size:=by
   have:∀ (l:List Oper) (n:Nat),(Bb9 n l).length=l.length:=by
    intro l
    induction l with
    | nil=>intro n;rfl
    | cons o r ih=>intro n;simp[Bb9,ih]
   rw[this];simp
  have T:RunF E ops (fun i=>fs.getD i { r:=[],w:=none,f:=[],u:=[] }) (Bb9 0 ops.toList) st e:=V.runF (fun j f G=>by simp[G])
  refine Bdp hC (fp:=fun i=>fs.getD i { r:=[],w:=none,f:=[],u:=[] }) (e:=e) hfw (fun i j o ho hji=>?_) (fun D w' J' β' Ie=>done (tr:=fs.reverse++[]) Ie U) ops.size _ (by simp) (by rw[C,S]) (fun j o ho G=>?_) (by rw[C];exact T) I'
  ·have hi:i<fs.length:=by rw[M];simpa using(Array.getElem?_eq_some_iff.1 ho).1
   obtain⟨an,g1,g2⟩:=Aix L i fs[i] (List.getElem?_eq_getElem hi)
   refine⟨an,g1,?_⟩
   have G:j<fs.length:=by omega
   have:=g2 j fs[j] (by simp[G]) (by simpa using hji)
   simpa[hi,G] using this
  ·exfalso
   have F:j<ops.size:=(Array.getElem?_eq_some_iff.1 ho).1
   simp[F] at G
end
end Gx

namespace Gx
open Go
theorem sG (ρ:Nat→Nat):∀ c:LA,(CV ρ c).length=c.length
 | []=>rfl
 | x::r=>by rw[CV,List.length_cons,List.length_cons,sG ρ r]
theorem Pc (ρ:Nat→Nat) (x:Blk):(PX ρ x).cells.length=x.cells.length:=by
 unfold PX;cases x.pure
 ·simp;exact sG _ _
 ·rfl
theorem Ave {ρ:Nat→Nat}:∀ {c:LA} {j:Nat} {y:AV},(CV ρ c)[j]?=some y→∃ x,c[j]?=some x∧y=lR ρ x
 | [],j,y,k=>by simp[CV] at k
 | x::r,j,y,k=>by
  rw[CV] at k
  cases j with
  | zero=>simp at k;exact⟨x,by simp,k.symm⟩
  | succ j=>obtain⟨x',C,D⟩:=Ave (c:=r) (j:=j) (by simpa using k);exact⟨x',by simpa using C,D⟩
section
variable {R:Type} {r:R} {J J':Bool→Nat→Prop} {β β':De} {h h':Ak} {w w':World} {ids:List Nat} {ρ:Nat→Nat}
theorem Qs {g:Ch}:∀ {ids:List Nat},(ids.map ρ).Nodup→∀ c y,Au (sub g ρ ids) c=some y→∃ b x,b ∈ ids∧ρ b=c∧g b=some x∧y=PX ρ x
 | [],_,c,y,k=>by simp[sub,Au] at k
 | b::r,hn,c,y,k=>by
  rw[List.map_cons,List.nodup_cons] at hn
  rw[sub] at k
  split at k
  ·rename_i x L
   rw[Aj] at k
   by_cases e:c=ρ b
   ·rw[if_pos e] at k;simp at k
    exact⟨b,x,by simp,e.symm,L,k.symm⟩
   ·rw[if_neg e] at k
    obtain⟨C,x',D,F,G,I⟩:=Qs hn.2 c y k
    exact⟨C,x',by simp[D],F,G,I⟩
  ·obtain⟨C,x',D,F,G,I⟩:=Qs hn.2 c y k
   exact⟨C,x',by simp[D],F,G,I⟩
theorem LY {g:Ch}:∀ {ids:List Nat},(ids.map ρ).Nodup→∀ b x,b ∈ ids→g b=some x→Au (sub g ρ ids) (ρ b)=some (PX ρ x)
 | [],_,b,x,k,_=>by simp at k
 | F::r,hn,b,x,k,C=>by
  rw[List.map_cons,List.nodup_cons] at hn
  rw[sub]
  by_cases e:b=F
  ·subst e
   rw[C]
   simp only
   rw[Aj,if_pos rfl]
  ·have D:b ∈ r:=by simpa[e] using k
   have ne:ρ b≠ρ F:=fun h=>hn.1 (by rw[←h];exact List.mem_map.2 ⟨b,D,rfl⟩)
   split
   ·rw[Aj,if_neg ne];exact LY hn.2 b x D C
   ·exact LY hn.2 b x D C
def Bg2 (ρ:Nat→Nat) (ids:List Nat) (c:Nat):Option Nat:=ids.find? fun b=>Nat.beq (ρ b) c
theorem Bg3 (hn:(ids.map ρ).Nodup) {b:Nat} (k:b ∈ ids):Bg2 ρ ids (ρ b)=some b:=by
 induction ids with
 | nil=>simp at k
 | cons i r C =>
  rw[List.map_cons,List.nodup_cons] at hn
  unfold Bg2 at C ⊢
  rw[List.find?_cons]
  by_cases e:b=i
  ·subst e;simp
  ·have D:b ∈ r:=by simpa[e] using k
   have ne:ρ i≠ρ b:=fun h=>hn.1 (by rw[h];exact List.mem_map.2 ⟨b,D,rfl⟩)
   rw[lS ne];exact C hn.2 D
def aW (ρ:Nat→Nat) (ids:List Nat) (β:De):De:=fun c=>(Bg2 ρ ids c).bind β
theorem Ia (hn:(ids.map ρ).Nodup) {b:Nat} (k:b ∈ ids):aW ρ ids β (ρ b)=β b:=by
 unfold aW;rw[Bg3 hn k];rfl
mutual
theorem Rep.ren (hn:(ids.map ρ).Nodup):∀ {x:AV} {v:Value},(∀ b ∈ H7 x,b ∈ ids)→Rep J β h w x v→Rep J (aW ρ ids β) (sub (Au h) ρ ids) w (lR ρ x) v
 | .own b off n,v,hm,hr=>by
  rw[Rep] at hr
  obtain⟨x,A,cap,⟨hx,hmp⟩,h1,h2,h3⟩:=hr
  have hb:=hm b (by simp[H7])
  rw[lR,Rep]
  refine⟨PX ρ x,A,cap,⟨LY hn b x hb hx,hmp⟩,h1,h2,?_⟩
  rw[Pc,Ia hn hb]
  exact h3
 | .optr b off,v,hm,hr=>by
  rw[Rep] at hr
  obtain⟨x,k,o,⟨hx,hmp⟩,h1,h2⟩:=hr
  have hb:=hm b (by simp[H7])
  rw[lR,Rep]
  refine⟨PX ρ x,k,o,⟨LY hn b x hb hx,hmp⟩,h1,?_⟩
  rw[Ia hn hb]
  exact h2
 | .omap b,v,hm,hr=>by
  rw[Rep] at hr
  obtain⟨x,k,⟨hx,hmp⟩,h1,h2⟩:=hr
  have hb:=hm b (by simp[H7])
  rw[lR,Rep]
  refine⟨PX ρ x,k,⟨LY hn b x hb hx,hmp⟩,h1,?_⟩
  rw[Ia hn hb]
  exact h2
 | .agg c,v,hm,hr=>by
  rw[Rep] at hr
  obtain⟨cs,h1,h2⟩:=hr
  rw[lR,Rep]
  exact⟨cs,h1,Reps.ren hn (by simpa[H7] using hm) h2⟩
 | .tup c,v,hm,hr=>by
  rw[Rep] at hr
  obtain⟨cs,h1,h2⟩:=hr
  rw[lR,Rep]
  exact⟨cs,h1,Reps.ren hn (by simpa[H7] using hm) h2⟩
 | .fn f c,v,hm,hr=>by
  rw[Rep] at hr
  obtain⟨cs,h1,h2⟩:=hr
  rw[lR,Rep]
  exact⟨cs,h1,Reps.ren hn (by simpa[H7] using hm) h2⟩
 | .pagg c o,v,hm,hr=>by show Rep J _ _ w (.pagg c o) v;rw[Rep] at hr ⊢;exact hr
 | .undef,v,hm,hr=>by show Rep J _ _ w (.undef) v;rw[Rep] at hr ⊢;exact hr
 | .imm c n sz t o,v,hm,hr=>by show Rep J _ _ w (.imm c n sz t o) v;rw[Rep] at hr ⊢;exact hr
 | .iptr c o,v,hm,hr=>by show Rep J _ _ w (.iptr c o) v;rw[Rep] at hr ⊢;exact hr
 | .int k n,v,hm,hr=>by show Rep J _ _ w (.int k n) v;rw[Rep] at hr ⊢;exact hr
 | .bool b,v,hm,hr=>by show Rep J _ _ w (.bool b) v;rw[Rep] at hr ⊢;exact hr
 | .str s,v,hm,hr=>by show Rep J _ _ w (.str s) v;rw[Rep] at hr ⊢;exact hr
 | .nsl,v,hm,hr=>by show Rep J _ _ w (.nsl) v;rw[Rep] at hr ⊢;exact hr
 | .nilptr,v,hm,hr=>by show Rep J _ _ w (.nilptr) v;rw[Rep] at hr ⊢;exact hr
 | .nilfn,v,hm,hr=>by show Rep J _ _ w (.nilfn) v;rw[Rep] at hr ⊢;exact hr
theorem Reps.ren (hn:(ids.map ρ).Nodup):∀ {c:List AV} {cs:List Value},(∀ b ∈ J6 c,b ∈ ids)→Reps J β h w c cs→Reps J (aW ρ ids β) (sub (Au h) ρ ids) w (CV ρ c) cs
 | [],cs,hm,hr=>by rw[Reps] at hr;rw[CV,Reps];exact hr
 | x::r,cs,hm,hr=>by
  rw[Reps] at hr
  obtain⟨u,us,h1,h2,h3⟩:=hr
  rw[CV,Reps]
  exact⟨u,us,h1,Rep.ren hn (fun b hb=>hm b (by simp[J6,hb])) h2,Reps.ren hn (fun b hb=>hm b (by simp[J6,hb])) h3⟩
end
theorem SimH.ren (S:SimH J β h w) (hn:(ids.map ρ).Nodup) (hin:∀ b ∈ Nm (Au h) ids,b ∈ ids):SimH J (aW ρ ids β) (sub (Au h) ρ ids) w:=by
 refine⟨S.jlt,S.jft,fun c y L M hm=>?_,fun c y L M hm=>by
   obtain⟨b,x,D,rfl,G,rfl⟩:=Qs hn c y L
   obtain⟨I,T,k,es,clk,g3,g4,Y,g6⟩:=S.mblk b x G M hm
   have:(PX ρ x).cells=x.cells:=by unfold PX;rw[I];rfl
   exact⟨I,T,k,es,clk,by rw[Ia hn D];exact g3,g4,by rw[this];exact Y,g6⟩,?_⟩
 ·obtain⟨b,x,D,rfl,G,rfl⟩:=Qs hn c y L
  rcases S.blk b x G M hm with⟨I,T⟩ | ⟨k,o,cs,ty,fr,I,T,g3,g4,Y,g6,g7⟩
  ·refine .inl ⟨by rw[Ia hn D];exact I,?_⟩
   have:=Pc ρ x;rw[T] at this;simpa using this
  ·refine .inr ⟨k,o,cs,ty,fr,by rw[Ia hn D];exact I,T,g3,by rw[Pc];exact g4,⟨fun hp=>?_,fun hp j q hj=>?_⟩,g6,g7⟩
   ·have C:x.pure=true:=hp
    have:(PX ρ x).cells=x.cells:=by unfold PX;rw[C];rfl
    rw[this];exact Y.1 C
   ·have C:x.pure=false:=hp
    have:(PX ρ x).cells=CV ρ x.cells:=by unfold PX;rw[C];rfl
    rw[this] at hj
    obtain⟨q',hq,rfl⟩:=Ave hj
    obtain⟨u,hu,hr,ho⟩:=Y.2 C j q' hq
    exact⟨u,hu,Rep.ren hn (fun U F=>hin U (xQ D G C U (xR hq U F))) hr,ho⟩
 ·intro c c' y y' k o o' L hy' M hd' hs hβ V
  obtain⟨b,x,D,rfl,G,rfl⟩:=Qs hn c y L
  obtain⟨U,x',F,rfl,hx',rfl⟩:=Qs hn c' y' hy'
  rw[Ia hn D] at hβ
  rw[Ia hn F] at V
  rw[S.sep b U x x' k o o' G hx' M hd' hs hβ V]
theorem Azc (hn:(ids.map ρ).Nodup) {k:Nat} (D:A3e (aW ρ ids β) (sub (Au h) ρ ids) k):A3e β h k:=by
 obtain⟨c,y,o,F,G,hs,C⟩:=D
 obtain⟨b,x,I,rfl,L,rfl⟩:=Qs hn c y F
 rw[Ia hn I] at C
 exact⟨b,x,o,L,G,hs,C⟩
end
end Gx

namespace Gx
open Go
theorem Sc {ids:List Nat}:∀ {l:List Nat},aO ids l=true→∀ b ∈ l,b ∈ ids
 | [],_,b,k=>by simp at k
 | i::r,h,b,k=>by
  rw[aO] at h
  simp at h
  rcases List.mem_cons.1 k with rfl | k
  ·exact No.1 h.1
  ·exact Sc h.2 b k
theorem HE {d:Nat}:∀ {l:List Nat} {base b:Nat},b ∈ l→base≤Kl d (A6 base l) b∧Kl d (A6 base l) b<base+l.length
 | [],base,b,k=>by simp at k
 | i::r,base,b,k=>by
  rw[A6,Kl]
  cases hi:Nat.beq i b with
  | true=>simp
  | false =>
   have C:=CW hi
   have D:b ∈ r:=by
    rcases List.mem_cons.1 k with h | h
    ·exact absurd h.symm C
    ·exact h
   have:=HE (d:=d) (base:=base+1) D
   simp only[cond_false,List.length_cons]
   omega
theorem A30 {free ids:List Nat} {b:Nat} (h:RO free b=true):G' free ids b=b:=by unfold G';rw[h];rfl
theorem Azd {free ids:List Nat} {b:Nat} (h:RO free b=false) (k:b ∈ ids):300000≤G' free ids b:=by
 unfold G' Bgw;rw[h]
 exact(HE (List.mem_filter.2 ⟨k,by simp[h]⟩)).1
theorem Aiy {b:Nat}:Ah7 b=true↔100000≤b∧b<200000:=by unfold Ah7;simp
theorem zg {free ids:List Nat} {b c:Nat} (C:b ∈ ids) (D:100000≤c∧c<200000) (k:G' free ids b=c):b=c:=by
 cases hr:RO free b with
 | true=>rw[A30 hr] at k;exact k
 | false=>have:=Azd hr C;omega
theorem RU {ρ:Nat→Nat} {K:List Nat}:∀ {s:H6} {i:Nat},G7 (Bgx ρ K s) i=if Ky K i=true then lR ρ (G7 s i) else .undef
 | [],i=>by
  show AV.undef=if Ky K i=true then lR ρ .undef else AV.undef
  simp[lR]
 | (t,v)::r,i=>by
  rw[Bgx]
  by_cases e:t=i
  ·subst e
   cases k:Ky K t with
   | true=>simp[G7]
   | false=>simp only[cond_false];rw[RU];simp[k]
  ·have C:Nat.beq t i=false:=lS e
   cases k:Ky K t with
   | true=>simp only[cond_true,G7,C,cond_false];exact RU
   | false=>simp only[cond_false,G7,C];exact RU
theorem A31 {g:Ch} {l:List Nat} {b:Nat} (h:b ∈ LT g l):∃ x,g b=some x∧x.dead=false:=by
 unfold LT at h
 obtain⟨_,k⟩:=List.mem_filter.1 h
 unfold Ls at k
 cases C:g b with
 | none=>simp[C] at k
 | some x =>
  cases D:x.dead with
  | false=>exact⟨x,rfl,D⟩
  | true=>simp[C,D] at k
section
variable {Z:Start} {nt:Nat} {J:Bool→Nat→Prop} {β:De} {st st':St} {a:Act} {w:World}
def AV.isz:AV→Nat
 | .imm _ _ s _ _=>s
 | _=>0
theorem Qt {live:List Nat}:∀ (nils:List (Nat×Nat)) {st:St} {J:Bool→Nat→Prop} {β:De},Inv Z nt J β st a w→WL live nils st=some st'→∃ J' β',Inv Z nt J' β' st' a w
 | [],st,J,β,I,k=>by simp[WL] at k;subst k;exact⟨J,β,I⟩
 | (t,sz)::r,st,J,β,I,k=>by
  rw[WL] at k
  cases L:Nat.ble 1000000 sz with
  | true =>
   rw[L,cond_true] at k
   split at k
   ·rename_i hm hs
    refine Qt r (J:=J) (β:=β) (st:={ s:=pg st.s t (.imm [] 0 (sz - 1000000) false false),h:=st.h }) ?_ k
    refine { I with ss:=⟨fun i v D=>?_,fun i hi=>?_⟩ }
    ·rw[Qo]
     by_cases e:i=t
     ·subst e
      have:=I.ss.slot i v D
      rw[hs,Rep] at this
      subst this
      rw[if_pos rfl,Rep,RepC]
      exact⟨by simp,none,0,rfl,Nat.le_refl _,fun _=>rfl,.inl rfl⟩
     ·rw[if_neg e];exact I.ss.slot i v D
    ·rw[Qo]
     by_cases e:i=t
     ·subst e
      have:=I.ss.out i hi
      rw[hs] at this;cases this
     ·rw[if_neg e];exact I.ss.out i hi
   ·rename_i b off n hm hs
    obtain⟨⟨v',ups,org⟩,M,h1⟩:=ub k
    by_cases S:∃ v,a.tmps[t]?=some v
    ·obtain⟨v0,T⟩:=S
     have hr:=I.ss.slot t v0 T
     rw[hs] at hr
     obtain⟨J1,A,F,_⟩:=fE I.sim (fun b x hb=>⟨x,hb,rfl⟩) M hr
     have I1:=I.step A (fun c x G hn=>by
      exfalso
      unfold mF at M
      obtain⟨y,V,C⟩:=ub M
      obtain⟨_,C⟩:=uc C
      simp at C
      obtain⟨_,C,_⟩:=C
      subst C
      simp only[At,Aj] at G
      unfold Ls at V
      obtain⟨y0,U,_⟩:=ub V
      by_cases e:c=b
      ·subst e;rw[hn] at U;cases U
      ·rw[if_neg e,hn] at G;cases G)
     refine Qt r (J:=J1) (β:=β) (st:={ s:=pg st.s t v',h:=At ups st.h }) ?_ h1
     have Y:∃ c,v'=.imm c n (v'.isz) false org:=by
      unfold mF at M
      obtain⟨y,V,C⟩:=ub M
      obtain⟨_,C⟩:=uc C
      simp at C
      obtain⟨C,_,h3⟩:=C
      subst C h3
      exact⟨_,rfl⟩
     refine { I1 with ss:=⟨fun i v D=>?_,fun i hi=>?_⟩ }
     ·rw[Qo]
      by_cases e:i=t
      ·subst e
       rw[if_pos rfl]
       rw[T] at D;simp at D;subst D
       obtain⟨c,hc⟩:=Y
       rw[hc] at F ⊢
       rw[Rep];exact F
      ·rw[if_neg e];exact I1.ss.slot i v D
     ·rw[Qo]
      by_cases e:i=t
      ·subst e
       have:=I.ss.out i hi
       rw[hs] at this;cases this
      ·rw[if_neg e];exact I1.ss.out i hi
    ·exfalso
     have:=I.ss.out t (by
      cases h:a.tmps[t]? with
      | none=>simp at h;omega
      | some v=>exact absurd ⟨v,h⟩ S)
     rw[hs] at this;cases this
   ·exact Qt r I k
  | false =>
   rw[L,cond_false] at k
   split at k
   ·rename_i hm hs
    cases hf:Au st.h (nid t+15) with
    | some x=>simp[hf] at k
    | none =>
     simp[hf] at k
     have A:=Step.newNone I.sim (d:=nid t+15) (x:=G8 sz) hf rfl
     have I1:=I.step A (fun b x G hn=>by
      rw[Aj] at G
      by_cases e:b=nid t+15
      ·subst e;unfold nid Is;omega
      ·rw[if_neg e,hn] at G;cases G)
     refine Qt r (J:=J) (β:=fun b=>if b=nid t+15 then none else β b) (st:={ s:=pg st.s t (.own (nid t+15) 0 0),h:=He st.h (nid t+15) (G8 sz) }) ?_ k
     refine { I1 with ss:=⟨fun i v D=>?_,fun i hi=>?_⟩ }
     ·rw[Qo]
      by_cases e:i=t
      ·subst e
       rw[if_pos rfl,Rep]
       have:=I.ss.slot i v D
       rw[hs,Rep] at this
       subst this
       exact⟨G8 sz,none,0,⟨by rw[Aj,if_pos rfl],rfl⟩,rfl,Nat.le_refl _,.inl rfl⟩
      ·rw[if_neg e];exact I1.ss.slot i v D
     ·rw[Qo]
      by_cases e:i=t
      ·subst e
       have:=I.ss.out i hi
       rw[hs] at this;cases this
      ·rw[if_neg e];exact I1.ss.out i hi
   ·exact Qt r I k
theorem fM {E:Env} {live roots:List Nat} (I:Inv Z nt J β st a w) (G:rt E live roots st=some st'):∃ J' β',Inv Z nt J' β' st' a w:=by
 unfold rt at G
 obtain⟨s1,T,U⟩:=ub G
 obtain⟨J1,β1,I1⟩:=Qt _ I T
 obtain⟨L,M⟩:=uc U
 simp at L M
 subst M
 obtain⟨hn,hs,hi,_⟩:=L
 have hn:=Xz hn
 have D:∀ b ∈ Nm (Au s1.h) (LT (Au s1.h) (GY (Au s1.h) (Ah5 live s1.s++roots))),b ∈ LT (Au s1.h) (GY (Au s1.h) (Ah5 live s1.s++roots)):=Sc hi
 refine⟨J1,aW _ _ β1,{ I1 with sim:=I1.sim.ren hn D,ss:=⟨fun i v V=>?_,fun i hi=>?_⟩,wr:=fun k Y=>I1.wr k (Azc hn Y),outs:=fun b x0 x F hx hd=>?_ }⟩
 ·rw[RU]
  cases hk:Ky live i with
  | false=>simp[Rep]
  | true =>
   simp only[if_true]
   exact Rep.ren hn (fun b hb=>Sc hs b (Ain hk b hb)) (I1.ss.slot i v V)
 ·rw[RU,I1.ss.out i hi];simp[lR]
 ·obtain⟨b',x',C,S,hg,rfl⟩:=Qs hn b x hx
  have:=zg C ⟨I1.zge b x0 F,I1.zlt b x0 F⟩ S
  subst this
  obtain⟨⟨e1,em⟩,e2,e3,e4⟩:=I1.outs b' x0 x' F hg hd
  refine⟨⟨?_,em⟩,e2,by rw[Pc];exact e3,e4⟩
  have:=Ia (β:=β1) hn C
  rw[S] at this
  rw[this];exact e1
end
end Gx

namespace Gx
open Go
section
variable {R:Type} {r:R} {Z:Start} {E:Env}
theorem A32 (hC:pq E) (hm:E.P.follows .mixedOrders=true) {roots:List Nat} {N:Nat}:∀ (c:Code) {H:Hint} {kn:St→O R} {kx:Nat→St→O R} {kr:St→O R} {st:St} {a:Act} {w:World} {J:Bool→Nat→Prop} {β:De} {Q:Exit→Act→World→Prop},
  Inv Z E.nt J β st a w→G9 E roots N c H kn kx kr st=some r →
  (∀ st' D w' J' β',Inv Z E.nt J' β' st' D w'→kn st'=some r→Q .normal D w') →
  (∀ id st' D w' J' β',Inv Z E.nt J' β' st' D w'→kx id st'=some r→Q (.exit id) D w') →
  (∀ st' D w' J' β',Inv Z E.nt J' β' st' D w'→kr st'=some r→Q .ret D w')→c.wp E.P Q a w:=by
 intro c
 induction c with
 | skip=>intro H kn kx kr st a w J β Q I C hn F hr;exact wp_skip (hn _ _ _ _ _ I C)
 | region id ops draw=>intro H kn kx kr st a w J β Q I C hn F hr;exact Ars hC hm I C hn
 | seq x y L G =>
  intro H kn kx kr st a w J β Q I C hn F hr
  rw[G9] at C
  refine wp_seq (L I C (fun st' D w' J' β' I' h'=>?_) (fun id st' D w' J' β' I' h'=>F id st' D w' J' β' I' h') (fun st' D w' J' β' I' h'=>hr st' D w' J' β' I' h'))
  unfold Bdg at h'
  cases M:H.isJoin with
  | true =>
   rw[M,cond_true,LU] at h'
   obtain⟨s2,S,T⟩:=ub h'
   obtain⟨J2,β2,I2⟩:=fM I' S
   exact G I2 T hn F hr
  | false=>rw[M] at h';exact G I' h' hn F hr
 | cond c x y L G =>
  intro H kn kx kr st a w J β Q I C hn F hr
  rw[G9] at C
  split at C
  ·rename_i t ht
   have Y:=Bu I.ss c
   rw[ht,Rep] at Y
   refine wp_cond Y ?_
   cases t with
   | true=>exact L I C hn F hr
   | false=>exact G I C hn F hr
  ·simp at C
 | block id c U =>
  intro H kn kx kr st a w J β Q I C hn F hr
  rw[G9] at C
  refine wp_block (U I C (fun st' D w' J' β' I' h'=>hn _ _ _ _ _ I' h') (fun j st' D w' J' β' I' h'=>?_) (fun st' D w' J' β' I' h'=>hr _ _ _ _ _ I' h'))
  cases M:Nat.beq j id with
  | true =>
   rw[M] at h'
   have:=Nat.eq_of_beq_eq_true M
   subst this
   simp only[Exit.inBlock,if_true]
   exact hn _ _ _ _ _ I' h'
  | false =>
   rw[M] at h'
   simp only[Exit.inBlock]
   rw[if_neg (CW M)]
   exact F _ _ _ _ _ _ I' h'
 | loop c U =>
  intro H kn kx kr st a w J β Q I C hn F hr
  rw[G9,LU] at C
  refine wp_loop_rounds N ?_
  have key:∀ (n:Nat) {st:St} {a:Act} {w:World} {J:Bool→Nat→Prop} {β:De},Inv Z E.nt J β st a w→fB (rt E H.live roots) (fun k st=>G9 E roots N c H.a k kx kr st) n st=some r→Code.rounds E.P c Q n a w:=by
   intro n
   induction n with
   | zero=>intro st a w J β I h';simp[fB] at h'
   | succ n V =>
    intro st a w J β I h'
    rw[fB] at h'
    rw[rounds_succ]
    refine U I h' (fun st' D w' J' β' I' h''=>?_) (fun id st' D w' J' β' I' h''=>F _ _ _ _ _ _ I' h'') (fun st' D w' J' β' I' h''=>hr _ _ _ _ _ I' h'')
    obtain⟨s2,S,T⟩:=ub h''
    obtain⟨J2,β2,I2⟩:=fM I' S
    exact V I2 T
  obtain⟨s2,S,T⟩:=ub C
  obtain⟨J2,β2,I2⟩:=fM I S
  exact key N I2 T
 | exit id=>intro H kn kx kr st a w J β Q I C hn F hr;exact wp_exit (F _ _ _ _ _ _ I C)
 | ret=>intro H kn kx kr st a w J β Q I C hn F hr;exact wp_ret (hr _ _ _ _ _ I C)
 | rangeFunc=>intro H kn kx kr st a w J β Q I C;simp[G9] at C
 | scope=>intro H kn kx kr st a w J β Q I C;simp[G9] at C
 | label=>intro H kn kx kr st a w J β Q I C;simp[G9] at C
 | goto=>intro H kn kx kr st a w J β Q I C;simp[G9] at C
 | refuse=>intro H kn kx kr st a w J β Q I C;simp[G9] at C
end
end Gx

namespace Gx
open Go
structure FDone (Z:Start) (J:Bool→Nat→Prop) (β:De) (h:Ak) (w:World):Prop where
 sim:SimH J β h w
 os:w.os=Z.w.os
 tape:w.tape=Z.w.tape
 output:w.output=Z.w.output
 size:Z.w.heap.size≤w.heap.size
 frame:∀ k,k<Z.w.heap.size→¬ A3e Z.β Z.h k→w.heap[k]?=Z.w.heap[k]?
 wr:∀ k,A3e β h k→k<Z.w.heap.size→A3e Z.β Z.h k
 jsub:∀ o k,Z.J o k→J o k
 jup:∀ o k,J o k→Z.J o k∨A3e Z.β Z.h k∨Z.w.heap.size≤k
 sizes:∀ k,Bz Z.w k≤Bz w k
 outs:∀ b x0 x,Au Z.h b=some x0→Au h b=some x→x.dead=false→(β b=Z.β b∧x.mp=x0.mp)∧x.sz=x0.sz∧(x0.mp=false→x.cells.length=x0.cells.length)∧x0.dead=false
 live:∀ b x,Au h b=some x→x.dead=false
def Bnt (P:Program) (f:Nat) (args:LA) (h:Ak) (res:AV) (h':Ak):Prop :=
 ∀ (J:Bool→Nat→Prop) (β:De) (w:World) (vs:List Value),SimH J β h w→Reps J β h w args vs →
  Calls P f vs.toArray w fun e w'=>∃ vc J' β',e=.returned vc∧FDone ⟨J,β,h,w⟩ J' β' h' w'∧Rep J' β' h' w' res vc
def Bja (P:Program) (f:Nat) (t:Tw):Prop:=∀ args h res h',(t.runK args h fun v h'=>some (v,h'))=some (res,h')→Bnt P f args h res h'
def Aiz (P:Program):List (Nat×Tw)→Prop
 | []=>True
 | p::r=>Bja P p.1 p.2∧Aiz P r
theorem A33 {P:Program} {R:Type} {r:R}:∀ {T:List (Nat×Tw)},Aiz P T→∀ {f:Nat} {C:LA} {h:Ak} {k:AV→Ak→O R},rm T f C h k=some r →
  ∃ D h',Bnt P f C h D h'∧k D h'=some r
 | [],_,f,C,h,k,F=>by simp[rm] at F
 | (g,t)::T,hT,f,C,h,k,F=>by
  rw[rm] at F
  cases G:Nat.beq g f with
  | false=>rw[G] at F;exact A33 hT.2 F
  | true =>
   rw[G] at F
   have:=Nat.eq_of_beq_eq_true G
   subst this
   simp only[cond_true] at F
   rw[t.eq] at F
   obtain⟨⟨D,h'⟩,I,L⟩:=ub F
   exact⟨D,h',hT.1 C h D h' I,L⟩
section
variable {R:Type} {r:R} {Z:Start} {nt:Nat} {J:Bool→Nat→Prop} {β:De} {st:St} {a:Act} {w:World}
def sH (tmps:Array Value):ResultVar→Sem Value
 | .tmp t=>pure (tmps.getD t undef)
 | .cell a t=>do loadVar t (←Go.asAddr (tmps.getD a undef))
theorem Bg4 {α β:Type} (f:α→Sem β) (xs:Array α):xs.mapM f=(List.toArray <$> xs.toList.mapM f):=by
 rw[←List.mapM_toArray]
theorem A8i (fn:Func) (tmps:Array Value):results fn tmps=(do let vs ←fn.results.mapM (sH tmps);pure (if h:vs.size=1 then vs[0] else .tuple vs)):=by
 unfold results
 congr 1
def A34 (l:List Value):Value:=match l with | [v]=>v | l=>.tuple l.toArray
theorem A35 {P:Program} (fn:Func) (tmps:Array Value) {vs:List Value} (h:(fn.results.toList.mapM (sH tmps)).run P w=.ok vs w):(results fn tmps).run P w=.ok (A34 vs) w:=by
 rw[A8i,Bg4]
 simp only[map_eq_pure_bind,Sem.run_bind,h,Result.andThen_ok,Sem.run_pure]
 congr 1
 match vs with
 | []=>rfl
 | [v]=>rfl
 | v::u::r=>simp[A34]
theorem A36 {P:Program} {t:TypeId} {v vc:Value} (h:(Instr.loadAt t v).run P w=.ok vc w):(do loadVar t (←Go.asAddr v):Sem Value).run P w=.ok vc w:=by
 unfold Instr.loadAt at h
 cases v with
 | pointer a =>
  cases a with
  | some a=>exact h
  | none=>simp[Instr.sureAddr] at h
 | _=>simp[Instr.sureAddr] at h
theorem QD {E:Env} (S:SimH J β st.h w) (SS:SimS J β st.h w st.s a.tmps):∀ (l:List ResultVar) {C:LA} {k:LA→O R},Qm E st l C k=some r →
  ∃ vals vs,k (C.reverse++vals)=some r∧(l.mapM (sH a.tmps)).run E.P w=.ok vs w∧Reps J β st.h w vals vs
 | [],C,k,D=>⟨[],[],by simpa[Qm] using D,by simp,by rw[Reps]⟩
 | .tmp t::l,C,k,D=>by
  rw[Qm] at D
  obtain⟨vals,vs,F,G,I⟩:=QD S SS l D
  refine⟨G7 st.s t::vals,a.tmps.getD t undef::vs,by simpa using F,?_,by rw[Reps];exact⟨_,_,rfl,Bu SS (.tmp t),I⟩⟩
  simp only[List.mapM_cons,sH,Sem.run_bind,Sem.run_pure,Result.andThen_ok,G]
 | .cell ad t::l,C,k,D=>by
  rw[Qm] at D
  obtain⟨v,vc,L,F,G⟩:=z0 S (fun _ _ h=>h) D (Bu SS (.tmp ad))
  obtain⟨vals,vs,I,M,T⟩:=QD S SS l L
  refine⟨v::vals,vc::vs,by simpa using I,?_,by rw[Reps];exact⟨_,_,rfl,G,T⟩⟩
  have:(sH a.tmps (.cell ad t)).run E.P w=.ok vc w:=A36 F
  simp only[List.mapM_cons,Sem.run_bind,this,Sem.run_pure,Result.andThen_ok,M]
theorem A8j {i:Nat} {m:Nat×Nat} {v v':AV} {ups:Iw} {vc:Value} {h:Ak} (S:SimH J β h w) (k:Bld (Au h) i m v=some (v',ups)) (C:Rep J β h w v vc) :
  ∃ J' β',Step J β h w J' β' (At ups h) w∧Rep J' β' (At ups h) w v' vc∧(∀ b x,Au (At ups h) b=some x→Au h b=none→Is≤b):=by
 have old:∀ {ups:Iw},(∀ b,Bl ups b=true→∃ x,Au h b=some x)→∀ b x,Au (At ups h) b=some x→Au h b=none→Is≤b:=by
  intro ups V b x D hn
  cases hi:Bl ups b with
  | true=>obtain⟨y,Y⟩:=V b hi;rw[Y] at hn;cases hn
  | false=>rw[Du _ _ _ hi,hn] at D;cases D
 unfold Bld at k
 cases M:Nat.beq m.1 0 with
 | true =>
  rw[M] at k;simp at k
  obtain⟨rfl,rfl⟩:=k
  exact⟨J,β,Step.refl S,C,old (by simp[Bl])⟩
 | false =>
  rw[M,cond_false] at k
  cases T:Nat.beq m.1 1 with
  | true =>
   rw[T,cond_true] at k
   split at k
   ·simp at k;obtain⟨rfl,rfl⟩:=k
    rw[Rep] at C;subst C
    refine⟨J,β,Step.refl S,?_,old (by simp[Bl])⟩
    rw[Rep,RepC]
    exact⟨by simp,none,0,rfl,Nat.le_refl _,by simp,.inl rfl⟩
   ·simp at k;obtain⟨rfl,rfl⟩:=k
    refine⟨J,β,Step.refl S,?_,old (by simp[Bl])⟩
    rw[Rep,RepC] at C ⊢
    obtain⟨e1,A,cap,e2,e3,e4,e5⟩:=C
    exact⟨e1,A,cap,e2,e3,by simp,e5⟩
   ·obtain⟨⟨q1,q2,q3⟩,hq,G⟩:=ub k
    simp at G;obtain⟨rfl,rfl⟩:=G
    obtain⟨J',A,hA,_⟩:=fE S (Looks.s fun _ _ h=>h) hq C
    refine⟨J',β,A,?_,old (Au8 hq)⟩
    unfold mF at hq
    obtain⟨x,D,F⟩:=ub hq
    obtain⟨_,U⟩:=uc F
    simp at U
    obtain⟨rfl,rfl,rfl⟩:=U
    rw[Rep];exact hA
   ·simp at k
  | false =>
   rw[T,cond_false] at k
   cases G:Nat.beq m.1 2 with
   | true =>
    rw[G,cond_true] at k
    split at k
    ·obtain⟨hn,F⟩:=Bb2 k
     simp at F;obtain⟨rfl,rfl⟩:=F
     have L:Au h (nid 90000+i)=none:=by cases D:Au h (nid 90000+i)<;>simp_all
     have A:=Step.newNone S (x:=G8 m.2) L rfl
     refine⟨J,fun b=>if b=nid 90000+i then none else β b,A,?_,fun b x D hb=>?_⟩
     ·rw[Rep] at C;subst C;rw[Rep]
      exact⟨G8 m.2,none,0,⟨by simp only[At];rw[Aj,if_pos rfl],rfl⟩,rfl,Nat.le_refl _,.inl rfl⟩
     ·simp only[At] at D
      rw[Aj] at D
      by_cases e:b=nid 90000+i
      ·subst e;unfold nid Is;omega
      ·rw[if_neg e,hb] at D;cases D
    ·simp at k;obtain⟨rfl,rfl⟩:=k
     exact⟨J,β,Step.refl S,C,old (by simp[Bl])⟩
   | false =>
    rw[G,cond_false] at k
    split at k
    ·rename_i c
     obtain⟨⟨q1,q2,q3⟩,hq,F⟩:=ub k
     simp at F;obtain⟨rfl,rfl⟩:=F
     rw[Rep] at C
     obtain⟨cs,rfl,hc⟩:=C
     obtain⟨J',A,hA,I,_⟩:=Vn S (Looks.s fun _ _ h=>h) hq hc
     refine⟨J',β,A,?_,old (HA hq)⟩
     rw[Rep]
     exact⟨cs,rfl,I.symm,hA⟩
    ·simp at k;obtain⟨rfl,rfl⟩:=k
     exact⟨J,β,Step.refl S,C,old (by simp[Bl])⟩
    ·simp at k
theorem zh {s:H6}:∀ (vals:LA) {i:Nat} {ms:List (Nat×Nat)} {h h':Ak} {vals':LA} {vs:List Value} {J:Bool→Nat→Prop} {β:De},
  Inv Z nt J β { s:=s,h:=h } a w→A3c h i ms vals=some (vals',h')→Reps J β h w vals vs →
  ∃ J' β',Inv Z nt J' β' { s:=s,h:=h' } a w∧Reps J' β' h' w vals' vs∧∀ x v,Rep J β h w x v→Rep J' β' h' w x v
 | [],i,ms,h,h',vals',vs,J,β,I,k,D=>by
  simp[A3c] at k;obtain⟨rfl,rfl⟩:=k
  exact⟨J,β,I,D,fun _ _ h=>h⟩
 | v::r,i,ms,h,h',vals',vs,J,β,I,k,D=>by
  rw[A3c] at k
  obtain⟨⟨v1,u1⟩,S,T⟩:=ub k
  obtain⟨⟨V,hr⟩,U,L⟩:=ub T
  simp at L;obtain⟨rfl,rfl⟩:=L
  rw[Reps] at D
  obtain⟨u,us,rfl,F,G⟩:=D
  obtain⟨J1,β1,A,hA,C⟩:=A8j I.sim S F
  have I1:=I.step A C
  obtain⟨J2,β2,I2,hB,M⟩:=zh r I1 U (Reps.ext A.ext G)
  refine⟨J2,β2,I2,?_,fun x v h=>M x v (Rep.ext A.ext h)⟩
  rw[Reps]
  exact⟨u,us,rfl,M _ _ hA,hB⟩
theorem Art {E:Env} {fn:Func} {modes:List (Nat×Nat)} {outs:List Nat} {k:AV→Ak→O R} (I:Inv Z nt J β st a w) (V:ER E fn modes outs k st=some r) :
  ∃ F h' vc J' β',k F h'=some r∧(results fn a.tmps).run E.P w=.ok vc w∧FDone Z J' β' h' w∧Rep J' β' h' w F vc:=by
 unfold ER at V
 obtain⟨vals,vs,Y,h2,h3⟩:=QD I.sim I.ss _ V
 simp only[List.reverse_nil,List.nil_append] at Y
 obtain⟨⟨vals',h'⟩,h4,h5⟩:=ub Y
 obtain⟨J1,β1,I1,hR,_⟩:=zh (s:=st.s) vals I h4 h3
 obtain⟨hc,h6⟩:=uc h5
 simp at hc
 obtain⟨hn,hs,hi,_⟩:=hc
 have hn:=Xz hn
 have G:=Sc hi
 have hs:=Sc hs
 refine⟨_,_,A34 vs,J1,aW _ _ β1,h6,A35 fn a.tmps h2,?_,Rep.ren hn hs ?_⟩
 ·exact⟨I1.sim.ren hn G,I1.os,I1.tape,I1.output,I1.size,I1.frame,fun k hm=>I1.wr k (Azc hn hm),I1.jsub,I1.jup,I1.sizes,fun b x0 x L M hd=>by
   obtain⟨b',x',D,S,T,rfl⟩:=Qs hn b x M
   have:=zg D ⟨I1.zge b x0 L,I1.zlt b x0 L⟩ S
   subst this
   obtain⟨⟨e1,em⟩,e2,e3,e4⟩:=I1.outs b' x0 x' L T hd
   refine⟨⟨?_,em⟩,e2,by rw[Pc];exact e3,e4⟩
   have:=Ia (β:=β1) hn D
   rw[S] at this
   rw[this];exact e1,fun b x M=>by
   obtain⟨b',x',D,S,T,rfl⟩:=Qs hn b x M
   obtain⟨x2,U,h8⟩:=A31 D
   rw[T] at U;simp at U;subst U;exact h8⟩
 ·match vals',vs,hR with
  | [],vs,hR=>rw[Reps] at hR;subst hR;simp only[A34,Ble];rw[Rep];exact⟨[],rfl,by rw[Reps]⟩
  | [v],vs,hR =>
   rw[Reps] at hR
   obtain⟨u,us,rfl,hu,C⟩:=hR
   rw[Reps] at C;subst C
   exact hu
  | v::v2::l,vs,hR =>
   have hR':=hR
   rw[Reps] at hR
   obtain⟨u,us,rfl,hu,C⟩:=hR
   rw[Reps] at C
   obtain⟨u2,us2,rfl,_,_⟩:=C
   simp only[A34,Ble]
   rw[Rep]
   exact⟨_,rfl,hR'⟩
end
end Gx

namespace Gx
open Go
section
variable {J J':Bool→Nat→Prop} {β:De} {h:Ak} {w:World}
mutual
theorem Rep.noOrg:∀ {x:AV} {v:Value},PY x=false→Rep J β h w x v→Rep (fun _=>J false) β h w x v
 | .own ..,v,_,hr=>by rw[Rep] at hr ⊢;exact hr
 | .optr ..,v,_,hr=>by rw[Rep] at hr ⊢;exact hr
 | .omap ..,v,_,hr=>by rw[Rep] at hr ⊢;exact hr
 | .pagg c o,v,ho,hr=>by
  rw[PY] at ho;subst ho
  rw[Rep] at hr ⊢;exact hr
 | .agg c,v,ho,hr=>by
  rw[PY] at ho
  rw[Rep] at hr ⊢
  obtain⟨cs,h1,h2⟩:=hr
  exact⟨cs,h1,Reps.noOrg ho h2⟩
 | .tup c,v,ho,hr=>by
  rw[PY] at ho
  rw[Rep] at hr ⊢
  obtain⟨cs,h1,h2⟩:=hr
  exact⟨cs,h1,Reps.noOrg ho h2⟩
 | .fn f c,v,ho,hr=>by
  rw[PY] at ho
  rw[Rep] at hr ⊢
  obtain⟨cs,h1,h2⟩:=hr
  exact⟨cs,h1,Reps.noOrg ho h2⟩
 | .undef,_,_,_=>by rw[Rep];trivial
 | .imm c n sz t o,v,ho,hr=>by
  rw[PY] at ho;subst ho
  rw[Rep] at hr ⊢;exact hr
 | .iptr c o,v,ho,hr=>by
  rw[PY] at ho;subst ho
  rw[Rep] at hr ⊢;exact hr
 | .int ..,v,_,hr=>by rw[Rep] at hr ⊢;exact hr
 | .bool _,v,_,hr=>by rw[Rep] at hr ⊢;exact hr
 | .str _,v,_,hr=>by rw[Rep] at hr ⊢;exact hr
 | .nsl,v,_,hr=>by rw[Rep] at hr ⊢;exact hr
 | .nilptr,v,_,hr=>by rw[Rep] at hr ⊢;exact hr
 | .nilfn,v,_,hr=>by rw[Rep] at hr ⊢;exact hr
theorem Reps.noOrg:∀ {c:List AV} {cs:List Value},Y2 c=false→Reps J β h w c cs→Reps (fun _=>J false) β h w c cs
 | [],_,_,hr=>by rw[Reps] at hr ⊢;exact hr
 | x::r,cs,ho,hr=>by
  rw[Y2] at ho
  simp at ho
  rw[Reps] at hr ⊢
  obtain⟨u,us,h1,h2,h3⟩:=hr
  exact⟨u,us,h1,Rep.noOrg ho.1 h2,Reps.noOrg ho.2 h3⟩
end
theorem Ai0:∀ {c:LA} {j:Nat} {x:AV},Y2 c=false→c[j]?=some x→PY x=false
 | [],j,x,_,k=>by simp at k
 | y::r,j,x,C,k=>by
  rw[Y2] at C
  simp at C
  cases j with
  | zero=>simp at k;subst k;exact C.1
  | succ j=>exact Ai0 C.2 (by simpa using k)
theorem Ai1:∀ {h:Ak} {b:Nat} {x:Blk},rn h=false→Au h b=some x→x.taint=false∧(x.pure=false→Y2 x.cells=false)
 | [],b,x,_,k=>by simp[Au] at k
 | (i,y)::r,b,x,C,k=>by
  rw[rn] at C
  simp at C
  rw[Au] at k
  cases hi:Nat.beq i b with
  | true =>
   rw[hi] at k;simp at k;subst k
   refine⟨C.1.1,fun D=>?_⟩
   have:=C.1.2
   rw[D] at this;simpa using this
  | false=>rw[hi] at k;exact Ai1 C.2 (by simpa using k)
theorem SimH.noOrg (S:SimH J β h w) (ho:rn h=false):SimH (fun _=>J false) β h w:=by
 refine⟨fun _ k C=>S.jlt _ k C,fun k C=>C,fun b x D G I=>?_,fun b x D G I=>by
   obtain⟨L,M,k,es,clk,T,g4,g5,g6⟩:=S.mblk b x D G I
   exact⟨L,M,k,es,clk,T,g4,g5,fun _ hg=>g6 false hg⟩,S.sep⟩
 obtain⟨V,hc⟩:=Ai1 ho D
 rcases S.blk b x D G I with U | ⟨k,o,cs,ty,fr,U,h2,h3,h4,Y,h6,h7⟩
 ·exact .inl U
 ·refine .inr ⟨k,o,cs,ty,fr,U,h2,h3,h4,⟨fun F=>?_,fun F j c C=>?_⟩,fun hs _=>h6 hs _,fun hs=>?_⟩
  ·have:=Y.1 F;rw[V] at this;exact this
  ·obtain⟨u,L,M,T⟩:=Y.2 F j c C
   exact⟨u,L,Rep.noOrg (Ai0 (hc F) C) M,T⟩
  ·have:=h7 hs;rw[V] at this;exact this
theorem Ext.grow (hJ:∀ o k,J o k→J' o k):Ext J β h w J' β h w:=⟨hJ,fun _ _ _=>rfl,fun b x C=>⟨x,⟨C,rfl⟩,by cases D:x.dead<;>simp⟩,fun _ _ _ _=>Nat.le_refl _⟩
theorem SimH.grow (S:SimH J β h w) (hJ:∀ o k,J o k→J' o k) (I:∀ o k,J' o k→k<w.heap.size) (L:∀ k,J' false k→J' true k)
  (C:∀ b x k o,Au h b=some x→x.dead=false→x.sealed=false→β b=some (k,o)→∀ g,¬ J' g k):SimH J' β h w:=by
 refine⟨I,L,fun b x D F M=>?_,fun b x D F M=>by
   obtain⟨V,T,k,es,clk,U,Y,g5,g6⟩:=S.mblk b x D F M
   exact⟨V,T,k,es,clk,U,Y,g5,C b x k 0 D F T U⟩,S.sep⟩
 rcases S.blk b x D F M with G | ⟨k,o,cs,ty,fr,G,h2,h3,h4,h5,h6,h7⟩
 ·exact .inl G
 ·exact .inr ⟨k,o,cs,ty,fr,G,h2,h3,h4,h5.ext (Ext.grow hJ),fun hs=>C b x k o D F hs G,fun hs=>hJ _ _ (h7 hs)⟩
def Bmt (β:De) (h:Ak) (fz:List Nat) (k:Nat):Prop:=∃ b x o,b ∈ fz∧Au h b=some x∧x.dead=false∧x.sealed=false∧β b=some (k,o)
def JS (J:Bool→Nat→Prop) (β:De) (h:Ak) (fz:List Nat):Bool→Nat→Prop:=fun o k=>J o k∨(o=true∧Bmt β h fz k)
theorem Ai2 {g:Ch} {b off n:Nat} {x:Blk} {vc:Value} {fz:List Nat} (S:SimH J β h w) (Y:Looks g h) (C:Ls g b=some x) (hp:x.pure=true) (hf:x.sealed=false→b ∈ fz) (U:Rep J β h w (.own b off n) vc) :
  Rep (JS J β h fz) β h w (.imm ((x.cells.drop off).take (n*x.sz)) n x.sz false (!x.sealed||x.taint)) vc:=by
 unfold Ls at C
 obtain⟨x0,L,C⟩:=ub C
 obtain⟨M,C⟩:=Bb2 C
 simp at C;subst C
 have I:=Y b _ L
 rw[Rep]
 have key:=(Bb3 (J':=fun o k=>o≠x0.taint∨JS J β h fz (!x0.sealed||x0.taint) k) S I M hp U (fun k o T=>.inr ?_) (fun o k F=>?_) false (!x0.sealed||x0.taint)).2 (by simp)
 ·exact RepC.keep (fun k G=>by rcases G with G | G;exact absurd rfl G;exact G) (fun _ _=>rfl) key
 ·cases hs:x0.sealed with
  | false =>
   simp only[Bool.not_false,Bool.true_or]
   exact .inr ⟨rfl,b,x0,o,hf hs,I,M,hs,T⟩
  | true =>
   simp only[Bool.not_true,Bool.false_or]
   rcases S.blk b x0 I M (Bgz I U) with⟨D,_⟩ | ⟨k',o',cs,ty,fr,D,h2,h3,h4,h5,h6,h7⟩
   ·rw[T] at D;cases D
   ·rw[T] at D;simp at D;obtain⟨rfl,rfl⟩:=D
    exact .inl (h7 hs)
 ·by_cases e:o=x0.taint
  ·subst e
   right
   cases hs:x0.sealed with
   | false =>
    simp only[Bool.not_false,Bool.true_or]
    left
    cases V:x0.taint with
    | false=>rw[V] at F;exact S.jft k F
    | true=>rw[V] at F;exact F
   | true=>simp only[Bool.not_true,Bool.false_or];exact .inl F
  ·exact .inl e
theorem JS.mono (S:SimH J β h w) {fz:List Nat} {a b:Bool} (k:Nat) (C:JS J β h fz a k):JS J β h fz (a||b) k:=by
 cases a
 ·cases b
  ·exact C
  ·rcases C with C | ⟨D,_⟩
   ·exact .inl (S.jft k C)
   ·cases D
 ·exact C
theorem Aru {g:Ch} {v v':AV} {o:Bool} {vc:Value} {fz:List Nat} (S:SimH J β h w) (T:Looks g h) (C:WI g v=some (v',o)) (U:∀ b off n x,v=.own b off n→g b=some x→x.sealed=false→b ∈ fz) (F:Rep J β h w v vc) :
  RepC (JS J β h fz o) w v' vc:=by
 cases v
 case own b off n =>
  rw[WI] at C
  obtain⟨x,D,V⟩:=ub C
  obtain⟨Y,M⟩:=uc V
  simp at M
  obtain⟨rfl,rfl⟩:=M
  have:=Ai2 S T D Y (fun hs=>by
   unfold Ls at D
   obtain⟨x0,G,D⟩:=ub D
   obtain⟨hd,D⟩:=Bb2 D
   simp at D;subst D
   exact U b off n x0 rfl G hs) F
  rw[Rep] at this;exact this
 case imm c n sz t org =>
  simp[WI] at C;obtain⟨rfl,rfl⟩:=C
  rw[Rep,RepC] at F
  rw[RepC]
  obtain⟨e1,A,cap,e2,e3,e4,I⟩:=F
  refine⟨e1,A,cap,e2,e3,by simp,?_⟩
  rcases I with I | ⟨a,e6,e7,e8⟩
  ·exact .inl I
  ·exact .inr ⟨a,e6,.inl e7,RepCs.keep (fun k L=>.inl L) (fun _ _=>rfl) (fun _=>rfl) e8⟩
 case iptr c org =>
  simp[WI] at C;obtain⟨rfl,rfl⟩:=C
  rw[Rep] at F
  exact RepC.keep (fun k L=>.inl L) (fun _ _=>rfl) F
 all_goals first
  | (simp[WI] at C;done)
  | (simp[WI] at C;obtain⟨rfl,rfl⟩:=C;rw[Rep] at F;rw[RepC];exact F)
theorem fN {g:Ch} {fz:List Nat} (S:SimH J β h w) (T:Looks g h):∀ {c c':LA} {o:Bool} {cs:List Value},ex g c=some (c',o)→(∀ b ∈ L8 g c,b ∈ fz)→Reps J β h w c cs →
  cs.length=c'.length∧∀ (j:Nat) (x:AV),c'[j]?=some x→∃ u,cs[j]?=some u∧RepC (JS J β h fz o) w x u
 | [],c',o,cs,C,G,D=>by
  simp[ex] at C;obtain⟨rfl,rfl⟩:=C
  rw[Reps] at D;subst D
  exact⟨rfl,fun j x F=>by simp at F⟩
 | v::r,c',o,cs,C,G,D=>by
  rw[ex] at C
  obtain⟨⟨v1,o1⟩,U,C⟩:=ub C
  obtain⟨⟨r1,o2⟩,V,C⟩:=ub C
  simp at C;obtain⟨rfl,rfl⟩:=C
  rw[Reps] at D
  obtain⟨u,us,rfl,Y,g2⟩:=D
  have I:∀ b ∈ L8 g r,b ∈ fz:=fun b L=>G b (by
   cases v<;>simp only[L8]<;>try exact L
   split
   ·rename_i x _;cases x.sealed<;>simp[L]
   ·exact L)
  have a1:=Aru (fz:=fz) S T U (fun b off n x e hx hs=>G b (by subst e;simp[L8,hx,hs])) Y
  obtain⟨b1,b2⟩:=fN S T V I g2
  refine⟨by simp[b1],fun j x F=>?_⟩
  cases j with
  | zero=>simp at F;subst F;exact⟨u,by simp,RepC.keep (fun k M=>JS.mono S k M) (fun _ _=>rfl) a1⟩
  | succ j =>
   obtain⟨u',e1,e2⟩:=b2 j x (by simpa using F)
   exact⟨u',by simpa using e1,RepC.keep (fun k M=>by rw[Bool.or_comm];exact JS.mono S k M) (fun _ _=>rfl) e2⟩
theorem Arv {g:Ch} {v v':AV} {q:Bool} {vc:Value} {fz:List Nat} (S:SimH J β h w) (Y:Looks g h) (D:Ays g v=some (v',q)) (hf:∀ b ∈ RL g v,b ∈ fz) (G:Rep J β h w v vc) :
  Rep (JS J β h fz) β h w v' vc∧H7 v'=[]:=by
 unfold Ays at D
 split at D
 ·rename_i b off n
  obtain⟨x,C,F⟩:=ub D
  obtain⟨hp,L⟩:=uc F
  simp at L
  obtain⟨rfl,_⟩:=L
  exact⟨Ai2 S Y C hp (fun hs=>by
   unfold Ls at C
   obtain⟨x0,M,C⟩:=ub C
   obtain⟨U,C⟩:=Bb2 C
   simp at C;subst C
   exact hf b (by simp[RL,M,hs])) G,by simp[H7]⟩
 ·simp at D;obtain⟨rfl,_⟩:=D
  refine⟨?_,by simp[H7]⟩
  rw[Rep,RepC] at G ⊢
  obtain⟨e1,A,cap,e2,e3,e4,e5⟩:=G
  refine⟨e1,A,cap,e2,e3,by simp,?_⟩
  rcases e5 with e5 | ⟨a,e6,e7,e8⟩
  ·exact .inl e5
  ·exact .inr ⟨a,e6,.inl e7,RepCs.keep (fun k hk=>.inl hk) (fun _ _=>rfl) (fun _=>rfl) e8⟩
 ·rename_i b off
  obtain⟨x,C,F⟩:=ub D
  obtain⟨hp,L⟩:=uc F
  simp at L
  obtain⟨rfl,_⟩:=L
  unfold Ls at C
  obtain⟨x0,M,C⟩:=ub C
  obtain⟨U,C⟩:=Bb2 C
  simp at C;subst C
  have hy:=Y b _ M
  refine⟨?_,by simp[H7]⟩
  rw[Rep] at G
  obtain⟨x1,k,o,⟨g1,gm⟩,g2,T⟩:=G
  rw[hy] at g1;simp at g1;subst g1
  rcases T with T | T
  ·simp[U] at T
  ·rcases S.blk b x0 hy U gm with⟨F,_⟩ | ⟨k',o',cs,ty,fr,F,L,h3,h4,h5,h6,h7⟩
   ·rw[T] at F;cases F
   ·rw[T] at F;simp at F;obtain⟨rfl,rfl⟩:=F
    have hin:∀ V,J x0.taint V→JS J β h fz (!x0.sealed||x0.taint) V:=by
     intro V I
     left
     cases hs:x0.sealed with
     | false =>
      simp only[Bool.not_false,Bool.true_or]
      cases ht:x0.taint with
      | false=>rw[ht] at I;exact S.jft V I
      | true=>rw[ht] at I;exact I
     | true=>simp only[Bool.not_true,Bool.false_or];exact I
    rw[Rep,RepC]
    refine⟨_,g2,?_,?_⟩
    ·cases hs:x0.sealed with
     | false =>
      simp only[Bool.not_false,Bool.true_or]
      exact .inr ⟨rfl,b,x0,o,hf b (by simp[RL,M,hs]),hy,U,hs,T⟩
     | true =>
      simp only[Bool.not_true,Bool.false_or]
      exact .inl (h7 hs)
    ·refine RepCs.keep hin (fun _ _=>rfl) (fun j=>?_) ((h5.1 hp).drop off)
     rw[Addr.add_mid,AE L,Nat.add_assoc]
 ·rename_i c
  obtain⟨⟨c1,o1⟩,F,L⟩:=ub D
  simp at L;obtain⟨rfl,_⟩:=L
  rw[Rep] at G
  obtain⟨cs,rfl,G⟩:=G
  obtain⟨b1,b2⟩:=fN (fz:=fz) S Y F (by simpa[RL] using hf) G
  refine⟨?_,by simp[H7]⟩
  rw[Rep]
  refine⟨cs,rfl,b1,?_⟩
  rw[D7]
  intro j x I
  obtain⟨u,e1,e2⟩:=b2 j x I
  exact⟨u,by simpa using e1,e2⟩
 ·simp at D;obtain⟨rfl,_⟩:=D
  exact⟨Rep.ext (Ext.grow fun _ _ I=>.inl I) G,by simp[H7,J6]⟩
 ·simp at D
 ·simp at D
 ·simp at D
 ·simp at D
 ·simp at D;obtain⟨rfl,_⟩:=D
  refine⟨Rep.ext (Ext.grow fun _ _ I=>.inl I) G,?_⟩
  cases v<;>first | rfl | simp_all
theorem HF {g:Ch} {fz:List Nat} (S:SimH J β h w) (U:Looks g h):∀ {F:LA} {ms:List Bool} {args':LA} {im D:List Nat} {vs:List Value},
  RM g ms F=some (args',im,D)→(∀ b ∈ D,b ∈ fz)→Reps J β h w F vs→Reps (JS J β h fz) β h w args' vs∧∀ b ∈ J6 args',b ∈ im
 | [],ms,args',im,D,vs,C,T,G=>by
  simp[RM] at C;obtain⟨rfl,rfl,rfl⟩:=C
  rw[Reps] at G;subst G
  exact⟨by rw[Reps],by simp[J6]⟩
 | v::r,ms,args',im,D,vs,C,T,G=>by
  rw[RM] at C
  rw[Reps] at G
  obtain⟨u,us,rfl,I,L⟩:=G
  cases hm:ms.headD false with
  | true =>
   rw[hm,cond_true] at C
   obtain⟨⟨a2,i2,f2⟩,V,M⟩:=ub C
   simp at M;obtain⟨rfl,rfl,rfl⟩:=M
   obtain⟨Y,g2⟩:=HF S U V T L
   refine⟨by rw[Reps];exact⟨u,us,rfl,Rep.ext (Ext.grow fun _ _ hj=>.inl hj) I,Y⟩,fun b k=>?_⟩
   rw[J6] at k
   rcases List.mem_append.1 k with k | k
   ·exact List.mem_append.2 (.inl k)
   ·exact List.mem_append.2 (.inr (g2 b k))
  | false =>
   rw[hm,cond_false] at C
   obtain⟨⟨v1,b1⟩,h0,C⟩:=ub C
   obtain⟨⟨a2,i2,f2⟩,V,M⟩:=ub C
   simp at M;obtain⟨rfl,rfl,rfl⟩:=M
   obtain⟨e1,e2⟩:=Arv S U h0 (fun b k=>T b (List.mem_append.2 (.inl k))) I
   obtain⟨Y,g2⟩:=HF S U V (fun b k=>T b (List.mem_append.2 (.inr k))) L
   refine⟨by rw[Reps];exact⟨u,us,rfl,e1,Y⟩,fun b k=>?_⟩
   rw[J6,e2] at k
   exact g2 b (by simpa using k)
end
end Gx

namespace Gx
open Go
theorem Avf {g g':Ch} {ρ:Nat→Nat}:∀ {ids:List Nat},(∀ b ∈ ids,g b=g' b)→sub g ρ ids=sub g' ρ ids
 | [],_=>rfl
 | b::r,h=>by
  rw[sub,sub,h b (by simp),Avf (fun c k=>h c (by simp[k]))]
theorem fO {g:Ch}:∀ {l:List Nat},ez g l=true→∀ b ∈ l,∃ x,g b=some x∧x.dead=false
 | [],_,b,k=>by simp at k
 | i::r,h,b,k=>by
  rw[ez] at h
  simp at h
  rcases List.mem_cons.1 k with rfl | k
  ·cases C:g b with
   | none=>rw[C] at h;simp at h
   | some x=>rw[C] at h;exact⟨x,rfl,by simpa using h.1⟩
  ·exact fO h.2 b k
theorem Bca:∀ {l m:List Nat},A3a l m=true→∀ b ∈ l,b ∉ m
 | [],m,_,b,k=>by simp at k
 | i::r,m,h,b,k=>by
  rw[A3a] at h
  simp at h
  rcases List.mem_cons.1 k with rfl | k
  ·intro C;have:=No.2 C;rw[this] at h;simp at h
  ·exact Bca h.2 b k
theorem RV {d:Nat}:∀ {l:List (Nat×Nat)} {b:Nat},b ∈ l.map (·.1)→Kl d l b ∈ l.map (·.2)
 | [],b,k=>by simp at k
 | (i,x)::r,b,k=>by
  rw[Kl]
  cases hi:Nat.beq i b with
  | true=>simp
  | false =>
   have C:b ∈ r.map (·.1):=by
    rw[List.map_cons] at k
    rcases List.mem_cons.1 k with h | h
    ·exact absurd h.symm (CW hi)
    ·exact h
   simp only[cond_false,List.map_cons]
   exact List.mem_cons_of_mem _ (RV C)
theorem EV {d:Nat}:∀ {l m:List (Nat×Nat)} {b:Nat},Kl d (l++m) b=if b ∈ l.map (·.1) then Kl d l b else Kl d m b
 | [],m,b=>by simp
 | (i,x)::r,m,b=>by
  rw[List.cons_append,Kl,Kl,EV]
  cases hi:Nat.beq i b with
  | true=>have:=Nat.eq_of_beq_eq_true hi;subst this;simp
  | false =>
   have:=CW hi
   simp only[cond_false,List.map_cons,List.mem_cons]
   by_cases k:b ∈ r.map (·.1)
   ·rw[if_pos k,if_pos (.inr k)]
   ·rw[if_neg k,if_neg (by rintro(h | h);exact this h.symm;exact k h)]
theorem Ma:∀ {base:Nat} {l:List Nat},(A6 base l).map (·.1)=l
 | _,[]=>rfl
 | base,i::r=>by rw[A6,List.map_cons,Ma]
theorem Ai3 {d d':Nat}:∀ {l:List Nat} {base b:Nat},b ∈ l→Kl d' ((A6 base l).map fun p=>(p.2,p.1)) (Kl d (A6 base l) b)=b
 | [],base,b,k=>by simp at k
 | i::r,base,b,k=>by
  rw[A6,Kl,List.map_cons,Kl]
  cases hi:Nat.beq i b with
  | true=>have:=Nat.eq_of_beq_eq_true hi;subst this;simp
  | false =>
   have C:b ∈ r:=by
    rcases List.mem_cons.1 k with h | h
    ·exact absurd h.symm (CW hi)
    ·exact h
   simp only[cond_false]
   have D:=HE (d:=d) (base:=base+1) C
   rw[lS (show base≠Kl d (A6 (base+1) r) b by omega)]
   exact Ai3 C
theorem X1:∀ {base:Nat} {l:List Nat} {c:Nat},c ∈ (A6 base l).map (·.2)→base≤c∧c<base+l.length
 | _,[],c,k=>by simp[A6] at k
 | base,i::r,c,k=>by
  rw[A6,List.map_cons] at k
  rcases List.mem_cons.1 k with h | h
  ·simp at h;subst h;simp
  ·have:=X1 h;simp only[List.length_cons];omega
theorem HG:∀ {base:Nat} {l:List Nat},((A6 base l).map (·.2)).Nodup
 | _,[]=>by simp[A6]
 | base,i::r=>by
  rw[A6,List.map_cons,List.nodup_cons]
  exact⟨fun h=>by have:=X1 h;simp at this;omega,HG⟩
theorem fP:∀ {base:Nat} {l:List Nat} {b:Nat},b ∈ l→(b,Kl 0 (A6 base l) b) ∈ A6 base l
 | _,[],b,k=>by simp at k
 | base,i::r,b,k=>by
  rw[A6,Kl]
  cases hi:Nat.beq i b with
  | true=>have:=Nat.eq_of_beq_eq_true hi;subst this;simp
  | false =>
   have C:b ∈ r:=by
    rcases List.mem_cons.1 k with h | h
    ·exact absurd h.symm (CW hi)
    ·exact h
   simp only[cond_false]
   exact List.mem_cons_of_mem _ (fP C)
def A8k (x:Blk):Blk:={ x with dead:=true,pure:=true,cells:=[] }
theorem Pd:∀ {ups:Iw} {h:Ak} {b:Nat} {o:Option Blk},(ups.map (·.1)).Nodup→(b,o) ∈ ups→Au (At ups h) b=match o with | some x=>some x | none=>(Au h b).map A8k
 | [],h,b,o,_,F=>by simp at F
 | (i,y)::r,h,b,o,hn,F=>by
  rw[List.map_cons,List.nodup_cons] at hn
  rcases List.mem_cons.1 F with G | k
  ·simp at G
   obtain⟨rfl,rfl⟩:=G
   have C:Bl r b=false:=by
    have:∀ {r:Iw},b ∉ r.map (·.1)→Bl r b=false:=by
     intro r
     induction r with
     | nil=>intro _;rfl
     | cons p r I =>
      intro h
      simp only[List.map_cons,List.mem_cons,not_or] at h
      rw[Bl,lS (fun e=>h.1 e.symm)]
      exact I h.2
    exact this hn.1
   cases o with
   | some x=>rw[At,Du _ _ _ C,Aj,if_pos rfl]
   | none =>
    rw[At,Du _ _ _ C]
    cases L:Au h b with
    | none=>simp[L]
    | some x=>simp only[Option.map_some];rw[Aj,if_pos rfl];rfl
  ·have D:b≠i:=fun e=>by subst e;exact hn.1 (List.mem_map.2 ⟨_,k,rfl⟩)
   cases y with
   | some x =>
    rw[At,Pd hn.2 k]
    cases o with
    | some _=>rfl
    | none=>simp only;rw[Aj,if_neg D]
   | none =>
    rw[At,Pd hn.2 k]
    cases o with
    | some _=>rfl
    | none =>
     simp only
     split
     ·rw[Aj,if_neg D]
     ·rfl
theorem xT:∀ {ups:Iw} {b:Nat},Bl ups b=true↔b ∈ ups.map (·.1)
 | [],b=>by simp[Bl]
 | (i,y)::r,b=>by
  rw[Bl,List.map_cons,List.mem_cons,←xT]
  cases hi:Nat.beq i b with
  | true=>have:=Nat.eq_of_beq_eq_true hi;subst this;simp
  | false=>have:=CW hi;simp;intro e;exact absurd e.symm this
theorem Ai4 {β:De} {h:Ak} {ρ:Nat→Nat} {ids:List Nat} (hn:(ids.map ρ).Nodup) {k:Nat} (F:A3e (aW ρ ids β) (sub (Au h) ρ ids) k) :
  ∃ b x o,b ∈ ids∧Au h b=some x∧x.dead=false∧x.sealed=false∧β b=some (k,o):=by
 obtain⟨c,y,o,G,I,hs,C⟩:=F
 obtain⟨b,x,D,rfl,L,rfl⟩:=Qs hn c y G
 rw[Ia hn D] at C
 exact⟨b,x,o,D,L,I,hs,C⟩
theorem SimH.unJ {J:Bool→Nat→Prop} {β:De} {h:Ak} {w:World} (S:SimH J β h w) {b:Nat} {x:Blk} {k o:Nat} (F:Au h b=some x) (G:x.dead=false) (hs:x.sealed=false) (D:β b=some (k,o)):∀ g,¬ J g k:=by
 cases I:x.mp with
 | false =>
  rcases S.blk b x F G I with⟨C,_⟩ | ⟨M,o2,cs,ty,fr,C,L,U,V,Y,T,h8⟩
  ·rw[D] at C;cases C
  ·rw[D] at C;simp at C;obtain⟨rfl,rfl⟩:=C
   exact T hs
 | true =>
  obtain⟨_,_,M,es,clk,C,_,_,L⟩:=S.mblk b x F G I
  rw[D] at C;simp at C;obtain⟨rfl,_⟩:=C
  exact L
theorem SimH.seJ {J:Bool→Nat→Prop} {β:De} {h:Ak} {w:World} (S:SimH J β h w) {b:Nat} {x:Blk} {k o:Nat} (D:Au h b=some x) (F:x.dead=false) (hs:x.sealed=true) (G:β b=some (k,o)):J x.taint k:=by
 cases I:x.mp with
 | false =>
  rcases S.blk b x D F I with⟨C,_⟩ | ⟨M,o2,cs,ty,fr,C,T,U,V,Y,h7,L⟩
  ·rw[G] at C;cases C
  ·rw[G] at C;simp at C;obtain⟨rfl,rfl⟩:=C
   exact L hs
 | true =>
  have:=(S.mblk b x D F I).2.1
  rw[hs] at this;cases this
theorem Step.merge {J J0 J1:Bool→Nat→Prop} {β β1:De} {h h1 H:Ak} {w w':World} {D ids:List Nat} (S:SimH J β h w) (S1:SimH J0 β1 h1 w')
  (hH:∀ b,b ∉ D→Au H b=Au h b)
  (hD:∀ b x,b ∈ D→Au H b=some x→x.dead=false→Au h1 b=some x)
  (hD1:∀ b x,Au h1 b=some x→b ∈ D∧Au H b=some x)
  (hnew:∀ b x,b ∈ D→b ∉ ids→Au h b≠some x)
  (hold:∀ b x,b ∈ ids→Au h b=some x→∃ x',(Au H b=some x'∧x'.mp=x.mp)∧(x'.dead=true∨(x.dead=false∧β1 b=β b∧x'.sz=x.sz∧(x.mp=false→x'.cells.length=x.cells.length))))
  (hids:∀ b ∈ ids,b ∈ D)
  (os:w'.os=w.os) (tape:w'.tape=w.tape) (output:w'.output=w.output) (size:w.heap.size≤w'.heap.size)
  (frame:∀ k,k<w.heap.size→(¬ ∃ b x o,b ∈ ids∧Au h b=some x∧x.dead=false∧x.sealed=false∧β b=some (k,o))→w'.heap[k]?=w.heap[k]?)
  (wr:∀ k,A3e β1 h1 k→k<w.heap.size→∃ b x o,b ∈ ids∧Au h b=some x∧x.dead=false∧x.sealed=false∧β b=some (k,o))
  (jup:∀ o k,J0 o k→J o k∨(∃ b x o,b ∈ ids∧Au h b=some x∧x.dead=false∧x.sealed=false∧β b=some (k,o))∨w.heap.size≤k)
  (sizes:∀ k,Bz w k≤Bz w' k) :
  Step J β h w (fun o k=>J o k∨J0 o k) (fun b=>if b ∈ D then β1 b else β b) H w'∧Ext J0 β1 h1 w' (fun o k=>J o k∨J0 o k) (fun b=>if b ∈ D then β1 b else β b) H w':=by
 have E0:Ext J0 β1 h1 w' (fun o k=>J o k∨J0 o k) (fun b=>if b ∈ D then β1 b else β b) H w':=by
  refine⟨fun _ _ C=>.inr C,fun _ _ _=>rfl,fun b x F=>?_,fun _ _ _ _=>Nat.le_refl _⟩
  obtain⟨Y,h3⟩:=hD1 b x F
  refine⟨x,⟨h3,rfl⟩,?_⟩
  cases I:x.dead
  ·exact .inr ⟨rfl,by simp[Y],rfl,fun _=>rfl⟩
  ·exact .inl rfl
 have keepJ:∀ o k,J o k→w'.heap[k]?=w.heap[k]?:=by
  intro o k C
  refine frame k (S.jlt o k C) ?_
  rintro⟨b,x,o',_,F,I,hs,U⟩
  exact S.unJ F I hs U o C
 have E:Ext J β h w (fun o k=>J o k∨J0 o k) (fun b=>if b ∈ D then β1 b else β b) H w':=by
  refine⟨fun _ _ C=>.inl C,keepJ,fun b x F=>?_,fun b k o _=>sizes k⟩
  by_cases hi:b ∈ ids
  ·obtain⟨x',Y,h3⟩:=hold b x hi F
   refine⟨x',Y,?_⟩
   simp only[hids b hi,if_true]
   exact h3
  ·have hnd:b ∉ D:=fun I=>hnew b x I hi F
   refine⟨x,⟨by rw[hH b hnd];exact F,rfl⟩,?_⟩
   cases I:x.dead
   ·exact .inr ⟨rfl,by simp[hnd],rfl,fun _=>rfl⟩
   ·exact .inl rfl
 have out:∀ {b x},b ∉ D→Au H b=some x→Au h b=some x:=fun F hx=>by rw[←hH _ F];exact hx
 refine⟨⟨E,⟨?_,?_,fun b x hx I hm=>?_,fun b x hx I hm=>by
   by_cases F:b ∈ D
   ·have Y:=hD b x F hx I
    have M:=S1.mblk b x Y I hm
    refine M.keep (by simp[F]) (fun _ _ _=>rfl) (fun g k o U C=>?_)
    rcases C with C | C
    ·exfalso
     by_cases hk:k<w.heap.size
     ·obtain⟨b',x',o',T,V,L,hs',G⟩:=wr k ⟨b,x,o,Y,I,M.2.1,U⟩ hk
      exact S.unJ V L hs' G g C
     ·exact hk (S.jlt g k C)
    ·exact C
   ·have Y:=out F hx
    have M:=S.mblk b x Y I hm
    have hnm:∀ k o,β b=some (k,o)→¬ ∃ b x o,b ∈ ids∧Au h b=some x∧x.dead=false∧x.sealed=false∧β b=some (k,o):=by
     rintro k o h3 ⟨b',x',o',T,V,L,hs',G⟩
     have:=S.sep b b' x x' k o o' Y V I L M.2.1 h3 G
     subst this
     exact F (hids b T)
    refine M.keep (by simp[F]) (fun k o U=>frame k (CE S Y I U) (hnm k o U)) (fun g k o U C=>?_)
    rcases C with C | C
    ·exact C
    ·rcases jup g k C with C | C | C
     ·exact C
     ·exact absurd C (hnm k o U)
     ·have:=CE S Y I U;omega,?_⟩,os,tape,output,size,?_,?_,?_⟩,E0⟩
 ·rintro o k (C | C)
  ·exact Nat.lt_of_lt_of_le (S.jlt o k C) size
  ·exact S1.jlt o k C
 ·rintro k (C | C)
  ·exact .inl (S.jft k C)
  ·exact .inr (S1.jft k C)
 ·by_cases F:b ∈ D
  ·have Y:=hD b x F hx I
   rcases S1.blk b x Y I hm with⟨h3,h4⟩ | ⟨k,o,cs,ty,fr,h3,h4,h5,h6,h7,h8,h9⟩
   ·exact .inl ⟨by simp[F,h3],h4⟩
   ·refine .inr ⟨k,o,cs,ty,fr,by simp[F,h3],h4,h5,h6,h7.ext E0,fun hs g C=>?_,fun hs=>.inr (h9 hs)⟩
    rcases C with C | C
    ·by_cases hk:k<w.heap.size
     ·obtain⟨b',x',o',T,V,L,hs',G⟩:=wr k ⟨b,x,o,Y,I,hs,h3⟩ hk
      exact S.unJ V L hs' G g C
     ·exact hk (S.jlt g k C)
    ·exact h8 hs g C
  ·have Y:=out F hx
   rcases S.blk b x Y I hm with⟨h3,h4⟩ | ⟨k,o,cs,ty,fr,h3,h4,h5,h6,h7,h8,h9⟩
   ·exact .inl ⟨by simp[F,h3],h4⟩
   ·have hk:=kT h4
    have hnm:x.sealed=false→¬ ∃ b x o,b ∈ ids∧Au h b=some x∧x.dead=false∧x.sealed=false∧β b=some (k,o):=by
     rintro hs ⟨b',x',o',T,V,L,hs',G⟩
     have:=S.sep b b' x x' k o o' Y V I L hs h3 G
     subst this
     exact F (hids b T)
    have same:w'.heap[k]?=w.heap[k]?:=by
     cases hs:x.sealed with
     | false=>exact frame k hk (hnm hs)
     | true=>exact keepJ _ k (h9 hs)
    refine .inr ⟨k,o,cs,ty,fr,by simp[F,h3],by rw[same];exact h4,h5,h6,h7.ext E,fun hs g C=>?_,fun hs=>.inl (h9 hs)⟩
    rcases C with C | C
    ·exact h8 hs g C
    ·rcases jup g k C with C | C | C
     ·exact h8 hs g C
     ·exact hnm hs C
     ·omega
 ·intro b b' x x' k o o' hx V I L hs U G
  by_cases F:b ∈ D<;>by_cases T:b' ∈ D
  ·simp[F] at U;simp[T] at G
   exact S1.sep b b' x x' k o o' (hD b x F hx I) (hD b' x' T V L) I L hs U G
  ·exfalso
   simp[F] at U;simp[T] at G
   have Y:=out T V
   have hk:=CE S Y L G
   obtain⟨b2,x2,o2,hb2,hx2,hd2,hs2,hβ2⟩:=wr k ⟨b,x,o,hD b x F hx I,I,hs,U⟩ hk
   have:=S.sep b2 b' x2 x' k o2 o' hx2 Y hd2 L hs2 hβ2 G
   subst this
   exact T (hids _ hb2)
  ·exfalso
   simp[F] at U;simp[T] at G
   have Y:=out F hx
   have h3:=hD b' x' T V L
   have hk:=CE S Y I U
   have hnm:¬ ∃ b x o,b ∈ ids∧Au h b=some x∧x.dead=false∧x.sealed=false∧β b=some (k,o):=by
    rintro⟨b2,x2,o2,hb2,hx2,hd2,hs2,hβ2⟩
    have:=S.sep b b2 x x2 k o o2 Y hx2 I hd2 hs U hβ2
    subst this
    exact F (hids _ hb2)
   cases hs':x'.sealed with
   | false=>exact hnm (wr k ⟨b',x',o',h3,L,hs',G⟩ hk)
   | true =>
    rcases jup _ k (S1.seJ h3 L hs' G) with C | C | C
    ·exact S.unJ Y I hs U _ C
    ·exact hnm C
    ·omega
  ·simp[F] at U;simp[T] at G
   exact S.sep b b' x x' k o o' (out F hx) (out T V) I L hs U G
 ·intro k hk hm
  exact frame k hk (fun ⟨b,x,o,_,hx,I,hs,U⟩=>hm ⟨b,x,o,hx,I,hs,U⟩)
 ·rintro k ⟨b,x,o,hx,I,hs,U⟩ hk
  by_cases F:b ∈ D
  ·simp[F] at U
   obtain⟨b2,x2,o2,_,hx2,hd2,hs2,hβ2⟩:=wr k ⟨b,x,o,hD b x F hx I,I,hs,U⟩ hk
   exact⟨b2,x2,o2,hx2,hd2,hs2,hβ2⟩
  ·simp[F] at U
   exact⟨b,x,o,out F hx,I,hs,U⟩
 ·rintro o k (C | C)
  ·exact .inl C
  ·rcases jup o k C with C | ⟨b,x,o2,_,hx,I,hs,U⟩ | C
   ·exact .inl C
   ·exact .inr (.inl ⟨b,x,o2,hx,I,hs,U⟩)
   ·exact .inr (.inr C)
end Gx

namespace Gx
open Go
theorem A8l {l:List Nat}:Ayt l=true↔l=[]:=by cases l<;>simp[Ayt]
theorem WT {α β:Type} {f:α→β}:∀ {l:List α},(l.map f).Nodup→l.Nodup
 | [],_=>List.nodup_nil
 | a::r,h=>by
  rw[List.map_cons,List.nodup_cons] at h
  exact List.nodup_cons.2 ⟨fun k=>h.1 (List.mem_map.2 ⟨a,k,rfl⟩),WT h.2⟩
theorem WU {α:Type} {p:α→Bool}:∀ {l:List α},l.Nodup→(l.filter p).Nodup
 | [],_=>List.nodup_nil
 | a::r,h=>by
  rw[List.nodup_cons] at h
  rw[List.filter_cons]
  split
  ·exact List.nodup_cons.2 ⟨fun k=>h.1 (List.mem_filter.1 k).1,WU h.2⟩
  ·exact WU h.2
theorem sI {base:Nat} {l:List Nat} {p:Nat×Nat} (k:p ∈ A6 base l):p.1 ∈ l:=by
 have:p.1 ∈ (A6 base l).map (·.1):=List.mem_map.2 ⟨p,k,rfl⟩
 rw[Ma] at this;exact this
theorem Bcb {σ:Nat→Nat}:∀ {l:List Nat} {a b:Nat},(l.map σ).Nodup→a ∈ l→b ∈ l→σ a=σ b→a=b
 | [],a,b,_,D,_,_=>by simp at D
 | i::r,a,b,hn,D,G,F=>by
  rw[List.map_cons,List.nodup_cons] at hn
  rcases List.mem_cons.1 D with k | k<;>rcases List.mem_cons.1 G with C | C
  ·rw[k,C]
  ·subst k;exact absurd (List.mem_map.2 ⟨b,C,F.symm⟩) hn.1
  ·subst C;exact absurd (List.mem_map.2 ⟨a,k,F⟩) hn.1
  ·exact Bcb hn.2 k C F
theorem Bg5 {E:Env} (hT:Aiz E.P E.tbl):pq E:=by
 intro R r k J β h w g d f args vs S hl hh hv
 unfold Au3 at hh
 obtain⟨⟨args',im,fz⟩,hp,h1⟩:=ub hh
 simp only at h1
 obtain⟨I,h2⟩:=uc h1
 simp only[Bool.and_eq_true] at I
 obtain⟨hal,him,hin,hdj,L,_⟩:=I
 generalize hids:GY g im=ids at *
 generalize hρ:Kl 0 (A6 100000 ids)=ρ at *
 have hal:=fO hal
 have him:=Sc him
 have hdj:=Bca hdj
 have L:=Xz L
 have hg:∀ b ∈ ids,g b=Au h b:=fun b C=>by obtain⟨x,G,_⟩:=hal b C;rw[G,hl b x G]
 rw[LX (g:=Au h) hg] at hin
 have hin:=Sc hin
 rw[Avf (g':=Au h) hg] at h2
 obtain⟨hA,hB⟩:=HF (fz:=fz) S hl hp (fun _ h=>h) hv
 have aliveH:∀ b ∈ ids,∃ x,Au h b=some x∧x.dead=false:=fun b C=>by obtain⟨x,G,hd⟩:=hal b C;exact⟨x,hl b x G,hd⟩
 have SJ:SimH (JS J β h fz) (aW ρ ids β) (sub (Au h) ρ ids) w:=by
  refine(S.ren L hin).grow (fun o k T=>.inl T) ?_ ?_ ?_
  ·rintro o k (T | ⟨_,b,x,o',_,G,hd,_,hβ⟩)
   ·exact S.jlt o k T
   ·exact CE S G hd hβ
  ·rintro k (T | ⟨h0,_⟩)
   ·exact .inl (S.jft k T)
   ·cases h0
  ·intro c y k o hy hd hs hβ q T
   obtain⟨b,x,C,rfl,G,rfl⟩:=Qs L c y hy
   rw[Ia L C] at hβ
   rcases T with T | ⟨_,b',x',o',hb',hx',hd',hs',hβ'⟩
   ·exact S.unJ G hd hs hβ _ T
   ·have:=S.sep b b' x x' k o o' G hx' hd hd' hs hβ hβ'
    subst this
    exact hdj b hb' C
 have RJ:Reps (JS J β h fz) (aW ρ ids β) (sub (Au h) ρ ids) w (CV ρ args') vs:=Reps.ren L (fun b C=>him b (hB b C)) hA
 obtain⟨rv,rh,hF,h3⟩:=A33 hT h2
 have hcall:=hF _ _ w vs SJ RJ
 obtain⟨Y,h4⟩:=Bb2 h3
 obtain⟨hc2,h5⟩:=uc h4
 simp only[Bool.and_eq_true] at hc2
 obtain⟨hnal,hn16,hrv,V,hrin,U⟩:=hc2
 generalize hall:GY (Au rh) (H7 rv++(A6 100000 ids).map (·.2))=all at *
 generalize hnew:all.filter (fun b=>!Ky ((A6 100000 ids).map (·.2)) b)=new at *
 generalize hσ:Kl 0 ((A6 100000 ids).map (fun p=>(p.2,p.1))++A6 (nid d) new)=σ at *
 have hnal:=fO hnal
 have hrv:=Sc hrv
 have V:=Sc V
 have hrin:=Sc hrin
 have U:=Xz U
 have hn16:new.length≤16:=by simpa using hn16
 refine⟨_,_,h5,fun hfree=>Calls.mono hcall ?_⟩
 rintro e w' ⟨vc,J',β',rfl,F,hR⟩
 refine⟨vc,rfl,?_⟩
 have back:∀ b ∈ ids,σ (ρ b)=b:=by
  intro b C
  rw[←hσ,EV,if_pos,←hρ]
  ·exact Ai3 C
  ·rw[List.map_map]
   have:=RV (d:=0) (l:=A6 100000 ids) (b:=b) (by rw[Ma];exact C)
   rw[hρ] at this
   exact this
 have ρall:∀ b ∈ ids,ρ b ∈ all:=by
  intro b C
  refine V _ ?_
  have:=RV (d:=0) (l:=A6 100000 ids) (b:=b) (by rw[Ma];exact C)
  rw[hρ] at this
  exact this
 have σout:∀ c ∈ all,c ∈ (A6 100000 ids).map (·.2)→σ c ∈ ids:=by
  intro c _ I
  rw[←hσ,EV,if_pos (by rw[List.map_map];exact I)]
  have:=RV (d:=0) (l:=(A6 100000 ids).map (fun p=>(p.2,p.1))) (b:=c) (by rw[List.map_map];exact I)
  rw[List.map_map] at this
  have e:(A6 100000 ids).map ((fun x=>x.2)∘fun p=>(p.2,p.1))=ids:=Ma
  rw[e] at this
  exact this
 have newmem:∀ c ∈ new,c ∈ all∧c ∉ (A6 100000 ids).map (·.2):=by
  intro c I
  rw[←hnew] at I
  obtain⟨h6,h7⟩:=List.mem_filter.1 I
  refine⟨h6,fun hm=>?_⟩
  rw[No.2 hm] at h7;simp at h7
 have σnew:∀ c ∈ new,σ c=Kl 0 (A6 (nid d) new) c:=by
  intro c I
  rw[←hσ,EV,if_neg]
  rw[List.map_map];exact(newmem c I).2
 have allcases:∀ c ∈ all,c ∈ (A6 100000 ids).map (·.2)∨c ∈ new:=by
  intro c I
  by_cases hm:c ∈ (A6 100000 ids).map (·.2)
  ·exact .inl hm
  ·refine .inr ?_
   rw[←hnew]
   refine List.mem_filter.2 ⟨I,?_⟩
   cases hq:Ky ((A6 100000 ids).map (·.2)) c with
   | false=>rfl
   | true=>exact absurd (No.1 hq) hm
 generalize hups:((A6 100000 ids).map fun p=>(p.1,(Au rh p.2).map (PX σ)))++(A6 (nid d) new).map (fun p=>(p.2,(Au rh p.1).map (PX σ)))=ups at *
 have keys:ups.map (·.1)=ids++(A6 (nid d) new).map (·.2):=by
  rw[←hups,List.map_append,List.map_map,List.map_map]
  congr 1
  exact Ma
 have newFree:∀ c ∈ (A6 (nid d) new).map (·.2),Au h c=none:=by
  intro c I
  refine hfree c (xT.2 (by rw[keys];exact List.mem_append.2 (.inr I))) ?_
  have:=X1 I
  unfold aP
  simp;omega
 have keysN:(ups.map (·.1)).Nodup:=by
  rw[keys,List.nodup_append]
  refine⟨WT L,HG,fun a ha b C e=>?_⟩
  subst e
  obtain⟨x,G,_⟩:=aliveH a ha
  rw[newFree a C] at G;cases G
 have upsOld:∀ b ∈ ids,(b,(Au rh (ρ b)).map (PX σ)) ∈ ups:=by
  intro b C
  rw[←hups]
  refine List.mem_append.2 (.inl (List.mem_map.2 ⟨(b,ρ b),?_,rfl⟩))
  rw[←hρ];exact fP C
 have upsNew:∀ c ∈ new,(σ c,(Au rh c).map (PX σ)) ∈ ups:=by
  intro c I
  rw[←hups]
  refine List.mem_append.2 (.inr (List.mem_map.2 ⟨(c,σ c),?_,rfl⟩))
  rw[σnew c I];exact fP I
 have J0:∃ J0:Bool→Nat→Prop,SimH J0 β' rh w'∧Rep J0 β' rh w' rv vc∧∀ o k,J0 o k→J o k∨A3e (aW ρ ids β) (sub (Au h) ρ ids) k∨w.heap.size≤k:=by
  cases he:Ayt fz with
  | true =>
   have:=A8l.1 he
   subst this
   refine⟨J',F.sim,hR,fun o k T=>?_⟩
   rcases F.jup o k T with(T | ⟨_,b,x,o',C,_⟩) | T
   ·exact .inl T
   ·simp at C
   ·exact .inr T
  | false =>
   rw[he] at Y
   simp at Y
   refine⟨fun _=>J' false,F.sim.noOrg Y.2,Rep.noOrg Y.1 hR,fun o k T=>?_⟩
   rcases F.jup false k T with(h6 | ⟨h0,_⟩) | h6
   ·left
    cases o
    ·exact h6
    ·exact S.jft k h6
   ·cases h0
   ·exact .inr h6
 obtain⟨J0,S0,R0,jup0⟩:=J0
 have S1:=S0.ren U hrin
 have R1:=Rep.ren U hrv R0
 have M:=Step.merge (J:=J) (J0:=J0) (J1:=J0) (H:=At ups h) (D:=ids++(A6 (nid d) new).map (·.2)) (ids:=ids) S S1
  (fun b C=>Du _ _ _ (by
   cases hi:Bl ups b with
   | false=>rfl
   | true=>exact absurd (by rw[←keys];exact xT.1 hi) C))
  (fun b x C G hd=>by
   rcases List.mem_append.1 C with C | C
   ·rw[Pd keysN (upsOld b C)] at G
    cases hq:Au rh (ρ b) with
    | none =>
     rw[hq] at G;simp at G
     obtain⟨y,_,rfl⟩:=G
     simp[A8k] at hd
    | some y =>
     rw[hq] at G;simp at G;subst G
     have:=LY (g:=Au rh) U (ρ b) y (ρall b C) hq
     rw[back b C] at this
     exact this
   ·obtain⟨c,I,rfl⟩:∃ c ∈ new,σ c=b:=by
     obtain⟨p,hp,rfl⟩:=List.mem_map.1 C
     have hp1:p.1 ∈ new:=sI hp
     refine⟨p.1,hp1,?_⟩
     rw[σnew _ hp1]
     have:∀ {base:Nat} {l:List Nat} {p:Nat×Nat},l.Nodup→p ∈ A6 base l→Kl 0 (A6 base l) p.1=p.2:=by
      intro base l
      induction l generalizing base with
      | nil=>intro p _ hp;simp[A6] at hp
      | cons i r ih =>
       intro p hn hp
       rw[List.nodup_cons] at hn
       rw[A6] at hp ⊢
       rw[Kl]
       rcases List.mem_cons.1 hp with rfl | hp
       ·simp
       ·have:p.1 ∈ r:=sI hp
        rw[lS (fun e=>hn.1 (by rw[e];exact this))]
        exact ih hn.2 hp
     refine this ?_ hp
     rw[←hnew]
     exact WU (WT U)
    rw[Pd keysN (upsNew c I)] at G
    obtain⟨y,hy,_⟩:=hnal c I
    rw[hy] at G;simp at G;subst G
    exact LY (g:=Au rh) U c y (newmem c I).1 hy)
  (fun b x C=>by
   obtain⟨c,y,I,rfl,hy,rfl⟩:=Qs U b x C
   rcases allcases c I with hm | hm
   ·have h6:=σout c I hm
    have h7:ρ (σ c)=c:=by
     have:(all.map σ).Nodup:=U
     have e1:=back (σ c) h6
     have e2:=ρall (σ c) h6
     exact Bcb this e2 I e1
    refine⟨List.mem_append.2 (.inl h6),?_⟩
    rw[Pd keysN (upsOld (σ c) h6),h7,hy];rfl
   ·refine⟨List.mem_append.2 (.inr ?_),?_⟩
    ·rw[σnew c hm]
     exact RV (by rw[Ma];exact hm)
    ·rw[Pd keysN (upsNew c hm),hy];rfl)
  (fun b x C hni G=>by
   rcases List.mem_append.1 C with C | C
   ·exact hni C
   ·rw[newFree b C] at G;cases G)
  (fun b x C G=>by
   rw[Pd keysN (upsOld b C)]
   cases hq:Au rh (ρ b) with
   | none=>exact⟨A8k x,⟨by simp[G],rfl⟩,.inl rfl⟩
   | some y =>
    cases hd:y.dead with
    | true=>have:=F.live _ _ hq;rw[hd] at this;cases this
    | false =>
     have e0:=LY (g:=Au h) L b x C G
     obtain⟨⟨e1,em⟩,e2,e3,e4⟩:=F.outs (ρ b) _ y e0 hq hd
     refine⟨PX σ y,⟨by simp,em⟩,.inr ?_⟩
     refine⟨e4,?_,e2,fun hmx=>?_⟩
     ·have:=Ia (β:=β') U (ρall b C)
      rw[back b C] at this
      rw[this,e1]
      exact Ia L C
     ·rw[Pc,e3 hmx,Pc])
  (fun b C=>List.mem_append.2 (.inl C))
  F.os F.tape F.output F.size
  (fun k hk hm=>F.frame k hk (fun hm'=>hm (Ai4 L hm')))
  (fun k hm hk=>Ai4 L (F.wr k (Azc U hm) hk))
  (fun o k T=>by
   rcases jup0 o k T with T | T | T
   ·exact .inl T
   ·exact .inr (.inl (Ai4 L T))
   ·exact .inr (.inr T))
  F.sizes
 exact⟨_,_,M.1,Rep.ext M.2 R1⟩
theorem A37 {P:Program} {muts:Nat→List Bool} {T:List (Nat×Tw)} {hs:Hints} {N f:Nat} {k:LA} {h:Ak} {G:AV} {h':Ak} (hT:Aiz P T) (hm:P.follows .mixedOrders=true)
  (M:aQ P muts T hs N f k h (fun v h'=>some (v,h'))=some (G,h')):Bnt P f k h G h':=by
 unfold aQ at M
 split at M
 ·simp at M
 ·rename_i fn hfn
  split at M
  ·simp at M
  ·rename_i c hc
   simp only at M
   obtain⟨U,h1⟩:=uc M
   simp only[Bool.and_eq_true] at U
   obtain⟨L,D⟩:=U
   have L:k.length≤fn.ntmps:=by simpa using L
   intro J β w vs S hv
   have hvl:vs.length=k.length:=((Df).1 hv).1
   refine calls_of_wp hfn hc ?_
   have roots:∀ {h:Ak} {b:Nat} {x:Blk},Ahm h=true→Au h b=some x→Ah7 b=true:=by
    intro h
    induction h with
    | nil=>intro b x _ C;simp[Au] at C
    | cons p r ih =>
     intro b x hr C
     obtain⟨i,y⟩:=p
     rw[Ahm] at hr
     simp at hr
     rw[Au] at C
     cases hi:Nat.beq i b with
     | true=>have:=Nat.eq_of_beq_eq_true hi;subst this;exact hr.1
     | false=>rw[hi] at C;exact ih hr.2 (by simpa using C)
   have sgetI:∀ {k:LA} {j i:Nat},G7 (Au5 j k) i=if j≤i then (k[i - j]?).getD .undef else .undef:=by
    intro k
    induction k with
    | nil=>intro j i;simp[Au5,G7]
    | cons v r ih =>
     intro j i
     rw[Au5,G7]
     cases hi:Nat.beq j i with
     | true=>have:=Nat.eq_of_beq_eq_true hi;subst this;simp
     | false =>
      have:=CW hi
      simp only[cond_false]
      rw[ih]
      by_cases V:j+1≤i
      ·rw[if_pos V,if_pos (by omega),show i - j=(i - (j+1))+1 by omega];simp
      ·rw[if_neg V]
       by_cases F:j≤i
       ·omega
       ·rw[if_neg F]
   have I:Inv ⟨J,β,h,w⟩ fn.ntmps J β { s:=Au5 0 k,h:=h } { tmps:=vs.toArray++Array.replicate (fn.ntmps - vs.toArray.size) undef,defers:=[] } w:=by
    refine⟨S,⟨fun i v hi=>?_,fun i hi=>?_⟩,?_,rfl,rfl,rfl,rfl,Nat.le_refl _,fun _ _ _=>rfl,fun _ hm _=>hm,fun _ _ hj=>hj,fun _ _ hj=>.inl hj,fun _=>Nat.le_refl _,?_,?_,?_⟩
    ·rw[sgetI,if_pos (Nat.zero_le _)]
     by_cases Y:i<k.length
     ·have F:k[i - 0]?=some k[i]:=by simp[Y]
      rw[F]
      have h3:vs[i]?=some v:=by
       rw[Array.getElem?_append_left (by simp;omega)] at hi
       simpa using hi
      exact((Df).1 hv).2 i _ _ (by simp[Y]) h3
     ·have F:k[i - 0]?=none:=by simp;omega
      rw[F];simp[Rep]
    ·simp at hi
     rw[sgetI,if_pos (Nat.zero_le _)]
     have F:k[i - 0]?=none:=by simp;omega
     rw[F];rfl
    ·simp;omega
    ·intro b x0 C;exact(Aiy.1 (roots D C)).2
    ·intro b x0 C;exact(Aiy.1 (roots D C)).1
    ·intro b x0 x C hx hd
     change Au h b=some x0 at C
     change Au h b=some x at hx
     rw[C] at hx;simp at hx;subst hx
     exact⟨⟨rfl,rfl⟩,rfl,fun _=>rfl,hd⟩
   have fin:∀ st' a' w' J' β',Inv ⟨J,β,h,w⟩ fn.ntmps J' β' st' a' w'→ER { P:=P,nt:=fn.ntmps,muts:=muts,nils:=hs.nils,free:=hs.free,cob:=hs.cob,tbl:=T } fn hs.modes (h.map (·.1)) (fun v h'=>some (v,h')) st'=some (G,h') →
     a'.defers=[]∧∃ v,(results fn a'.tmps).run P w'=.ok v w'∧∃ vc J' β',Ending.returned v=.returned vc∧FDone ⟨J,β,h,w⟩ J' β' h' w'∧Rep J' β' h' w' G vc:=by
    intro st' a' w' J' β' I' F
    obtain⟨res2,h2',vc,J2,β2,h3,h4,h5,h6⟩:=Art I' F
    simp at h3
    obtain⟨rfl,rfl⟩:=h3
    exact⟨I'.defers,vc,h4,vc,J2,β2,rfl,h5,h6⟩
   exact A32 (E:={ P:=P,nt:=fn.ntmps,muts:=muts,nils:=hs.nils,free:=hs.free,cob:=hs.cob,tbl:=T }) (Bg5 hT) hm c I h1 fin (fun _ _ _ _ _ _ _ F=>by simp at F) fin
end Gx

namespace Gx
open Go
section
variable {R R':Type}
theorem A8m (E:Env) (ops:Array Oper) (o:Oper) (st:St) (k:St→Foot→O R) (g:R→Option R'):(A3b E ops o st k).bind g=A3b E ops o st fun st f=>(k st f).bind g:=by
 rw[kX,kX,Option.bind_assoc]
theorem Aze (ops:Array Oper) (o:Oper) (st:St) (k:St→O R) (g:R→Option R'):(xK ops o st k).bind g=xK ops o st fun st=>(k st).bind g:=by
 unfold xK
 split
 ·rfl
 ·split
  ·rfl
  ·split
   ·rw[A2]
   ·rfl
theorem Ai5 (E:Env) (ops:Array Oper) (g:R→Option R'):∀ (l:List Oper) (st:St) (tr:List Foot) (k:St→List Foot→O R),(Ah4 E ops l st tr k).bind g=Ah4 E ops l st tr fun st tr=>(k st tr).bind g
 | [],st,tr,k=>rfl
 | o::r,st,tr,k=>by
  rw[Ah4,Ah4,Aze]
  congr 1;funext st
  rw[A8m]
  congr 1;funext st f
  exact Ai5 E ops g r st (f::tr) k
theorem Arw (E:Env) (roots:List Nat) (ops:Array Oper) (draw:Bool) (st:St) (k:St→O R) (g:R→Option R'):(kP E roots ops draw st k).bind g=kP E roots ops draw st fun st=>(k st).bind g:=by
 unfold kP
 rw[Ai5]
 congr 1;funext st tr
 rw[A2,Option.bind_assoc];rfl
theorem A8n (E:Env) (roots:List Nat) (H:Hint) (f:St→O R) (g:R→Option R') (st:St):(Bdg E roots H f st).bind g=Bdg E roots H (fun st=>(f st).bind g) st:=by
 unfold Bdg
 rw[A2,Option.bind_assoc,LU,LU]
theorem zi (cn:St→Option St) (C:(St→O R)→St→O R) (D:(St→Option R')→St→Option R') (g:R→Option R') (F:∀ k st,(C k st).bind g=D (fun st=>(k st).bind g) st):∀ n st,(fB cn C n st).bind g=fB cn D n st
 | 0,st=>rfl
 | n+1,st=>by
  rw[fB,fB,F]
  congr 1;funext st
  rw[Option.bind_assoc]
  congr 1;funext st
  exact zi cn C D g F n st
theorem A38 (E:Env) (roots:List Nat) (N:Nat) (g:R→Option R'):∀ (c:Code) (H:Hint) (k:St→O R) (x:Nat→St→O R) (r:St→O R) (st:St),
  (G9 E roots N c H k x r st).bind g=G9 E roots N c H (fun st=>(k st).bind g) (fun j st=>(x j st).bind g) (fun st=>(r st).bind g) st:=by
 intro c
 induction c with
 | skip=>intro H k x r st;rfl
 | region id ops draw=>intro H k x r st;exact Arw ..
 | seq a b C D =>
  intro H k x r st
  rw[G9,G9,C]
  congr 1;funext st
  rw[A8n]
  congr 1;funext st
  exact D ..
 | cond c a b C D =>
  intro H k x r st
  rw[G9,G9]
  split
  ·rw[A2,C,D]
  ·rfl
 | block id c F =>
  intro H k x r st
  rw[G9,G9,F]
  simp only[A2]
 | loop c F =>
  intro H k x r st
  rw[G9,G9,Option.bind_assoc,LU,LU]
  congr 1;funext st
  exact zi _ _ _ g (fun k st=>F ..) N st
 | exit id=>intro H k x r st;rfl
 | ret=>intro H k x r st;rfl
 | rangeFunc=>intro H k x r st;rfl
 | scope=>intro H k x r st;rfl
 | label=>intro H k x r st;rfl
 | goto=>intro H k x r st;rfl
 | refuse=>intro H k x r st;rfl
theorem QE (E:Env) (st:St) (g:R→Option R'):∀ (l:List ResultVar) (C:LA) (k:LA→O R),(Qm E st l C k).bind g=Qm E st l C fun l=>(k l).bind g
 | [],C,k=>rfl
 | .tmp t::r,C,k=>by rw[Qm,Qm];exact QE E st g r _ k
 | .cell a t::r,C,k=>by
  rw[Qm,Qm,WR,WR (R:=R'),Option.bind_assoc]
  congr 1;funext v
  exact QE E st g r _ k
theorem Arx (E:Env) (fn:Func) (modes:List (Nat×Nat)) (outs:List Nat) (k:AV→Ak→O R) (g:R→Option R') (st:St):(ER E fn modes outs k st).bind g=ER E fn modes outs (fun v h=>(k v h).bind g) st:=by
 unfold ER
 rw[QE]
 congr 1;funext l
 rw[Option.bind_assoc]
 congr 1;funext q
 rw[A2];rfl
theorem A8o (P:Program) (muts:Nat→List Bool) (T:List (Nat×Tw)) (hs:Hints) (N f:Nat) (C:LA) (h:Ak) (k:AV→Ak→O R) :
  aQ P muts T hs N f C h k=(aQ P muts T hs N f C h fun v h=>some (v,h)).bind fun p=>k p.1 p.2:=by
 unfold aQ
 split
 ·rfl
 ·split
  ·rfl
  ·simp only
   rw[A2,A38]
   simp only[Arx]
   rfl
structure Cut (R:Type) where
 c:Code
 H:Hint
 k:St→O R
 x:Nat→St→O R
 r:St→O R
noncomputable def Blh (E:Env) (roots:List Nat) (N:Nat):List Nat→Code→Hint→(St→O R)→(Nat→St→O R)→(St→O R)→List (St→O R)→Cut R
 | [],c,H,k,x,r,_=>⟨c,H,k,x,r⟩
 | d::p,.seq a b,H,k,x,r,ks=>cond (Nat.beq d 0) (Blh E roots N p a H.a (Bdg E roots H fun st=>G9 E roots N b H.b k x r st) x r ks) (Blh E roots N p b H.b k x r ks)
 | d::p,.cond _ a b,H,k,x,r,ks=>cond (Nat.beq d 0) (Blh E roots N p a H.a k x r ks) (Blh E roots N p b H.b k x r ks)
 | _::p,.block id c,H,k,x,r,ks=>Blh E roots N p c H.a k (fun j st=>cond (Nat.beq j id) (k st) (x j st)) r ks
 | _::p,.loop c,H,_,x,r,q::ks=>Blh E roots N p c H.a (fun st=>(rt E H.live roots st).bind q) x r ks
 | _::_,c,H,k,x,r,_=>⟨c,H,k,x,r⟩
def A39:Code→Code
 | .loop c=>c
 | c=>c
structure CutB (R:Type) where
 E:Env
 roots:List Nat
 N:Nat
 c:Cut R
noncomputable def A9 (q:CutB R) (st:St):O R:=G9 q.E q.roots q.N q.c.c q.c.H q.c.k q.c.x q.c.r st
noncomputable def Bg6 (q:CutB R) (st:St):O R:=Bgy true (fun st=>G9 q.E q.roots q.N q.c.c q.c.H q.c.k q.c.x q.c.r st) st
theorem Aq (q:CutB R) (st:St):Bg6 q st=A9 q st:=by unfold Bg6;rw[LU];rfl
noncomputable def Ap (q:CutB R) (n:Nat) (st:St):O R:=fB (rt q.E q.c.H.live q.roots) (fun k st=>G9 q.E q.roots q.N (A39 q.c.c) q.c.H.a k q.c.x q.c.r st) n st
noncomputable def Bkq (q:CutB R) (st:St):O R:=Bgy true (fB (rt q.E q.c.H.live q.roots) (fun k st=>G9 q.E q.roots q.N (A39 q.c.c) q.c.H.a k q.c.x q.c.r st) q.N) st
theorem Ai (q:CutB R) (st:St):Bkq q st=Ap q q.N st:=by unfold Bkq;rw[LU];rfl
def Bli (fn:Func):Code:=match fn.body with | some c=>c | none=>.skip
def Bkr:List (Nat×List Bool)→Nat→List Bool
 | [],_=>[]
 | (i,l)::r,f=>cond (Nat.beq i f) l (Bkr r f)
end
end Gx

namespace Gx
open Go
abbrev KF (R:Type):=AV→Ak→Option R
abbrev Dg:=List (Nat×Tw)
abbrev hL:Hint:=.leaf
abbrev hS (a b:Hint):Hint:=.node [] a b
abbrev hP (l:List Nat) (a:Hint):Hint:=.node l a .leaf
abbrev hJ (l:List Nat) (a b:Hint):Hint:=.join l a b
def Bjb (P:Program) (muts:Nat→List Bool) (nt:Nat) (hs:Hints) (T:List (Nat×Tw)):Env:={ P,nt,muts,nils:=hs.nils,free:=hs.free,cob:=hs.cob,tbl:=T }
noncomputable def Bn8 {R:Type} (P:Program) (muts:Nat→List Bool) (fn:Func) (hs:Hints) (T:List (Nat×Tw)) (roots:List Nat) (N:Nat) (F:KF R) (p:List Nat) (ks:List (St→O R)):CutB R :=
 ⟨Bjb P muts fn.ntmps hs T,roots,N,Blh (Bjb P muts fn.ntmps hs T) roots N p (Bli fn) hs.H (ER (Bjb P muts fn.ntmps hs T) fn hs.modes roots F) (fun _ _=>none) (ER (Bjb P muts fn.ntmps hs T) fn hs.modes roots F) ks⟩
def iv (n:Int):AV:=.int .i64 n
def op (k:Nat):AV:=.optr (300000+k) 0
def Bn4:Nat→List Blk→Ak
 | _,[]=>[]
 | i,b::r=>(i,b)::Bn4 (i+1) r
def hq (l:List Blk):Ak:=Bn4 300000 l
def bQ (sz:Nat) (c:LA):Blk:=⟨false,false,true,false,sz,c,false⟩
def bP (t:Bool) (sz:Nat) (c:LA):Blk:=⟨false,false,true,t,sz,c,false⟩
def bT (sz:Nat) (c:LA):Blk:=⟨false,true,true,false,sz,c,false⟩
def Ao {R:Type} (kd:IntKind) (c:LA) (k:Int→O R):O R:=(c.head?).bind fun x=>(zS kd x).bind k
def RW {R:Type} (c:LA) (k:Bool→O R):O R:=(c.head?).bind fun x=>(asBool x).bind k
def A24 {R:Type} (c:LA) (k:List UInt8→O R):O R:=(c.head?).bind fun x=>(zT x).bind k
def B9 {R:Type} (sz:Nat) (c:LA) (k:LA→Nat→O R):O R:=(c.head?).bind fun x=>(Bdc sz x).bind fun p=>k p.1 p.2
def A8p (k:IntKind) (a b:Int):Int:=k.wrap ((BitVec.ofInt k.bits a &&& BitVec.ofInt k.bits b).toNat:Int)
def Uo (k:IntKind) (a b:Int):Int:=k.wrap ((BitVec.ofInt k.bits a ||| BitVec.ofInt k.bits b).toNat:Int)
def Blj (P:Program) (muts:Nat→List Bool) (N f:Nat) (run:(R:Type)→Nat→LA→Ak→KF R→O R):Prop:=∀ {R Q:Type} (args:LA) (h:Ak) (k:KF R) (j:KF Q),
 (∃ T hs,Aiz P T∧run R N args h k=aQ P muts T hs N f args h k∧run Q N args h j=aQ P muts T hs N f args h j)∨(run R N args h k=none∧run Q N args h j=none)
theorem Ax {P:Program} {muts:Nat→List Bool} {T:List (Nat×Tw)} {hs:Hints} {N f:Nat} {C:LA} {h:Ak} {R Q:Type} {k:KF R} {j:KF Q} {a:O R} {b:Option Q} {p:Prop}
  (D:aQ P muts T hs N f C h k=a) (F:aQ P muts T hs N f C h j=b) (hT:Aiz P T):(∃ T hs,Aiz P T∧a=aQ P muts T hs N f C h k∧b=aQ P muts T hs N f C h j)∨p:=.inl ⟨T,hs,hT,D.symm,F.symm⟩
theorem Az {R Q:Type} {p:Prop}:p∨((none:O R)=none∧(none:Option Q)=none):=.inr ⟨rfl,rfl⟩
def Ay {P:Program} {muts:Nat→List Bool} {N f:Nat} {run:(R:Type)→Nat→LA→Ak→KF R→O R} (H:Blj P muts N f run):Tw:=⟨fun {R} args h k=>run R N args h k,fun args h k=>by
 rcases H args h k (fun v h=>some (v,h)) with⟨T,hs,_,e1,e2⟩ | ⟨e1,e2⟩
 ·rw[e1,e2];exact A8o ..
 ·rw[e1,e2];rfl⟩
theorem Bnu {P:Program} {muts:Nat→List Bool} {N f:Nat} {run:(R:Type)→Nat→LA→Ak→KF R→O R} (H:Blj P muts N f run) (D:P.follows .mixedOrders=true):Bja P f (Ay H):=by
 intro k h F h' C
 change run _ N k h _=_ at C
 rcases H k h (fun v h=>some (v,h)) (fun v h=>some (v,h)) with⟨T,hs,hT,e1,_⟩ | ⟨e1,_⟩
 ·rw[e1] at C;exact A37 hT D C
 ·rw[e1] at C;cases C
theorem Bm {α δ:Type} (f:α→δ) {a k:α} (C:a=k):f a=f k:=by rw[C]
theorem fQ {α β δ:Type} (f:α→β→δ) {a k:α} {b C:β} (D:a=k) (F:b=C):f a b=f k C:=by rw[D,F]
theorem Bmu {α β γ δ:Type} (f:α→β→γ→δ) {a k:α} {b C:β} {c c':γ} (D:a=k) (F:b=C) (G:c=c'):f a b c=f k C c':=by rw[D,F,G]
theorem Bn9 {α β γ ε ζ η δ:Type} (f:α→β→γ→ε→ζ→η→δ) {a k:α} {b C:β} {c c':γ} {d d':ε} {e e':ζ} {g g':η} (D:a=k) (F:b=C) (G:c=c') (I:d=d') (L:e=e') (M:g=g'):f a b c d e g=f k C c' d' e' g':=by rw[D,F,G,I,L,M]
end Gx

namespace Gx
open Go
theorem wrap_u8 (a:Nat):IntKind.wrap .u8 (a:Int)=((a%256:Nat):Int):=by rw[IntKind.wrap_u8];omega
theorem wrap_u32 (a:Nat) (h:a<4294967296):IntKind.wrap .u32 (a:Int)=(a:Int):=IntWalk.u32_in _ (by omega)
theorem Bdq (a:Nat):IntKind.wrap .u32 (a:Int)=((a%4294967296:Nat):Int):=by rw[IntKind.wrap_u32];omega
theorem AF (a:Int) (h:-9223372036854775808≤a∧a≤9223372036854775807):IntKind.wrap .i64 a=a:=IntWalk.i64_in _ h
theorem wrap_u64 (a:Nat) (h:a<18446744073709551616):IntKind.wrap .u64 (a:Int)=(a:Int):=IntWalk.u64_in _ (by omega)
theorem kZ (w a:Nat):BitVec.ofInt w (a:Int)=BitVec.ofNat w a:=by simp
theorem A8q {k:IntKind} (hs:k.signed=false) {a b:Nat} (D:a<2 ^ k.bits) (C:b<2 ^ k.bits):A8p k a b=((a &&& b:Nat):Int):=by
 unfold A8p
 rw[kZ,kZ]
 have F:(BitVec.ofNat k.bits a &&& BitVec.ofNat k.bits b).toNat=a &&& b:=by
  rw[BitVec.toNat_and,BitVec.toNat_ofNat,BitVec.toNat_ofNat,Nat.mod_eq_of_lt D,Nat.mod_eq_of_lt C]
 rw[F]
 have G:a &&& b<2 ^ k.bits:=Nat.and_lt_two_pow _ C
 unfold IntKind.wrap
 simp only[hs,Bool.false_and,Bool.false_eq_true,if_false]
 have:(2 ^ k.bits:Int)=((2 ^ k.bits:Nat):Int):=by simp
 rw[this,←Int.natCast_emod,Nat.mod_eq_of_lt G]
theorem Avg {k:IntKind} (hs:k.signed=false) {a b:Nat} (C:a<2 ^ k.bits) (D:b<2 ^ k.bits):Uo k a b=((a ||| b:Nat):Int):=by
 unfold Uo
 rw[kZ,kZ]
 have F:(BitVec.ofNat k.bits a ||| BitVec.ofNat k.bits b).toNat=a ||| b:=by
  rw[BitVec.toNat_or,BitVec.toNat_ofNat,BitVec.toNat_ofNat,Nat.mod_eq_of_lt C,Nat.mod_eq_of_lt D]
 rw[F]
 have G:a ||| b<2 ^ k.bits:=Nat.or_lt_two_pow C D
 unfold IntKind.wrap
 simp only[hs,Bool.false_and,Bool.false_eq_true,if_false]
 have:(2 ^ k.bits:Int)=((2 ^ k.bits:Nat):Int):=by simp
 rw[this,←Int.natCast_emod,Nat.mod_eq_of_lt G]
theorem Vp (a k:Nat):Int.fdiv (a:Int) (2 ^ k)=((a/2 ^ k:Nat):Int):=by
 have:(2 ^ k:Int)=((2 ^ k:Nat):Int):=by simp
 rw[this,Int.fdiv_eq_ediv_of_nonneg (a:Int) (Int.natCast_nonneg (2 ^ k))]
 rfl
theorem A1 {R:Type} {k:IntKind} {n:Int} {r:LA} {f:Int→O R}:Ao k (.int k n::r) f=f n:=by simp[Ao,zS,Vm]
theorem Aa {i n:Nat} (h:i<n):Ac (i:Int) n=true:=by simp[Ac];omega
end Gx

namespace Gx
def val:List Nat→Nat
 | []=>0
 | x::r=>x+4294967296*val r
def Am (l:List Nat):Prop:=∀ x ∈ l,x<4294967296
def A4a:Nat→Nat→List Nat
 | 0,_=>[]
 | f+1,n=>if n=0 then [] else n%4294967296::A4a f (n/4294967296)
def As (n:Nat):List Nat:=A4a n n
theorem Bcc:∀ (f n:Nat),n≤f→∀ g,n≤g→A4a f n=A4a g n
 | 0,n,h,g,_=>by
  have:n=0:=by omega
  subst this;cases g<;>simp[A4a]
 | f+1,n,h,g,C=>by
  by_cases k:n=0
  ·subst k;cases g<;>simp[A4a]
  ·cases g with
   | zero=>omega
   | succ g=>simp only[A4a,k,if_false];rw[Bcc f _ (by omega) g (by omega)]
theorem Ey:As 0=[]:=rfl
theorem WV {n:Nat} (h:n≠0):As n=n%4294967296::As (n/4294967296):=by
 unfold As
 cases n with
 | zero=>omega
 | succ n=>simp only[A4a,h,if_false];rw[Bcc n _ (by omega) ((n+1)/4294967296) (by omega)]
theorem Al:∀ n,val (As n)=n:=by
 intro n
 induction n using Nat.strongRecOn with
 | _ n k =>
  by_cases h:n=0
  ·subst h;rfl
  ·rw[WV h,val,k _ (by omega)];omega
theorem Ad:∀ n,Am (As n):=by
 intro n
 induction n using Nat.strongRecOn with
 | _ n C =>
  by_cases h:n=0
  ·subst h;intro x k;simp[Ey] at k
  ·rw[WV h];intro x k
   simp at k
   rcases k with rfl | k
   ·omega
   ·exact C _ (by omega) x k
theorem X2:Am []:=by intro x k;simp at k
theorem Ee {x:Nat} {r:List Nat}:Am (x::r)↔x<4294967296∧Am r:=by simp[Am]
theorem sJ {a b:List Nat}:Am (a++b)↔Am a∧Am b:=by simp[Am,or_imp,forall_and]
theorem C0 {a:List Nat} (h:Am a) (n:Nat):Am (a.take n):=fun x k=>h x (List.mem_of_mem_take k)
theorem WW {a:List Nat} (h:Am a) (n:Nat):Am (a.drop n):=fun x k=>h x (List.mem_of_mem_drop k)
theorem Bd {a:List Nat} (h:Am a) {i:Nat} (hi:i<a.length):a[i]<4294967296:=h _ (List.getElem_mem hi)
theorem C9 {a:List Nat} (h:Am a) {v:Nat} (D:v<4294967296) (i:Nat):Am (a.set i v):=fun x C=>by
 rcases List.mem_or_eq_of_mem_set C with k | k
 ·exact h x k
 ·omega
theorem C5 (n:Nat):Am (List.replicate n 0):=fun x k=>by simp at k;omega
theorem T1:∀ (a b:List Nat),val (a++b)=val a+4294967296 ^ a.length*val b
 | [],b=>by simp[val]
 | x::r,b=>by
  simp only[List.cons_append,val,List.length_cons,T1 r b,Nat.pow_succ]
  rw[Nat.mul_add,←Nat.add_assoc,←Nat.mul_assoc];congr 2;rw[Nat.mul_comm]
theorem E2:∀ n,val (List.replicate n 0)=0
 | 0=>rfl
 | n+1=>by rw[List.replicate_succ,val,E2 n]
theorem Bq:∀ {a:List Nat},Am a→val a<4294967296 ^ a.length
 | [],_=>by simp[val]
 | x::r,h=>by
  have k:=Ee.1 h
  have C:=Bq k.2
  rw[val,List.length_cons,Nat.pow_succ]
  omega
theorem A8r (a:List Nat) (x:Nat):val (a++[x])=val a+4294967296 ^ a.length*x:=by rw[T1];simp[val]
theorem qA {n:Nat} (h:n≠0):As n≠[]:=by rw[WV h];simp
theorem Ai6 {n:Nat}:As n=[]↔n=0:=by
 constructor
 ·intro h;by_cases k:n=0;exact k;exact absurd h (qA k)
 ·intro h;rw[h];rfl
theorem B5 {n:Nat}:(As n).length=0↔n=0:=by rw[List.length_eq_zero_iff,Ai6]
theorem B0:∀ {l:List Nat},Am l→l=As (val l)++List.replicate (l.length - (As (val l)).length) 0∧(As (val l)).length≤l.length
 | [],_=>by simp[val,Ey]
 | x::r,h=>by
  have D:=Ee.1 h
  obtain⟨k,F⟩:=B0 D.2
  rw[val]
  by_cases C:x+4294967296*val r=0
  ·have G:x=0:=by omega
   have hr:val r=0:=by omega
   rw[C,Ey]
   rw[hr,Ey] at k
   simp at k
   subst G
   refine⟨?_,by simp⟩
   rw[List.nil_append,List.length_nil,Nat.sub_zero,List.length_cons,List.replicate_succ,←k]
  ·rw[WV C,show(x+4294967296*val r)%4294967296=x by omega,show(x+4294967296*val r)/4294967296=val r by omega]
   refine⟨?_,by simp;exact F⟩
   rw[List.cons_append,List.length_cons,List.length_cons,Nat.add_sub_add_right,←k]
theorem Ai7:∀ (n:Nat) (h:As n≠[]),(As n).getLast h≠0:=by
 intro n
 induction n using Nat.strongRecOn with
 | _ n D =>
  intro h
  have F:n≠0:=fun e=>h (by rw[e];rfl)
  have e:=WV F
  by_cases C:n/4294967296=0
  ·rw[C,Ey] at e
   have:n<4294967296:=by omega
   simp[e];omega
  ·have k:=qA C
   have:=D _ (by omega) k
   have G:(As n).getLast h=(As (n/4294967296)).getLast k:=by
    simp only[e];rw[List.getLast_cons k]
   rw[G];exact this
theorem Bll:∀ {l:List Nat},Am l→(∀ h:l≠[],l.getLast h≠0)→As (val l)=l:=by
 intro l h I
 obtain⟨C,L⟩:=B0 h
 by_cases F:l.length - (As (val l)).length=0
 ·rw[F] at C;simpa using C.symm
 ·exfalso
  obtain⟨k,F⟩:=Nat.exists_eq_succ_of_ne_zero F
  rw[F,List.replicate_succ',←List.append_assoc] at C
  have D:l≠[]:=by intro e;rw[e] at C;simp at C
  apply I D
  have G:l.getLast?=some 0:=by rw[C,List.getLast?_append];rfl
  rw[List.getLast?_eq_some_getLast D] at G
  simpa using G
theorem Dv {n k:Nat} (h:n<4294967296 ^ k):(As n).length≤k:=by
  induction k generalizing n with
  | zero => have : n = 0 := by simpa using h
            subst this;simp[Ey]
  | succ k D =>
    by_cases C:n=0
    · subst C;simp[Ey]
    · rw[WV C,List.length_cons]
      have:n/4294967296<4294967296 ^ k:=by
        rw[Nat.pow_succ] at h
        exact Nat.div_lt_of_lt_mul (by rw[Nat.mul_comm];exact h)
      have:=D this
      omega
theorem Cj {a b:Nat} (h:a≤b):(As a).length≤(As b).length:=by
 apply Dv
 have:=Bq (Ad b)
 rw[Al] at this
 omega
end Gx

namespace Gx
theorem Avh {U V U3 V2 P d:Nat} (hV:V2*P≤V) (hU:U<(U3+1)*P) (h:U3<d*V2) (k:0<V):U/V<d:=by
 rw[Nat.div_lt_iff_lt_mul k]
 have D:(U3+1)*P≤d*V2*P:=Nat.mul_le_mul_right _ h
 have C:d*(V2*P)≤d*V:=Nat.mul_le_mul_left _ hV
 rw[←Nat.mul_assoc] at C
 omega
theorem Avi {U V U3 V2 P d:Nat} (hV:V<(V2+1)*P) (hU:U3*P≤U) (h:d*V2≤U3) (C:d≤V2+1) (k:0<V):d≤U/V+1:=by
 cases d with
 | zero=>exact Nat.zero_le _
 | succ d =>
  have:d≤U/V:=by
   rw[Nat.le_div_iff_mul_le k]
   have D:(d+1)*V2*P≤U3*P:=Nat.mul_le_mul_right _ h
   have F:d*V≤d*((V2+1)*P):=Nat.mul_le_mul_left _ (by omega)
   have G:d*((V2+1)*P)≤(d+1)*V2*P:=by
    rw[←Nat.mul_assoc]
    apply Nat.mul_le_mul_right
    rw[Nat.mul_add,Nat.add_mul];omega
   omega
  omega
theorem A4b {a b u v s t x y:Nat} (D:x+v*b=u*a) (F:y+s*a=t*b) (k:u*t=v*s+1):Nat.gcd x y=Nat.gcd a b:=by
 have e1:t*x+v*y=a:=by
  have C:t*x+t*v*b=t*u*a:=by rw[←Nat.mul_assoc t u a |>.symm,Nat.mul_assoc t v b,←Nat.mul_add,D]
  have G:v*y+v*s*a=v*t*b:=by rw[Nat.mul_assoc,Nat.mul_assoc,←Nat.mul_add,F]
  have I:t*u*a=v*s*a+a:=by rw[Nat.mul_comm t u,k,Nat.add_mul,Nat.one_mul]
  have L:t*v*b=v*t*b:=by rw[Nat.mul_comm t v]
  omega
 have M:s*x+u*y=b:=by
  have C:s*x+s*v*b=s*u*a:=by rw[Nat.mul_assoc,Nat.mul_assoc,←Nat.mul_add,D]
  have G:u*y+u*s*a=u*t*b:=by rw[Nat.mul_assoc,Nat.mul_assoc,←Nat.mul_add,F]
  have I:u*t*b=v*s*b+b:=by rw[k,Nat.add_mul,Nat.one_mul]
  have L:s*u*a=u*s*a:=by rw[Nat.mul_comm s u]
  have S:s*v*b=v*s*b:=by rw[Nat.mul_comm s v]
  omega
 apply Nat.dvd_antisymm
 ·apply Nat.dvd_gcd
  ·rw[←e1];exact Nat.dvd_add (Nat.dvd_mul_left_of_dvd (Nat.gcd_dvd_left x y) t) (Nat.dvd_mul_left_of_dvd (Nat.gcd_dvd_right x y) v)
  ·rw[←M];exact Nat.dvd_add (Nat.dvd_mul_left_of_dvd (Nat.gcd_dvd_left x y) s) (Nat.dvd_mul_left_of_dvd (Nat.gcd_dvd_right x y) u)
 ·apply Nat.dvd_gcd
  ·have C:Nat.gcd a b∣x+v*b:=by rw[D];exact Nat.dvd_mul_left_of_dvd (Nat.gcd_dvd_left a b) u
   exact(Nat.dvd_add_left (Nat.dvd_mul_left_of_dvd (Nat.gcd_dvd_right a b) v)).1 C
  ·have C:Nat.gcd a b∣y+s*a:=by rw[F];exact Nat.dvd_mul_left_of_dvd (Nat.gcd_dvd_right a b) t
   exact(Nat.dvd_add_left (Nat.dvd_mul_left_of_dvd (Nat.gcd_dvd_left a b) s)).1 C
theorem LZ {a b x y P u v w:Nat} (k:x*P≤a) (D:b<(y+1)*P) (C:u*x=w+v*y) (F:v≤w):v*b≤u*a:=by
 have G:u*(x*P)≤u*a:=Nat.mul_le_mul_left _ k
 have I:v*b≤v*((y+1)*P):=Nat.mul_le_mul_left _ (by omega)
 have L:v*((y+1)*P)≤u*(x*P):=by
  rw[←Nat.mul_assoc,←Nat.mul_assoc]
  apply Nat.mul_le_mul_right
  rw[C,Nat.mul_add];omega
 omega
end Gx

namespace Gx
open Go
section
variable {R:Type}
def Af (l:List Nat):LA:=l.map fun n:Nat=>.int .u32 (n:Int)
theorem GE (x:Nat) (l:List Nat):Af (x::l)=.int .u32 (x:Int)::Af l:=rfl
theorem Cg (l:List Nat):(Af l).length=l.length:=by simp[Af]
theorem Bdr (l:List Nat) (n:Nat):(Af l).drop n=Af (l.drop n):=by simp[Af,List.map_drop]
theorem X3 (l:List Nat) (n:Nat):(Af l).take n=Af (l.take n):=by simp[Af,List.map_take]
theorem sK (l:List Nat) (j:Nat) (v:Nat):List.set (Af l) j (.int .u32 (v:Int))=Af (l.set j v):=by simp[Af,List.map_set]
theorem Dw (n:Nat):List.replicate n (AV.int .u32 0)=Af (List.replicate n 0):=by simp[Af]
theorem A4c {l:List Nat} {i:Nat} (h:i<l.length) {f:Int→O R}:Ao .u32 (List.drop i (Af l)) f=f (l[i]:Nat):=by
 rw[Bdr,List.drop_eq_getElem_cons h,GE,A1]
theorem L_:∀ l:List Nat,A8 (Af l)=true
 | []=>rfl
 | x::r=>by rw[GE,A8];exact L_ r
theorem RX (a b:Nat):(a:Int)+(b:Int)=((a+b:Nat):Int):=by omega
theorem Ai8 (a b:Nat):(a:Int)*(b:Int)=((a*b:Nat):Int):=by simp
theorem J5 {a:Nat} (h:a<18446744073709551616):IntKind.wrap .u64 (a:Int)=(a:Int):=wrap_u64 a h
theorem Bcd {a:Nat} (h:a<4294967296):IntKind.wrap .u32 (a:Int)=(a:Int):=wrap_u32 a h
theorem qB (a:Nat):IntKind.wrap .u32 (a:Int)=((a%4294967296:Nat):Int):=Bdq a
theorem qC (a:Int):IntKind.wrap .u64 a=a%18446744073709551616:=IntKind.wrap_u64 a
theorem xU {a b:Nat} (k:a<18446744073709551616) (C:b≤a):IntKind.wrap .u64 ((a:Int) - (b:Int))=((a - b:Nat):Int):=by rw[qC];omega
theorem Bg7 {a b:Nat} (h:a<b) (k:b≤18446744073709551616):IntKind.wrap .u64 ((a:Int) - (b:Int))=((18446744073709551616+a - b:Nat):Int):=by rw[qC];omega
theorem xV (a:Nat):Int.fdiv (a:Int) (2 ^ 32)=((a/4294967296:Nat):Int):=Vp a 32
theorem Bmv (a:Nat):Int.fdiv (a:Int) (2 ^ 63)=((a/9223372036854775808:Nat):Int):=Vp a 63
theorem i64 {a:Int} (h:-9223372036854775808≤a∧a≤9223372036854775807):IntKind.wrap .i64 a=a:=AF a h
theorem A8s {a b:Nat} (k:a<18446744073709551616) (C:b<18446744073709551616):Uo .u64 (a:Int) (b:Int)=((a ||| b:Nat):Int):=Avg rfl k C
theorem xW {a b k:Nat} (h:b<2 ^ k):a*2 ^ k ||| b=a*2 ^ k+b:=by
 rw[←Nat.shiftLeft_eq,Nat.shiftLeft_add_eq_or_of_lt h]
end
end Gx

namespace Gx
open Go Go.Proofs
open IntKind (wrap)
set_option maxRecDepth 100000
noncomputable section
variable {R:Type} (N:Nat)
def muts:Nat→List Bool:=Bkr [(13,[true,false,false]),(14,[true,false]),(44,[true]),(63,[false,false,true,false]),(66,[false,true,false]),(106,[true,false]),(107,[true,false,false]),(109,[true,false,false,false,false]),(110,[true,false,false,false]),(111,[true,false,false,false]),(119,[false,true]),(120,[false,true,true,true,true,true,true,true,true]),(137,[false,true,true,true,true,true,true,true,true]),(138,[false,true]),(148,[false,true]),(151,[true,false]),(152,[true,false]),(153,[true,false,false,false]),(154,[true,false,false,false,false,false,false,false]),(155,[true,false,false,false,false,false]),(157,[true,false,false]),(158,[true,false,false]),(159,[true,false,false]),(160,[true,false,false]),(161,[true,false,false]),(171,[true]),(185,[true,false,false,false,false,false]),(187,[true,false,false,false,false,false]),(188,[true,false,false]),(203,[true,false]),(206,[false,true,true,true,true,true,true,true,true])]
def Hp {R:Type}:=@Bn8 R Tryz.prog muts
abbrev Cd {R:Type}:=@aQ R Tryz.prog muts
abbrev An:=@Blj Tryz.prog muts
theorem follows:Tryz.prog.follows .mixedOrders=true:=by kernel_rfl
theorem Ca {N f:Nat} {run:(R:Type)→Nat→LA→Ak→KF R→O R} (H:An N f run):Bja Tryz.prog f (Ay H):=Bnu H follows
def C6:Hints:={ H:=hL }
def Lu:Hints:={ H:=hL,modes:=[(3,0)] }
def Bg8:Hints:={ H:=hL,modes:=[(3,0),(0,0)] }
def zj:Hints:={ H:=(hS hL (hS hL (hS (hS (hP [0,3] hL) hL) hL))),nils:=[(2,1)],modes:=[(2,1)] }
def Bg9:Hints:={ H:=hL,nils:=[(2,1)],modes:=[(2,1)] }
def Avj:Hints:={ H:=(hS hL (hS hL (hS hL (hS (hS hL (hS (hP [0,1,5] hL) hL)) hL)))) }
end
end Gx

namespace Gx
open Go Go.Proofs
open IntKind (wrap)
set_option maxRecDepth 100000
noncomputable section
variable {R:Type} (N:Nat)
def EW (N:Nat) (r0:Nat→LA→O R) (d:LA) (c:Nat) (f e:Bool) (k0:Int→O R) (b:Int):O R :=
 (cond ((decide (b>0))==true) (cond (Ac (wrap .i64 (b - 1)) c) (Ao .u32 (d.drop (((wrap .i64 (b - 1)).toNat)*1)) fun g=>(cond (cond true (g==0) false) (k0 (wrap .i64 (b - 1))) (cond ((decide ((0:Int)≤(0:Int)))&&((decide (0≤b))&&((decide (b≤((c:Nat):Int)))&&(decide (((c:Nat):Int)≤((c:Nat):Int)))))) (cond ((!e)||(A8 (d.take ((b.toNat)*1)))) (cond ((Nat.ble (0+(b.toNat)) 140737488355328)&&(Nat.ble ((0+(b.toNat))*4) 140737488355328)) (r0 (0+(b.toNat)) (d.take ((b.toNat)*1))) none) none) none))) none) (cond ((decide ((0:Int)≤(0:Int)))&&((decide (0≤b))&&((decide (b≤((c:Nat):Int)))&&(decide (((c:Nat):Int)≤((c:Nat):Int)))))) (cond ((!e)||(A8 (d.take ((b.toNat)*1)))) (cond ((Nat.ble (0+(b.toNat)) 140737488355328)&&(Nat.ble ((0+(b.toNat))*4) 140737488355328)) (r0 (0+(b.toNat)) (d.take ((b.toNat)*1))) none) none) none))
def Pe (r0:Nat→LA→O R) (d:LA) (c:Nat) (f e:Bool):Nat→Int→O R
 | 0,_=>none
 | n+1,b=>(EW N r0 d c f e (Pe r0 d c f e n) b)
def RY (N:Nat) (r0:Nat→LA→O R) (q0:Int→O R) (d:LA) (c:Nat) (f e:Bool):O R :=
 (q0 ((c:Nat):Int))
def Ep:=(Ae (fun (N:Nat) (d:LA) (c:Nat) (f e:Bool) (r0:Nat→LA→O R)=>(RY N r0 (fun b=>(Pe N r0 d c f e N b)) d c f e))).1
theorem WX (d c f e r0):(@Ep R N d c f e r0)=(RY N r0 (fun b=>(Pe N r0 d c f e N b)) d c f e):=by rw[Ep,(Ae _).2]
def A4d (F:KF R):=Hp Tryz.f143 zj [] [] N F
def AG (F:KF R):Nat→LA→O R:=(fun i l=>F (.own 300000 0 i) (hq [(bQ 1 l)]))
def A4e (d:LA) (c:Nat) (f e:Bool) (b:Int):St:=⟨[(0,(.imm d c 1 f e)),(3,(iv b))],[]⟩
def A4f (F:KF R):=A4d N F [1,1,0,0] []
theorem fR (F:KF R) (d:LA) (c:Nat) (f e:Bool):∀ (n:Nat) (b:Int),Ap (A4f N F) n (A4e d c f e b)=(Pe N (AG F) d c f e n b)
 | 0,_=>by kernel_rfl
 | n+1,b=>Eq.trans (by kernel_rfl) (Bm (EW N (AG F) d c f e · b) (funext fun b=>(fR F d c f e n b)):_)
theorem zk (d:LA) (c:Nat) (f e:Bool) (F:KF R):Cd [] zj N 143 [(.imm d c 1 f e)] [] F=(Ep N d c f e (AG F)):=by
 rw[WX]
 exact Eq.trans (by kernel_rfl) (Bm (RY N (AG F) · d c f e) (funext fun b=>(Ai ..).trans (fR N F d c f e N b)):_)
def sL (a:LA) (h:Ak) (k:KF R):O R :=
 match a,h with
 | [(.imm d c 1 f e)],[]=>(Ep N d c f e (AG k))
 | _,_=>none
theorem zl:An N 143 @sL:=by
 intro R Q a h k j;unfold sL;split;exact Ax (zk ..) (zk ..) trivial;exact Az
def Hj:=Ay (zl N)
def Hk:=Ca (zl N)
def CG (b:Int) (r0:Nat→LA→O R):O R :=
 (Ep N [(.int .u32 (wrap .u32 b)),(.int .u32 (wrap .u32 (Int.fdiv b (2 ^ 32))))] 2 false true (fun c d=>(r0 c d)))
def Gh:=(Ae (@CG R)).1
theorem HH:@Gh R=@CG R:=(Ae _).2
def xX:Dg:=[(143,Hj N)]
def MA (F:KF R):Nat→LA→O R:=(fun e f=>F (.own 300000 0 e) (hq [(bQ 1 f)]))
theorem MB (b:Int) (F:KF R):Cd (xX N) Bg9 N 94 [(.int .u64 b)] [] F=(Gh N b (MA F)):=by
 rw[HH]
 kernel_rfl
def HI (a:LA) (h:Ak) (k:KF R):O R :=
 match a,h with
 | [(.int .u64 b)],[]=>(Gh N b (MA k))
 | _,_=>none
theorem MC:An N 94 @HI:=by
 intro R Q a h k j;unfold HI;split;exact Ax (MB ..) (MB ..) ⟨Hk N,trivial⟩;exact Az
def MD:=Ay (MC N)
def ME:=Ca (MC N)
def xY (b:Bool) (c:LA) (d:Nat) (f e:Bool) (r0:LA→O R):O R :=
 (Ep N c d false e (fun g i=>(cond (b==true) (r0 [(.bool (cond true (decide (((g:Nat):Int)>0)) false)),(.imm (i.take (g*1)) g 1 false false)]) (r0 [(.bool false),(.imm (i.take (g*1)) g 1 false false)]))))
def Ha:=(Ae (@xY R)).1
theorem sM:@Ha R=@xY R:=(Ae _).2
def A8t:Dg:=[(143,Hj N)]
def zm (F:KF R):LA→O R:=(fun l=>F (.pagg l false) [])
theorem zn (b:Bool) (c:LA) (d:Nat) (f e:Bool) (F:KF R):Cd (A8t N) Lu N 93 [(.bool b),(.imm c d 1 f e)] [] F=(Ha N b c d f e (zm F)):=by
 rw[sM]
 kernel_rfl
def sN (a:LA) (h:Ak) (k:KF R):O R :=
 match a,h with
 | [(.bool b),(.imm c d 1 f e)],[]=>(Ha N b c d f e (zm k))
 | _,_=>none
theorem zo:An N 93 @sN:=by
 intro R Q a h k j;unfold sN;split;exact Ax (zn ..) (zn ..) ⟨Hk N,trivial⟩;exact Az
def Lv:=Ay (zo N)
def Lw:=Ca (zo N)
def WY (b:Int) (r0:LA→O R):O R :=
 (cond (decide (b<0)) (Gh N (wrap .u64 ((wrap .u64 (wrap .i64 ((0:Int) - (wrap .i64 (b+1)))))+1)) (fun e g=>(Ha N true (g.take (e*1)) e false true (fun c=>(cond ((Nat.beq 0 0)&&((Nat.beq (c.length) 2)&&(Nat.beq 2 2))) (cond (Nat.ble 2 (c.length)) (r0 (c.take 2)) none) none))))) (Gh N (wrap .u64 b) (fun f i=>(Ha N false (i.take (f*1)) f false true (fun d=>(cond ((Nat.beq 0 0)&&((Nat.beq (d.length) 2)&&(Nat.beq 2 2))) (cond (Nat.ble 2 (d.length)) (r0 (d.take 2)) none) none))))))
def Hl:=(Ae (@WY R)).1
theorem aX:@Hl R=@WY R:=(Ae _).2
def Ary:Dg:=[(94,MD N),(93,Lv N)]
def fS (F:KF R):LA→O R:=(fun l=>F (.pagg l false) [])
theorem fT (b:Int) (F:KF R):Cd (Ary N) Lu N 55 [(iv b)] [] F=(Hl N b (fS F)):=by
 rw[aX]
 kernel_rfl
def aY (a:LA) (h:Ak) (k:KF R):O R :=
 match a,h with
 | [(.int .i64 b)],[]=>(Hl N b (fS k))
 | _,_=>none
theorem fU:An N 55 @aY:=by
 intro R Q a h k j;unfold aY;split;exact Ax (fT ..) (fT ..) ⟨ME N,Lw N,trivial⟩;exact Az
def HJ:=Ay (fU N)
def HK:=Ca (fU N)
def xZ (b:LA) (c:Bool) (r0:LA→O R):O R :=
 (RW b fun e=>(B9 1 (b.drop 1) fun f g=>(Ha N e f g false c (fun d=>(cond ((Nat.beq 0 0)&&((Nat.beq (d.length) 2)&&(Nat.beq 2 2))) (cond (Nat.ble 2 (d.length)) (r0 (d.take 2)) none) none)))))
def HL:=(Ae (@xZ R)).1
theorem sO:@HL R=@xZ R:=(Ae _).2
def A8u:Dg:=[(93,Lv N)]
def zp (F:KF R):LA→O R:=(fun i=>F (.pagg i false) [])
theorem zq (b:LA) (c:Bool) (F:KF R):Cd (A8u N) Lu N 88 [(.pagg b c)] [] F=(HL N b c (zp F)):=by
 rw[sO]
 kernel_rfl
def sP (a:LA) (h:Ak) (k:KF R):O R :=
 match a,h with
 | [(.pagg b c)],[]=>(HL N b c (zp k))
 | _,_=>none
theorem zr:An N 88 @sP:=by
 intro R Q a h k j;unfold sP;split;exact Ax (zq ..) (zq ..) ⟨Lw N,trivial⟩;exact Az
def zs:=Ay (zr N)
def zt:=Ca (zr N)
def x9 (b:LA) (c:Bool) (r0:Int→O R):O R :=
 (cond (Nat.ble 2 (b.length)) (HL N (b.take 2) c (fun d=>(cond ((Nat.beq (d.length) 2)&&((Nat.ble 2 (b.length))&&(!false))) (RW (setCells b 0 d) fun e=>(cond e (r0 (-1)) (B9 1 ((setCells b 0 d).drop 1) fun i f=>(cond (((f:Nat):Int)==0) (r0 0) (r0 1))))) none))) none)
def HM:=(Ae (@x9 R)).1
theorem sQ:@HM R=@x9 R:=(Ae _).2
def A8v:Dg:=[(88,zs N)]
def zu (F:KF R):Int→O R:=(fun g=>F (iv g) [])
theorem zw (b:LA) (c:Bool) (F:KF R):Cd (A8v N) C6 N 75 [(.pagg b c)] [] F=(HM N b c (zu F)):=by
 rw[sQ]
 kernel_rfl
def sR (a:LA) (h:Ak) (k:KF R):O R :=
 match a,h with
 | [(.pagg b c)],[]=>(HM N b c (zu k))
 | _,_=>none
theorem zx:An N 75 @sR:=by
 intro R Q a h k j;unfold sR;split;exact Ax (zw ..) (zw ..) ⟨zt N,trivial⟩;exact Az
def zy:=Ay (zx N)
def Aaa:=Ca (zx N)
def x_ (N:Nat) (r0:LA→O R):O R :=
 (r0 [(.bool false),(.imm [] 0 1 false false),(.imm [(.int .u32 1)] 1 1 false false)])
def HN:=(Ae (@x_ R)).1
theorem sS:@HN R=@x_ R:=(Ae _).2
def Aab (F:KF R):LA→O R:=(fun b=>F (.pagg b false) [])
theorem Aac (F:KF R):Cd [] Lu N 41 [] [] F=(HN N (Aab F)):=by
 rw[sS]
 kernel_rfl
def sT (a:LA) (h:Ak) (k:KF R):O R :=
 match a,h with
 | [],[]=>(HN N (Aab k))
 | _,_=>none
theorem Aad:An N 41 @sT:=by
 intro R Q a h k j;unfold sT;split;exact Ax (Aac ..) (Aac ..) trivial;exact Az
def fV:=Ay (Aad N)
def fW:=Ca (Aad N)
def Y6 (N:Nat) (r0:Bool→O R) (d:LA) (b:Nat) (f g:Bool) (e:LA) (c:Nat) (i l:Bool) (k0:Int→O R) (m:Int):O R :=
 (cond (decide (m<((b:Nat):Int))) (cond (Ac m b) (Ao .u32 (d.drop ((m.toNat)*1)) fun o=>(cond (Ac m c) (Ao .u32 (e.drop ((m.toNat)*1)) fun p=>(cond (o != p) (r0 false) (k0 (wrap .i64 (m+1))))) none)) none) (r0 true))
def Mb (r0:Bool→O R) (d:LA) (b:Nat) (f g:Bool) (e:LA) (c:Nat) (i l:Bool):Nat→Int→O R
 | 0,_=>none
 | n+1,m=>(Y6 N r0 d b f g e c i l (Mb r0 d b f g e c i l n) m)
def WZ (N:Nat) (r0:Bool→O R) (q0:Int→O R) (d:LA) (b:Nat) (f g:Bool) (e:LA) (c:Nat) (i l:Bool):O R :=
 (cond (((b:Nat):Int) != ((c:Nat):Int)) (r0 false) (q0 0))
def GF:=(Ae (fun (N:Nat) (d:LA) (b:Nat) (f g:Bool) (e:LA) (c:Nat) (i l:Bool) (r0:Bool→O R)=>(WZ N r0 (fun m=>(Mb N r0 d b f g e c i l N m)) d b f g e c i l))).1
theorem mN (d b f g e c i l r0):(@GF R N d b f g e c i l r0)=(WZ N r0 (fun m=>(Mb N r0 d b f g e c i l N m)) d b f g e c i l):=by rw[GF,(Ae _).2]
def sU:Hints:={ H:=(hS hL (hS hL (hS (hS hL (hS (hP [0,1,5] hL) hL)) hL))) }
def Azf (F:KF R):=Hp Tryz.f89 sU [] [] N F
def Vq (F:KF R):Bool→O R:=(fun q=>F (.bool q) [])
def Azg (d:LA) (b:Nat) (f g:Bool) (e:LA) (c:Nat) (i l:Bool) (m:Int):St:=⟨[(0,(.imm d b 1 f g)),(1,(.imm e c 1 i l)),(5,(iv m))],[]⟩
def Azh (F:KF R):=Azf N F [1,1,0,1,0] []
theorem aZ (F:KF R) (d:LA) (b:Nat) (f g:Bool) (e:LA) (c:Nat) (i l:Bool):∀ (n:Nat) (m:Int),Ap (Azh N F) n (Azg d b f g e c i l m)=(Mb N (Vq F) d b f g e c i l n m)
 | 0,_=>by kernel_rfl
 | n+1,m=>Eq.trans (by kernel_rfl) (Bm (Y6 N (Vq F) d b f g e c i l · m) (funext fun m=>(aZ F d b f g e c i l n m)):_)
theorem sV (d:LA) (b:Nat) (f g:Bool) (e:LA) (c:Nat) (i l:Bool) (F:KF R):Cd [] sU N 89 [(.imm d b 1 f g),(.imm e c 1 i l)] [] F=(GF N d b f g e c i l (Vq F)):=by
 rw[mN]
 exact Eq.trans (by kernel_rfl) (Bm (WZ N (Vq F) · d b f g e c i l) (funext fun m=>(Ai ..).trans (aZ N F d b f g e c i l N m)):_)
def mO (a:LA) (h:Ak) (k:KF R):O R :=
 match a,h with
 | [(.imm d b 1 f g),(.imm e c 1 i l)],[]=>(GF N d b f g e c i l (Vq k))
 | _,_=>none
theorem sW:An N 89 @mO:=by
 intro R Q a h k j;unfold mO;split;exact Ax (sV ..) (sV ..) trivial;exact Az
def Azi:=Ay (sW N)
def Azj:=Ca (sW N)
def Gi (N:Nat) (r0:Int→Bool→O R) (b:Nat) (d:LA) (k0:Int→Int→O R) (e c:Int):O R :=
 (cond (decide (c≥0)) (cond (Ac c b) (Ao .u32 (d.drop (0+((c.toNat)*1))) fun m=>(k0 (Uo .u64 (wrap .u64 (e*2 ^ 32)) (wrap .u64 m)) (wrap .i64 (c - 1)))) none) (r0 e true))
def E3 (r0:Int→Bool→O R) (b:Nat) (d:LA):Nat→Int→Int→O R
 | 0,_,_=>none
 | n+1,e,c=>(Gi N r0 b d (E3 r0 b d n) e c)
def MF (r0:Int→Bool→O R) (q0:Nat→LA→Int→Int→O R) (f:LA) (g:Nat) (l i:Bool):O R :=
 (Ep N f g false i (fun b d=>(cond (decide (((b:Nat):Int)>2)) (r0 0 false) (q0 b d 0 (wrap .i64 (((b:Nat):Int) - 1))))))
def T2:=(Ae (fun (N:Nat) (f:LA) (g:Nat) (l i:Bool) (r0:Int→Bool→O R)=>(MF N r0 (fun b d e c=>(E3 N r0 b d N e c)) f g l i))).1
theorem fX (f g l i r0):(@T2 R N f g l i r0)=(MF N r0 (fun b d e c=>(E3 N r0 b d N e c)) f g l i):=by rw[T2,(Ae _).2]
def mP:Hints:={ H:=(hS hL (hS hL (hS hL (hS hL (hS (hS hL (hS (hP [0,4,5] hL) hL)) hL))))) }
def sX:Dg:=[(143,Hj N)]
def Arz (F:KF R):=Hp Tryz.f178 mP (sX N) [] N F
def Sd (F:KF R):Int→Bool→O R:=(fun o p=>F (.tup [(.int .u64 o),(.bool p)]) [])
def Ar0 (b:Nat) (d:LA) (e c:Int):St:=⟨[(0,(.own 300000 0 b)),(4,(.int .u64 e)),(5,(iv c))],(hq [(bQ 1 d)])⟩
def Ar1 (F:KF R):=Arz N F [1,1,1,1,0,1,0] []
theorem RZ (F:KF R) (b:Nat) (d:LA):∀ (n:Nat) (e c:Int),Ap (Ar1 N F) n (Ar0 b d e c)=(E3 N (Sd F) b d n e c)
 | 0,_,_=>by kernel_rfl
 | n+1,e,c=>Eq.trans (by kernel_rfl) (Bm (Gi N (Sd F) b d · e c) (funext fun e=>funext fun c=>(RZ F b d n e c)):_)
theorem mQ (f:LA) (g:Nat) (l i:Bool) (F:KF R):Cd (sX N) mP N 178 [(.imm f g 1 l i)] [] F=(T2 N f g l i (Sd F)):=by
 rw[fX]
 exact Eq.trans (by kernel_rfl) (Bm (MF N (Sd F) · f g l i) (funext fun b=>funext fun d=>funext fun e=>funext fun c=>(Ai ..).trans (RZ N F b d N e c)):_)
def fY (a:LA) (h:Ak) (k:KF R):O R :=
 match a,h with
 | [(.imm f g 1 l i)],[]=>(T2 N f g l i (Sd k))
 | _,_=>none
theorem mR:An N 178 @fY:=by
 intro R Q a h k j;unfold fY;split;exact Ax (mQ ..) (mQ ..) ⟨Hk N,trivial⟩;exact Az
def Ar2:=Ay (mR N)
def Ar3:=Ca (mR N)
def Vr (N:Nat) (r0:Int→O R) (k0:Int→Int→O R) (b c:Int):O R :=
 (cond (decide (c>0)) (k0 (wrap .i64 (b+1)) (Int.fdiv c (2 ^ 1))) (r0 b))
def Lx (r0:Int→O R):Nat→Int→Int→O R
 | 0,_,_=>none
 | n+1,b,c=>(Vr N r0 (Lx r0 n) b c)
def R_ (r0:Int→O R) (q0:Int→Int→O R) (d:LA) (e:Nat) (g f:Bool):O R :=
 (Ep N d e false f (fun i l=>(cond (((i:Nat):Int)==0) (r0 0) (cond (Ac (wrap .i64 (((i:Nat):Int) - 1)) i) (Ao .u32 (l.drop (0+(((wrap .i64 (((i:Nat):Int) - 1)).toNat)*1))) fun m=>(q0 (wrap .i64 (32*(wrap .i64 (((i:Nat):Int) - 1)))) m)) none))))
def SA:=(Ae (fun (N:Nat) (d:LA) (e:Nat) (g f:Bool) (r0:Int→O R)=>(R_ N r0 (fun b c=>(Lx N r0 N b c)) d e g f))).1
theorem W_ (d e g f r0):(@SA R N d e g f r0)=(R_ N r0 (fun b c=>(Lx N r0 N b c)) d e g f):=by rw[SA,(Ae _).2]
def Aae:Hints:={ H:=(hS hL (hS hL (hS hL (hS hL (hS (hS hL (hS (hP [3,4] hL) hL)) hL))))) }
def Ai9:Dg:=[(143,Hj N)]
def A4g (F:KF R):=Hp Tryz.f179 Aae (Ai9 N) [] N F
def AH (F:KF R):Int→O R:=(fun o=>F (iv o) [])
def A4h (b c:Int):St:=⟨[(3,(iv b)),(4,(.int .u32 c))],[]⟩
def A4i (F:KF R):=A4g N F [1,1,1,1,0,1,0] []
theorem fZ (F:KF R):∀ (n:Nat) (b c:Int),Ap (A4i N F) n (A4h b c)=(Lx N (AH F) n b c)
 | 0,_,_=>by kernel_rfl
 | n+1,b,c=>Eq.trans (by kernel_rfl) (Bm (Vr N (AH F) · b c) (funext fun b=>funext fun c=>(fZ F n b c)):_)
theorem Aaf (d:LA) (e:Nat) (g f:Bool) (F:KF R):Cd (Ai9 N) Aae N 179 [(.imm d e 1 g f)] [] F=(SA N d e g f (AH F)):=by
 rw[W_]
 exact Eq.trans (by kernel_rfl) (Bm (R_ N (AH F) · d e g f) (funext fun b=>funext fun c=>(Ai ..).trans (fZ N F N b c)):_)
def sY (a:LA) (h:Ak) (k:KF R):O R :=
 match a,h with
 | [(.imm d e 1 g f)],[]=>(SA N d e g f (AH k))
 | _,_=>none
theorem Aag:An N 179 @sY:=by
 intro R Q a h k j;unfold sY;split;exact Ax (Aaf ..) (Aaf ..) ⟨Hk N,trivial⟩;exact Az
def A4j:=Ay (Aag N)
def A4k:=Ca (Aag N)
def HO (N:Nat) (k0:Nat→Int→Int→LA→O R) (r0:Nat→LA→O R) (d:LA) (b:Nat) (f g:Bool) (e:LA) (c:Nat) (i l:Bool) (m:Nat) (o:LA) (s q:Int):O R :=
 (cond (decide (q<((c:Nat):Int))) (cond (Ac q c) (Ao .u32 (e.drop ((q.toNat)*1)) fun t=>(cond (Ac q m) (cond ((Nat.beq 1 1)&&((Nat.ble ((0+((q.toNat)*1))+1) (o.length))&&(!false))) (k0 m (Int.fdiv (wrap .u64 (s+(wrap .u64 t))) (2 ^ 32)) (wrap .i64 (q+1)) (o.set (0+((q.toNat)*1)) (.int .u32 (wrap .u32 (wrap .u64 (s+(wrap .u64 t))))))) none) none)) none) (cond (Ac q m) (cond ((Nat.beq 1 1)&&((Nat.ble ((0+((q.toNat)*1))+1) (o.length))&&(!false))) (k0 m (Int.fdiv s (2 ^ 32)) (wrap .i64 (q+1)) (o.set (0+((q.toNat)*1)) (.int .u32 (wrap .u32 s)))) none) none))
def MG (r0:Nat→LA→O R) (d:LA) (b:Nat) (f g:Bool) (e:LA) (c:Nat) (i l:Bool) (k0:Nat→Int→Int→LA→O R) (q1:Int→Int→O R) (m:Nat) (r p:Int) (o:LA):O R :=
 (cond (decide (p<((m:Nat):Int))) (cond (decide (p<((b:Nat):Int))) (cond (Ac p b) (Ao .u32 (d.drop ((p.toNat)*1)) fun u=>(q1 (wrap .u64 (r+(wrap .u64 u))) p)) none) (q1 r p)) (Ep N (o.take (m*1)) m false true (fun v w=>(r0 v w))))
def J7 (r0:Nat→LA→O R) (d:LA) (b:Nat) (f g:Bool) (e:LA) (c:Nat) (i l:Bool):Nat→Nat→Int→Int→LA→O R
 | 0,_,_,_,_=>none
 | n+1,m,r,p,o=>(MG N r0 d b f g e c i l (J7 r0 d b f g e c i l n) (fun s q=>(HO N (J7 r0 d b f g e c i l n) r0 d b f g e c i l m o s q)) m r p o)
def sZ (N:Nat) (r0:Nat→LA→O R) (q0:Nat→Int→Int→LA→O R) (d:LA) (b:Nat) (f g:Bool) (e:LA) (c:Nat) (i l:Bool):O R :=
 (cond ((decide (0≤(wrap .i64 ((Ix ((b:Nat):Int) ((c:Nat):Int))+1))))&&((decide ((wrap .i64 ((Ix ((b:Nat):Int) ((c:Nat):Int))+1))≤(wrap .i64 ((Ix ((b:Nat):Int) ((c:Nat):Int))+1))))&&((decide ((wrap .i64 ((Ix ((b:Nat):Int) ((c:Nat):Int))+1))≤140737488355328))&&(decide (((wrap .i64 ((Ix ((b:Nat):Int) ((c:Nat):Int))+1))*((4:Nat):Int))≤140737488355328))))) (q0 ((wrap .i64 ((Ix ((b:Nat):Int) ((c:Nat):Int))+1)).toNat) 0 0 (List.replicate ((wrap .i64 ((Ix ((b:Nat):Int) ((c:Nat):Int))+1)).toNat) (.int .u32 0))) none)
def MH:=(Ae (fun (N:Nat) (d:LA) (b:Nat) (f g:Bool) (e:LA) (c:Nat) (i l:Bool) (r0:Nat→LA→O R)=>(sZ N r0 (fun m r p o=>(J7 N r0 d b f g e c i l N m r p o)) d b f g e c i l))).1
theorem Aah (d b f g e c i l r0):(@MH R N d b f g e c i l r0)=(sZ N r0 (fun m r p o=>(J7 N r0 d b f g e c i l N m r p o)) d b f g e c i l):=by rw[MH,(Ae _).2]
def Aja:Hints:={ H:=(hS hL (hS hL (hS hL (hS (hS hL (hS (hP [0,1,5,6,7] (hS hL (hS (hS (hJ [0,1,5,6,7] hL hL) hL) hL))) hL)) hL)))),nils:=[(4,1)],modes:=[(2,1)] }
def Avk:Dg:=[(143,Hj N)]
def Ajb (F:KF R):=Hp Tryz.f122 Aja (Avk N) [] N F
def T3 (F:KF R):Nat→LA→O R:=(fun x y=>F (.own 300000 0 x) (hq [(bQ 1 y)]))
def A8w (d:LA) (b:Nat) (f g:Bool) (e:LA) (c:Nat) (i l:Bool) (m:Nat) (o:LA) (s q:Int):St:=⟨[(0,(.imm d b 1 f g)),(1,(.imm e c 1 i l)),(5,(.own 300000 0 m)),(6,(.int .u64 s)),(7,(iv q))],(hq [(bQ 1 o)])⟩
def A8x (F:KF R) (Q0:St→O R):=Ajb N F [1,1,1,0,1,0,0,1,0,0,1] [Q0]
def Ajc (d:LA) (b:Nat) (f g:Bool) (e:LA) (c:Nat) (i l:Bool) (m:Nat) (r p:Int) (o:LA):St:=⟨[(0,(.imm d b 1 f g)),(1,(.imm e c 1 i l)),(5,(.own 300000 0 m)),(6,(.int .u64 r)),(7,(iv p))],(hq [(bQ 1 o)])⟩
def Ajd (F:KF R):=Ajb N F [1,1,1,0,1,0] []
theorem Ar4 (Q0:St→O R) (F:KF R) (d:LA) (b:Nat) (f g:Bool) (e:LA) (c:Nat) (i l:Bool) (m:Nat) (o:LA):∀ (s q:Int),A9 (A8x N F Q0) (A8w d b f g e c i l m o s q)=(HO N (fun m r p o=>Q0 (Ajc d b f g e c i l m r p o)) (T3 F) d b f g e c i l m o s q):=by
 intro s q
 kernel_rfl
theorem mS (F:KF R) (d:LA) (b:Nat) (f g:Bool) (e:LA) (c:Nat) (i l:Bool):∀ (n m:Nat) (r p:Int) (o:LA),Ap (Ajd N F) n (Ajc d b f g e c i l m r p o)=(J7 N (T3 F) d b f g e c i l n m r p o)
 | 0,_,_,_,_=>by kernel_rfl
 | n+1,m,r,p,o=>have e0:=(funext fun m=>funext fun r=>funext fun p=>funext fun o=>(mS F d b f g e c i l n m r p o))
  Eq.trans (by kernel_rfl) (fQ (MG N (T3 F) d b f g e c i l · · m r p o) e0 (funext fun s=>funext fun q=>(Aq ..).trans ((Ar4 N (Ap (Ajd N F) n) F d b f g e c i l m o s q).trans (Bm (HO N · (T3 F) d b f g e c i l m o s q) e0))):_)
theorem Aje (d:LA) (b:Nat) (f g:Bool) (e:LA) (c:Nat) (i l:Bool) (F:KF R):Cd (Avk N) Aja N 122 [(.imm d b 1 f g),(.imm e c 1 i l)] [] F=(MH N d b f g e c i l (T3 F)):=by
 rw[Aah]
 exact Eq.trans (by kernel_rfl) (Bm (sZ N (T3 F) · d b f g e c i l) (funext fun m=>funext fun r=>funext fun p=>funext fun o=>(Ai ..).trans (mS N F d b f g e c i l N m r p o)):_)
def Aai (a:LA) (h:Ak) (k:KF R):O R :=
 match a,h with
 | [(.imm d b 1 f g),(.imm e c 1 i l)],[]=>(MH N d b f g e c i l (T3 k))
 | _,_=>none
theorem Ajf:An N 122 @Aai:=by
 intro R Q a h k j;unfold Aai;split;exact Ax (Aje ..) (Aje ..) ⟨Hk N,trivial⟩;exact Az
def Ajg:=Ay (Ajf N)
def Ajh:=Ca (Ajf N)
def Aji (N:Nat) (d:LA) (c:Nat) (e f:Bool) (b:Int) (r0:Int→O R):O R :=
 (cond (decide ((wrap .i64 (Int.tdiv b 32))≥((c:Nat):Int))) (r0 0) (cond (Ac (wrap .i64 (Int.tdiv b 32)) c) (Ao .u32 (d.drop (((wrap .i64 (Int.tdiv b 32)).toNat)*1)) fun g=>(cond (decide ((wrap .u64 (Int.tmod b 32))<0)) none (r0 (A8p .u32 (Int.fdiv g (2 ^ (min ((wrap .u64 (Int.tmod b 32)).toNat) 32))) 1)))) none))
def s5:=(Ae (@Aji R)).1
theorem Aaj:@s5 R=@Aji R:=(Ae _).2
def Ajj (F:KF R):Int→O R:=(fun i=>F (.int .u32 i) [])
theorem Ajk (d:LA) (c:Nat) (e f:Bool) (b:Int) (F:KF R):Cd [] C6 N 180 [(.imm d c 1 e f),(iv b)] [] F=(s5 N d c e f b (Ajj F)):=by
 rw[Aaj]
 kernel_rfl
def Aak (a:LA) (h:Ak) (k:KF R):O R :=
 match a,h with
 | [(.imm d c 1 e f),(.int .i64 b)],[]=>(s5 N d c e f b (Ajj k))
 | _,_=>none
theorem Ajl:An N 180 @Aak:=by
 intro R Q a h k j;unfold Aak;split;exact Ax (Ajk ..) (Ajk ..) trivial;exact Az
def A8y:=Ay (Ajl N)
def A8z:=Ca (Ajl N)
def Th (N:Nat) (r0:Int→O R) (c d:Nat) (e f:LA) (k0:Int→O R) (b:Int):O R :=
 (cond (decide (b≥0)) (cond (Ac b c) (Ao .u32 (e.drop (0+((b.toNat)*1))) fun s=>(cond (Ac b d) (Ao .u32 (f.drop (0+((b.toNat)*1))) fun t=>(cond (decide (s<t)) (r0 (-1)) (cond (Ac b c) (Ao .u32 (e.drop (0+((b.toNat)*1))) fun u=>(cond (Ac b d) (Ao .u32 (f.drop (0+((b.toNat)*1))) fun v=>(cond (decide (u>v)) (r0 1) (k0 (wrap .i64 (b - 1))))) none)) none))) none)) none) (r0 0))
def Ib (r0:Int→O R) (c d:Nat) (e f:LA):Nat→Int→O R
 | 0,_=>none
 | n+1,b=>(Th N r0 c d e f (Ib r0 c d e f n) b)
def EX (r0:Int→O R) (q0:Nat→Nat→LA→LA→Int→O R) (g:LA) (i:Nat) (q l:Bool) (m:LA) (o:Nat) (r p:Bool):O R :=
 (Ep N g i false l (fun c e=>(Ep N m o false p (fun d f=>(cond (((c:Nat):Int) != ((d:Nat):Int)) (cond (decide (((c:Nat):Int)<((d:Nat):Int))) (r0 (-1)) (r0 1)) (q0 c d e f (wrap .i64 (((c:Nat):Int) - 1))))))))
def Up:=(Ae (fun (N:Nat) (g:LA) (i:Nat) (q l:Bool) (m:LA) (o:Nat) (r p:Bool) (r0:Int→O R)=>(EX N r0 (fun c d e f b=>(Ib N r0 c d e f N b)) g i q l m o r p))).1
theorem a6 (g i q l m o r p r0):(@Up R N g i q l m o r p r0)=(EX N r0 (fun c d e f b=>(Ib N r0 c d e f N b)) g i q l m o r p):=by rw[Up,(Ae _).2]
def mT:Dg:=[(143,Hj N)]
def Ajm (F:KF R):=Hp Tryz.f168 Avj (mT N) [] N F
def Pf (F:KF R):Int→O R:=(fun w=>F (iv w) [])
def Ajn (c d:Nat) (e f:LA) (b:Int):St:=⟨[(0,(.own 300000 0 c)),(1,(.own 300001 0 d)),(5,(iv b))],(hq [(bQ 1 e),(bQ 1 f)])⟩
def Ajo (F:KF R):=Ajm N F [1,1,1,0,1,0] []
theorem MI (F:KF R) (c d:Nat) (e f:LA):∀ (n:Nat) (b:Int),Ap (Ajo N F) n (Ajn c d e f b)=(Ib N (Pf F) c d e f n b)
 | 0,_=>by kernel_rfl
 | n+1,b=>Eq.trans (by kernel_rfl) (Bm (Th N (Pf F) c d e f · b) (funext fun b=>(MI F c d e f n b)):_)
theorem f5 (g:LA) (i:Nat) (q l:Bool) (m:LA) (o:Nat) (r p:Bool) (F:KF R):Cd (mT N) Avj N 168 [(.imm g i 1 q l),(.imm m o 1 r p)] [] F=(Up N g i q l m o r p (Pf F)):=by
 rw[a6]
 exact Eq.trans (by kernel_rfl) (Bm (EX N (Pf F) · g i q l m o r p) (funext fun c=>funext fun d=>funext fun e=>funext fun f=>funext fun b=>(Ai ..).trans (MI N F c d e f N b)):_)
def a7 (a:LA) (h:Ak) (k:KF R):O R :=
 match a,h with
 | [(.imm g i 1 q l),(.imm m o 1 r p)],[]=>(Up N g i q l m o r p (Pf k))
 | _,_=>none
theorem f6:An N 168 @a7:=by
 intro R Q a h k j;unfold a7;split;exact Ax (f5 ..) (f5 ..) ⟨Hk N,trivial⟩;exact Az
def Ajp:=Ay (f6 N)
def Ajq:=Ca (f6 N)
def HP (N:Nat) (k0:Int→Int→LA→O R) (r0:Nat→Bool→LA→O R) (b d:Nat) (e f c:LA) (i m:Int):O R :=
 (cond (Ac i b) (Ao .u32 (e.drop (0+((i.toNat)*1))) fun w=>(cond (decide ((wrap .u64 w)<m)) (cond (Ac i b) (cond ((Nat.beq 1 1)&&((Nat.ble ((0+((i.toNat)*1))+1) (c.length))&&(!false))) (k0 1 (wrap .i64 (i+1)) (c.set (0+((i.toNat)*1)) (.int .u32 (wrap .u32 (wrap .u64 ((wrap .u64 ((wrap .u64 w)+4294967296)) - m)))))) none) none) (cond (Ac i b) (cond ((Nat.beq 1 1)&&((Nat.ble ((0+((i.toNat)*1))+1) (c.length))&&(!false))) (k0 0 (wrap .i64 (i+1)) (c.set (0+((i.toNat)*1)) (.int .u32 (wrap .u32 (wrap .u64 ((wrap .u64 w) - m)))))) none) none))) none)
def MJ (r0:Nat→Bool→LA→O R) (b d:Nat) (e f:LA) (k0:Int→Int→LA→O R) (q1:Int→Int→O R) (l g:Int) (c:LA):O R :=
 (cond (decide (g<((b:Nat):Int))) (cond (decide (g<((d:Nat):Int))) (cond (Ac g d) (Ao .u32 (f.drop (0+((g.toNat)*1))) fun x=>(q1 g (wrap .u64 (l+(wrap .u64 x))))) none) (q1 g l)) (Ep N (c.take (b*1)) b false true (fun y z=>(r0 y true z))))
def J8 (r0:Nat→Bool→LA→O R) (b d:Nat) (e f:LA):Nat→Int→Int→LA→O R
 | 0,_,_,_=>none
 | n+1,l,g,c=>(MJ N r0 b d e f (J8 r0 b d e f n) (fun i m=>(HP N (J8 r0 b d e f n) r0 b d e f c i m)) l g c)
def s6 (r0:Nat→Bool→LA→O R) (q0:Nat→Nat→LA→LA→Int→Int→LA→O R) (o:LA) (p:Nat) (u q:Bool) (r:LA) (s:Nat) (v t:Bool):O R :=
 (Up N o p false q r s false t (fun aa=>(cond (decide (aa<0)) (r0 0 false []) (Ep N o p false q (fun b e=>(Ep N r s false t (fun d f=>(cond ((decide (0≤((b:Nat):Int)))&&((decide (((b:Nat):Int)≤((b:Nat):Int)))&&((decide (((b:Nat):Int)≤140737488355328))&&(decide ((((b:Nat):Int)*((4:Nat):Int))≤140737488355328))))) (q0 b d e f 0 0 (List.replicate b (.int .u32 0))) none))))))))
def MK:=(Ae (fun (N:Nat) (o:LA) (p:Nat) (u q:Bool) (r:LA) (s:Nat) (v t:Bool) (r0:Nat→Bool→LA→O R)=>(s6 N r0 (fun b d e f l g c=>(J8 N r0 b d e f N l g c)) o p u q r s v t))).1
theorem Aal (o p u q r s v t r0):(@MK R N o p u q r s v t r0)=(s6 N r0 (fun b d e f l g c=>(J8 N r0 b d e f N l g c)) o p u q r s v t):=by rw[MK,(Ae _).2]
def Ajr:Hints:={ H:=(hS hL (hS hL (hS hL (hS hL (hS hL (hS (hS hL (hS (hP [0,1,6,7,8] (hS hL (hS (hS (hS hL (hJ [0,1,6,8,9] hL hL)) hL) hL))) hL)) hL)))))),nils:=[(4,1)],modes:=[(2,1),(0,0)] }
def Avl:Dg:=[(168,Ajp N),(143,Hj N)]
def Ajs (F:KF R):=Hp Tryz.f123 Ajr (Avl N) [] N F
def T4 (F:KF R):Nat→Bool→LA→O R:=(fun ab ac ad=>F (.tup [(.own 300000 0 ab),(.bool ac)]) (hq [(bQ 1 ad)]))
def A80 (b d:Nat) (e f c:LA) (i m:Int):St:=⟨[(0,(.own 300000 0 b)),(1,(.own 300001 0 d)),(6,(.own 300002 0 b)),(8,(iv i)),(9,(.int .u64 m))],(hq [(bQ 1 e),(bQ 1 f),(bQ 1 c)])⟩
def A81 (F:KF R) (Q0:St→O R):=Ajs N F [1,1,1,1,1,0,1,0,0,1,0,0,1,1] [Q0]
def Ajt (b d:Nat) (e f:LA) (l g:Int) (c:LA):St:=⟨[(0,(.own 300000 0 b)),(1,(.own 300001 0 d)),(6,(.own 300002 0 b)),(7,(.int .u64 l)),(8,(iv g))],(hq [(bQ 1 e),(bQ 1 f),(bQ 1 c)])⟩
def Aju (F:KF R):=Ajs N F [1,1,1,1,1,0,1,0] []
theorem Ar5 (Q0:St→O R) (F:KF R) (b d:Nat) (e f c:LA):∀ (i m:Int),A9 (A81 N F Q0) (A80 b d e f c i m)=(HP N (fun l g c=>Q0 (Ajt b d e f l g c)) (T4 F) b d e f c i m):=by
 intro i m
 kernel_rfl
theorem mU (F:KF R) (b d:Nat) (e f:LA):∀ (n:Nat) (l g:Int) (c:LA),Ap (Aju N F) n (Ajt b d e f l g c)=(J8 N (T4 F) b d e f n l g c)
 | 0,_,_,_=>by kernel_rfl
 | n+1,l,g,c=>have e0:=(funext fun l=>funext fun g=>funext fun c=>(mU F b d e f n l g c))
  Eq.trans (by kernel_rfl) (fQ (MJ N (T4 F) b d e f · · l g c) e0 (funext fun i=>funext fun m=>(Aq ..).trans ((Ar5 N (Ap (Aju N F) n) F b d e f c i m).trans (Bm (HP N · (T4 F) b d e f c i m) e0))):_)
theorem Ajv (o:LA) (p:Nat) (u q:Bool) (r:LA) (s:Nat) (v t:Bool) (F:KF R):Cd (Avl N) Ajr N 123 [(.imm o p 1 u q),(.imm r s 1 v t)] [] F=(MK N o p u q r s v t (T4 F)):=by
 rw[Aal]
 exact Eq.trans (by kernel_rfl) (Bm (s6 N (T4 F) · o p u q r s v t) (funext fun b=>funext fun d=>funext fun e=>funext fun f=>funext fun l=>funext fun g=>funext fun c=>(Ai ..).trans (mU N F b d e f N l g c)):_)
def Aam (a:LA) (h:Ak) (k:KF R):O R :=
 match a,h with
 | [(.imm o p 1 u q),(.imm r s 1 v t)],[]=>(MK N o p u q r s v t (T4 k))
 | _,_=>none
theorem Ajw:An N 123 @Aam:=by
 intro R Q a h k j;unfold Aam;split;exact Ax (Ajv ..) (Ajv ..) ⟨Ajq N,Hk N,trivial⟩;exact Az
def Ajx:=Ay (Ajw N)
def Ajy:=Ca (Ajw N)
def N8 (k1:Nat→Int→LA→LA→O R) (r0:Nat→Nat→Bool→LA→LA→O R) (c:LA) (b:Nat) (e d:Bool) (f:Nat) (i:Int) (g l:LA) (p:Nat) (q:LA):O R :=
 (MK N (q.take (p*1)) p false true (g.take (f*1)) f false true (fun z aa ab=>(cond aa (cond (Ac (wrap .i64 (Int.tdiv i 32)) b) (Ao .u32 (l.drop (0+(((wrap .i64 (Int.tdiv i 32)).toNat)*1))) fun ac=>(cond (decide ((wrap .u64 (Int.tmod i 32))<0)) none (cond (Ac (wrap .i64 (Int.tdiv i 32)) b) (cond ((Nat.beq 1 1)&&((Nat.ble ((0+(((wrap .i64 (Int.tdiv i 32)).toNat)*1))+1) (l.length))&&(!false))) (k1 z (wrap .i64 (i - 1)) (l.set (0+(((wrap .i64 (Int.tdiv i 32)).toNat)*1)) (.int .u32 (Uo .u32 ac (wrap .u32 ((1:Int)*2 ^ (min ((wrap .u64 (Int.tmod i 32)).toNat) 32)))))) ab) none) none))) none) (k1 p (wrap .i64 (i - 1)) l q))))
def Vs (r0:Nat→Nat→Bool→LA→LA→O R) (c:LA) (b:Nat) (e d:Bool) (f:Nat) (g:LA) (k1:Nat→Int→LA→LA→O R) (q2:Nat→LA→O R) (m:Nat) (i:Int) (l o:LA):O R :=
 (cond (decide (i≥0)) (MH N (o.take (m*1)) m false true (o.take (m*1)) m false true (fun w x=>(s5 N c b false d i (fun ad=>(cond (ad==1) (MH N (x.take (w*1)) w false true [(.int .u32 1)] 1 false true (fun ae af=>(q2 ae af))) (q2 w x)))))) (Ep N (l.take (b*1)) b false true (fun ag ah=>(Ep N (o.take (m*1)) m false true (fun ai aj=>(r0 ag ai true ah aj))))))
def F8 (r0:Nat→Nat→Bool→LA→LA→O R) (c:LA) (b:Nat) (e d:Bool) (f:Nat) (g:LA):Nat→Nat→Int→LA→LA→O R
 | 0,_,_,_,_=>none
 | n+1,m,i,l,o=>(Vs N r0 c b e d f g (F8 r0 c b e d f g n) (fun p q=>(N8 N (F8 r0 c b e d f g n) r0 c b e d f i g l p q)) m i l o)
def HQ (r0:Nat→Nat→Bool→LA→LA→O R) (c:LA) (b:Nat) (e d:Bool) (f:Nat) (g:LA) (q1:Nat→Int→LA→LA→O R):O R :=
 (cond ((decide (0≤((b:Nat):Int)))&&((decide (((b:Nat):Int)≤((b:Nat):Int)))&&((decide (((b:Nat):Int)≤140737488355328))&&(decide ((((b:Nat):Int)*((4:Nat):Int))≤140737488355328))))) (SA N c b false d (fun ak=>(q1 0 (wrap .i64 (ak - 1)) (List.replicate b (.int .u32 0)) []))) none)
def Se (r0:Nat→Nat→Bool→LA→LA→O R) (c:LA) (b:Nat) (e d:Bool) (f:Nat) (g:LA):O R:=(HQ N r0 c b e d f g (fun m i l o=>(F8 N r0 c b e d f g N m i l o)))
def ML (r0:Nat→Nat→Bool→LA→LA→O R) (q0:Nat→LA→O R) (c:LA) (b:Nat) (e d:Bool) (r:LA) (s:Nat) (u t:Bool):O R :=
 (Ep N r s false t (fun f g=>(cond (((f:Nat):Int)==0) (r0 0 0 false [] []) (T2 N c b false d (fun y al=>(T2 N (g.take (f*1)) f false true (fun v am=>(cond (al==true) (cond (cond true am false) (cond (v==0) none (Gh N (wrap .u64 (Int.tdiv y v)) (fun an ao=>(cond (v==0) none (Gh N (Int.tmod y v) (fun ap aq=>(r0 an ap true ao aq))))))) (q0 f g)) (q0 f g)))))))))
def T5:=(Ae (fun (N:Nat) (c:LA) (b:Nat) (e d:Bool) (r:LA) (s:Nat) (u t:Bool) (r0:Nat→Nat→Bool→LA→LA→O R)=>(ML N r0 (fun f g=>(Se N r0 c b e d f g)) c b e d r s u t))).1
theorem f7 (c b e d r s u t r0):(@T5 R N c b e d r s u t r0)=(ML N r0 (fun f g=>(Se N r0 c b e d f g)) c b e d r s u t):=by rw[T5,(Ae _).2]
def mV:Hints:={ H:=(hS hL (hS hL (hS hL (hS hL (hJ [0,1,5] hL (hS hL (hS (hS hL (hS (hP [0,1,4,5,11] (hS hL (hS (hS (hS hL (hJ [0,1,4,5,11] hL hL)) hL) hL))) hL)) hL))))))),nils:=[(4,1),(5,1)],modes:=[(2,1),(2,1),(0,0)] }
def s7:Dg:=[(143,Hj N),(178,Ar2 N),(94,MD N),(179,A4j N),(122,Ajg N),(180,A8y N),(123,Ajx N)]
def QF (F:KF R):=Hp Tryz.f140 mV (s7 N) [] N F
def F9 (F:KF R):Nat→Nat→Bool→LA→LA→O R:=(fun ar au av aw ax=>F (.tup [(.own 300000 0 ar),(.own 300001 0 au),(.bool av)]) (hq [(bQ 1 aw),(bQ 1 ax)]))
def Ar6 (c:LA) (b:Nat) (e d:Bool) (f:Nat) (i:Int) (g l:LA) (p:Nat) (q:LA):St:=⟨[(0,(.imm c b 1 e d)),(1,(.own 300000 0 f)),(4,(.own 300001 0 b)),(5,(.own 300002 0 p)),(11,(iv i))],(hq [(bQ 1 g),(bQ 1 l),(bQ 1 q)])⟩
def Ar7 (F:KF R) (Q1:St→O R):=QF N F [1,1,1,1,1,1,0,1,0,0,1,0,0,1,1] [Q1]
def mW (c:LA) (b:Nat) (e d:Bool) (f:Nat) (g:LA) (m:Nat) (i:Int) (l o:LA):St:=⟨[(0,(.imm c b 1 e d)),(1,(.own 300000 0 f)),(4,(.own 300001 0 b)),(5,(.own 300002 0 m)),(11,(iv i))],(hq [(bQ 1 g),(bQ 1 l),(bQ 1 o)])⟩
def mX (F:KF R):=QF N F [1,1,1,1,1,1,0,1,0] []
def Ar8 (c:LA) (b:Nat) (e d:Bool) (f:Nat) (g:LA):St:=⟨[(0,(.imm c b 1 e d)),(1,(.own 300000 0 f)),(5,(.own 300001 0 0))],(hq [(bQ 1 g),(bQ 1 [])])⟩
def Ar9 (F:KF R):=QF N F [1,1,1,1,1] []
theorem xa (Q1:St→O R) (F:KF R) (c:LA) (b:Nat) (e d:Bool) (f:Nat) (i:Int) (g l:LA):∀ (p:Nat) (q:LA),A9 (Ar7 N F Q1) (Ar6 c b e d f i g l p q)=(N8 N (fun m i l o=>Q1 (mW c b e d f g m i l o)) (F9 F) c b e d f i g l p q):=by
 intro p q
 kernel_rfl
theorem SB (F:KF R) (c:LA) (b:Nat) (e d:Bool) (f:Nat) (g:LA):∀ (n m:Nat) (i:Int) (l o:LA),Ap (mX N F) n (mW c b e d f g m i l o)=(F8 N (F9 F) c b e d f g n m i l o)
 | 0,_,_,_,_=>by kernel_rfl
 | n+1,m,i,l,o=>have e0:=(funext fun m=>funext fun i=>funext fun l=>funext fun o=>(SB F c b e d f g n m i l o))
  Eq.trans (by kernel_rfl) (fQ (Vs N (F9 F) c b e d f g · · m i l o) e0 (funext fun p=>funext fun q=>(Aq ..).trans ((xa N (Ap (mX N F) n) F c b e d f i g l p q).trans (Bm (N8 N · (F9 F) c b e d f i g l p q) e0))):_)
theorem xb (F:KF R) (c:LA) (b:Nat) (e d:Bool) (f:Nat) (g:LA):A9 (Ar9 N F) (Ar8 c b e d f g)=(Se N (F9 F) c b e d f g):=by
 exact Eq.trans (by kernel_rfl) (Bm (HQ N (F9 F) c b e d f g ·) (funext fun m=>funext fun i=>funext fun l=>funext fun o=>(Ai ..).trans (SB N F c b e d f g N m i l o)):_)
theorem mY (c:LA) (b:Nat) (e d:Bool) (r:LA) (s:Nat) (u t:Bool) (F:KF R):Cd (s7 N) mV N 140 [(.imm c b 1 e d),(.imm r s 1 u t)] [] F=(T5 N c b e d r s u t (F9 F)):=by
 rw[f7]
 exact Eq.trans (by kernel_rfl) (Bm (ML N (F9 F) · c b e d r s u t) (funext fun f=>funext fun g=>(Aq ..).trans (xb N F c b e d f g)):_)
def f8 (a:LA) (h:Ak) (k:KF R):O R :=
 match a,h with
 | [(.imm c b 1 e d),(.imm r s 1 u t)],[]=>(T5 N c b e d r s u t (F9 k))
 | _,_=>none
theorem mZ:An N 140 @f8:=by
 intro R Q a h k j;unfold f8;split;exact Ax (mY ..) (mY ..) ⟨Hk N,Ar3 N,ME N,A4k N,Ajh N,A8z N,Ajy N,trivial⟩;exact Az
def m7:=Ay (mZ N)
def m8:=Ca (mZ N)
def Uq (r0:Nat→LA→O R) (k0:Nat→Nat→LA→LA→O R) (c b:Nat) (d e:LA):O R :=
 (cond (decide (((b:Nat):Int)>0)) (T5 N (d.take (c*1)) c false true (e.take (b*1)) b false true (fun z r aa ab s=>(k0 b r e s))) (r0 c d))
def E7 (r0:Nat→LA→O R):Nat→Nat→Nat→LA→LA→O R
 | 0,_,_,_,_=>none
 | n+1,c,b,d,e=>(Uq N r0 (E7 r0 n) c b d e)
def s8 (r0:Nat→LA→O R) (q0:Nat→Nat→LA→LA→O R) (f:LA) (g:Nat) (p i:Bool) (l:LA) (m:Nat) (q o:Bool):O R :=
 (Ep N f g false i (fun t u=>(Ep N l m false o (fun v w=>(q0 t v u w)))))
def k8:=(Ae (fun (N:Nat) (f:LA) (g:Nat) (p i:Bool) (l:LA) (m:Nat) (q o:Bool) (r0:Nat→LA→O R)=>(s8 N r0 (fun c b d e=>(E7 N r0 N c b d e)) f g p i l m q o))).1
theorem Aan (f g p i l m q o r0):(@k8 R N f g p i l m q o r0)=(s8 N r0 (fun c b d e=>(E7 N r0 N c b d e)) f g p i l m q o):=by rw[k8,(Ae _).2]
def Ajz:Hints:={ H:=(hS hL (hS hL (hS (hS (hP [0,1] hL) hL) hL))),nils:=[(4,1)],modes:=[(2,1)] }
def Avm:Dg:=[(143,Hj N),(140,m7 N)]
def A82 (F:KF R):=Hp Tryz.f139 Ajz (Avm N) [] N F
def HR (F:KF R):Nat→LA→O R:=(fun x y=>F (.own 300000 0 x) (hq [(bQ 1 y)]))
def A83 (c b:Nat) (d e:LA):St:=⟨[(0,(.own 300000 0 c)),(1,(.own 300001 0 b))],(hq [(bQ 1 d),(bQ 1 e)])⟩
def A84 (F:KF R):=A82 N F [1,1,0,0] []
theorem m9 (F:KF R):∀ (n:Nat) (c b:Nat) (d e:LA),Ap (A84 N F) n (A83 c b d e)=(E7 N (HR F) n c b d e)
 | 0,_,_,_,_=>by kernel_rfl
 | n+1,c,b,d,e=>Eq.trans (by kernel_rfl) (Bm (Uq N (HR F) · c b d e) (funext fun c=>funext fun b=>funext fun d=>funext fun e=>(m9 F n c b d e)):_)
theorem Aj0 (f:LA) (g:Nat) (p i:Bool) (l:LA) (m:Nat) (q o:Bool) (F:KF R):Cd (Avm N) Ajz N 139 [(.imm f g 1 p i),(.imm l m 1 q o)] [] F=(k8 N f g p i l m q o (HR F)):=by
 rw[Aan]
 exact Eq.trans (by kernel_rfl) (Bm (s8 N (HR F) · f g p i l m q o) (funext fun c=>funext fun b=>funext fun d=>funext fun e=>(Ai ..).trans (m9 N F N c b d e)):_)
def Aao (a:LA) (h:Ak) (k:KF R):O R :=
 match a,h with
 | [(.imm f g 1 p i),(.imm l m 1 q o)],[]=>(k8 N f g p i l m q o (HR k))
 | _,_=>none
theorem Aj1:An N 139 @Aao:=by
 intro R Q a h k j;unfold Aao;split;exact Ax (Aj0 ..) (Aj0 ..) ⟨Hk N,m8 N,trivial⟩;exact Az
def A85:=Ay (Aj1 N)
def A86:=Ca (Aj1 N)
def Aj2 (b:LA) (c:Bool) (d:LA) (e:Bool) (r0:LA→O R):O R :=
 (B9 1 (b.drop 1) fun i l=>(B9 1 (d.drop 1) fun m n=>(k8 N i l false c m n false e (fun g o=>(Ha N false (o.take (g*1)) g false true (fun f=>(cond ((Nat.beq 0 0)&&((Nat.beq (f.length) 2)&&(Nat.beq 2 2))) (cond (Nat.ble 2 (f.length)) (r0 (f.take 2)) none) none)))))))
def s9:=(Ae (@Aj2 R)).1
theorem Aap:@s9 R=@Aj2 R:=(Ae _).2
def Bds:Dg:=[(139,A85 N),(93,Lv N)]
def Aj3 (F:KF R):LA→O R:=(fun p=>F (.pagg p false) [])
theorem Aj4 (b:LA) (c:Bool) (d:LA) (e:Bool) (F:KF R):Cd (Bds N) Lu N 90 [(.pagg b c),(.pagg d e)] [] F=(s9 N b c d e (Aj3 F)):=by
 rw[Aap]
 kernel_rfl
def Aaq (a:LA) (h:Ak) (k:KF R):O R :=
 match a,h with
 | [(.pagg b c),(.pagg d e)],[]=>(s9 N b c d e (Aj3 k))
 | _,_=>none
theorem Aj5:An N 90 @Aaq:=by
 intro R Q a h k j;unfold Aaq;split;exact Ax (Aj4 ..) (Aj4 ..) ⟨A86 N,Lw N,trivial⟩;exact Az
def A87:=Ay (Aj5 N)
def A88:=Ca (Aj5 N)
def A4l (b:LA) (c:Bool) (r0:LA→O R):O R :=
 (B9 1 (b.drop 1) fun e f=>(Ha N false e f false c (fun d=>(cond ((Nat.beq 0 0)&&((Nat.beq (d.length) 2)&&(Nat.beq 2 2))) (cond (Nat.ble 2 (d.length)) (r0 (d.take 2)) none) none))))
def Aho:=(Ae (@A4l R)).1
theorem A4m:@Aho R=@A4l R:=(Ae _).2
def Bdt:Dg:=[(93,Lv N)]
def Aj6 (F:KF R):LA→O R:=(fun g=>F (.pagg g false) [])
theorem Aj7 (b:LA) (c:Bool) (F:KF R):Cd (Bdt N) Lu N 141 [(.pagg b c)] [] F=(Aho N b c (Aj6 F)):=by
 rw[A4m]
 kernel_rfl
def Aar (a:LA) (h:Ak) (k:KF R):O R :=
 match a,h with
 | [(.pagg b c)],[]=>(Aho N b c (Aj6 k))
 | _,_=>none
theorem Aj8:An N 141 @Aar:=by
 intro R Q a h k j;unfold Aar;split;exact Ax (Aj7 ..) (Aj7 ..) ⟨Lw N,trivial⟩;exact Az
def A89:=Ay (Aj8 N)
def A9a:=Ca (Aj8 N)
def Aj9 (b:LA) (d:Bool) (c:LA) (e:Bool) (r0:LA→O R):O R :=
 (RW b fun o=>(RW c fun p=>(cond (o==p) (RW b fun q=>(B9 1 (b.drop 1) fun r s=>(B9 1 (c.drop 1) fun t u=>(MH N r s false d t u false e (fun l v=>(Ha N q (v.take (l*1)) l false true (fun f=>(cond ((Nat.beq 0 0)&&((Nat.beq (f.length) 2)&&(Nat.beq 2 2))) (cond (Nat.ble 2 (f.length)) (r0 (f.take 2)) none) none)))))))) (B9 1 (b.drop 1) fun w x=>(B9 1 (c.drop 1) fun y z=>(MK N w x false d y z false e (fun m aa ab=>(cond aa (RW b fun ac=>(Ha N ac (ab.take (m*1)) m false true (fun g=>(cond ((Nat.beq 0 0)&&((Nat.beq (g.length) 2)&&(Nat.beq 2 2))) (cond (Nat.ble 2 (g.length)) (r0 (g.take 2)) none) none)))) (B9 1 (c.drop 1) fun ad ae=>(B9 1 (b.drop 1) fun af ag=>(MK N ad ae false e af ag false d (fun n ak ah=>(RW c fun ai=>(Ha N ai (ah.take (n*1)) n false true (fun i=>(cond ((Nat.beq 0 0)&&((Nat.beq (i.length) 2)&&(Nat.beq 2 2))) (cond (Nat.ble 2 (i.length)) (r0 (i.take 2)) none) none))))))))))))))))
def EY:=(Ae (@Aj9 R)).1
theorem Aas:@EY R=@Aj9 R:=(Ae _).2
def Bdu:Dg:=[(122,Ajg N),(93,Lv N),(123,Ajx N)]
def Aka (F:KF R):LA→O R:=(fun aj=>F (.pagg aj false) [])
theorem Akb (b:LA) (d:Bool) (c:LA) (e:Bool) (F:KF R):Cd (Bdu N) Lu N 71 [(.pagg b d),(.pagg c e)] [] F=(EY N b d c e (Aka F)):=by
 rw[Aas]
 kernel_rfl
def Aat (a:LA) (h:Ak) (k:KF R):O R :=
 match a,h with
 | [(.pagg b d),(.pagg c e)],[]=>(EY N b d c e (Aka k))
 | _,_=>none
theorem Akc:An N 71 @Aat:=by
 intro R Q a h k j;unfold Aat;split;exact Ax (Akb ..) (Akb ..) ⟨Ajh N,Lw N,Ajy N,trivial⟩;exact Az
def qD:=Ay (Akc N)
def qF:=Ca (Akc N)
def Akd (b:LA) (c:Bool) (r0:LA→O R):O R :=
 (RW b fun e=>(B9 1 (b.drop 1) fun f g=>(Ha N (!e) f g false c (fun d=>(cond ((Nat.beq 0 0)&&((Nat.beq (d.length) 2)&&(Nat.beq 2 2))) (cond (Nat.ble 2 (d.length)) (r0 (d.take 2)) none) none)))))
def EZ:=(Ae (@Akd R)).1
theorem Aau:@EZ R=@Akd R:=(Ae _).2
def Bdv:Dg:=[(93,Lv N)]
def Ake (F:KF R):LA→O R:=(fun i=>F (.pagg i false) [])
theorem Akf (b:LA) (c:Bool) (F:KF R):Cd (Bdv N) Lu N 92 [(.pagg b c)] [] F=(EZ N b c (Ake F)):=by
 rw[Aau]
 kernel_rfl
def Aav (a:LA) (h:Ak) (k:KF R):O R :=
 match a,h with
 | [(.pagg b c)],[]=>(EZ N b c (Ake k))
 | _,_=>none
theorem Akg:An N 92 @Aav:=by
 intro R Q a h k j;unfold Aav;split;exact Ax (Akf ..) (Akf ..) ⟨Lw N,trivial⟩;exact Az
def qG:=Ay (Akg N)
def qH:=Ca (Akg N)
def A4n (b:LA) (d:Bool) (c:LA) (e:Bool) (r0:LA→O R):O R :=
 (cond (Nat.ble 2 (b.length)) (cond (Nat.ble 2 (c.length)) (EZ N (c.take 2) e (fun g=>(EY N (b.take 2) d g false (fun f=>(cond ((Nat.beq 0 0)&&((Nat.beq (f.length) 2)&&(Nat.beq 2 2))) (cond (Nat.ble 2 (f.length)) (r0 (f.take 2)) none) none))))) none) none)
def Ahp:=(Ae (@A4n R)).1
theorem A4o:@Ahp R=@A4n R:=(Ae _).2
def Bdw:Dg:=[(92,qG N),(71,qD N)]
def Akh (F:KF R):LA→O R:=(fun i=>F (.pagg i false) [])
theorem Aki (b:LA) (d:Bool) (c:LA) (e:Bool) (F:KF R):Cd (Bdw N) Lu N 142 [(.pagg b d),(.pagg c e)] [] F=(Ahp N b d c e (Akh F)):=by
 rw[A4o]
 kernel_rfl
def Aaw (a:LA) (h:Ak) (k:KF R):O R :=
 match a,h with
 | [(.pagg b d),(.pagg c e)],[]=>(Ahp N b d c e (Akh k))
 | _,_=>none
theorem Akj:An N 142 @Aaw:=by
 intro R Q a h k j;unfold Aaw;split;exact Ax (Aki ..) (Aki ..) ⟨qH N,qF N,trivial⟩;exact Az
def A9b:=Ay (Akj N)
def A9c:=Ca (Akj N)
def f_ (f:LA) (m:Bool) (e:LA) (l:Bool) (r0:LA→LA→Bool→O R):O R :=
 (B9 1 (f.drop 1) fun p q=>(B9 1 (e.drop 1) fun r s=>(T5 N p q false m r s false l (fun n o t u v=>(cond (!t) (r0 [(.bool false),.nsl] [(.bool false),.nsl] false) (RW f fun w=>(RW e fun x=>(Ha N (!(w==x)) (u.take (n*1)) n false true (fun b=>(RW f fun y=>(Ha N y (v.take (o*1)) o false true (fun c=>(cond ((Nat.beq 0 0)&&((Nat.beq (b.length) 2)&&(Nat.beq 2 2))) (cond ((Nat.beq 0 0)&&((Nat.beq (c.length) 2)&&(Nat.beq 2 2))) (RW c fun z=>(cond z (cond (Nat.ble 2 (c.length)) (cond (Nat.ble 2 (e.length)) (Aho N (e.take 2) l (fun aa=>(EY N (c.take 2) false aa false (fun d=>(cond ((Nat.beq (d.length) 2)&&((Nat.ble 2 (c.length))&&(!false))) (RW e fun ab=>(cond ab (cond (Nat.ble 2 (b.length)) (Hl N 1 (fun ac=>(EY N (b.take 2) false ac false (fun g=>(cond ((Nat.beq (g.length) 2)&&((Nat.ble 2 (b.length))&&(!false))) (cond (Nat.ble 2 ((setCells b 0 g).length)) (cond (Nat.ble 2 ((setCells c 0 d).length)) (cond ((Nat.beq (((setCells b 0 g).take 2).length) 2)&&((Nat.ble 2 ((setCells b 0 g).length))&&(!false))) (cond ((Nat.beq (((setCells c 0 d).take 2).length) 2)&&((Nat.ble 2 ((setCells c 0 d).length))&&(!false))) (cond (Nat.ble 2 ((setCells (setCells b 0 g) 0 ((setCells b 0 g).take 2)).length)) (cond (Nat.ble 2 ((setCells (setCells c 0 d) 0 ((setCells c 0 d).take 2)).length)) (r0 ((setCells (setCells b 0 g) 0 ((setCells b 0 g).take 2)).take 2) ((setCells (setCells c 0 d) 0 ((setCells c 0 d).take 2)).take 2) true) none) none) none) none) none) none) none))))) none) (cond (Nat.ble 2 (b.length)) (Hl N 1 (fun ad=>(Ahp N (b.take 2) false ad false (fun i=>(cond ((Nat.beq (i.length) 2)&&((Nat.ble 2 (b.length))&&(!false))) (cond (Nat.ble 2 ((setCells b 0 i).length)) (cond (Nat.ble 2 ((setCells c 0 d).length)) (cond ((Nat.beq (((setCells b 0 i).take 2).length) 2)&&((Nat.ble 2 ((setCells b 0 i).length))&&(!false))) (cond ((Nat.beq (((setCells c 0 d).take 2).length) 2)&&((Nat.ble 2 ((setCells c 0 d).length))&&(!false))) (cond (Nat.ble 2 ((setCells (setCells b 0 i) 0 ((setCells b 0 i).take 2)).length)) (cond (Nat.ble 2 ((setCells (setCells c 0 d) 0 ((setCells c 0 d).take 2)).length)) (r0 ((setCells (setCells b 0 i) 0 ((setCells b 0 i).take 2)).take 2) ((setCells (setCells c 0 d) 0 ((setCells c 0 d).take 2)).take 2) true) none) none) none) none) none) none) none))))) none))) none))))) none) none) (cond (Nat.ble 2 (b.length)) (cond (Nat.ble 2 (c.length)) (cond ((Nat.beq ((b.take 2).length) 2)&&((Nat.ble 2 (b.length))&&(!false))) (cond ((Nat.beq ((c.take 2).length) 2)&&((Nat.ble 2 (c.length))&&(!false))) (cond (Nat.ble 2 ((setCells b 0 (b.take 2)).length)) (cond (Nat.ble 2 ((setCells c 0 (c.take 2)).length)) (r0 ((setCells b 0 (b.take 2)).take 2) ((setCells c 0 (c.take 2)).take 2) true) none) none) none) none) none) none))) none) none)))))))))))))
def X4:=(Ae (@f_ R)).1
theorem fa:@X4 R=@f_ R:=(Ae _).2
def Asa:Hints:={ H:=hL,modes:=[(3,0),(3,0),(0,0)] }
def Azk:Dg:=[(140,m7 N),(93,Lv N),(141,A89 N),(71,qD N),(55,HJ N),(142,A9b N)]
def m_ (F:KF R):LA→LA→Bool→O R:=(fun ae af ag=>F (.tup [(.pagg ae false),(.pagg af false),(.bool ag)]) [])
theorem mb (f:LA) (m:Bool) (e:LA) (l:Bool) (F:KF R):Cd (Azk N) Asa N 91 [(.pagg f m),(.pagg e l)] [] F=(X4 N f m e l (m_ F)):=by
 rw[fa]
 kernel_rfl
def fb (a:LA) (h:Ak) (k:KF R):O R :=
 match a,h with
 | [(.pagg f m),(.pagg e l)],[]=>(X4 N f m e l (m_ k))
 | _,_=>none
theorem md:An N 91 @fb:=by
 intro R Q a h k j;unfold fb;split;exact Ax (mb ..) (mb ..) ⟨m8 N,Lw N,A9a N,qF N,HK N,A9c N,trivial⟩;exact Az
def Asb:=Ay (md N)
def Asc:=Ca (md N)
end
end Gx

namespace Gx
open Go Go.Proofs
open IntKind (wrap)
set_option maxRecDepth 100000
noncomputable section
variable {R:Type} (N:Nat)
def MM (r0:LA→O R) (e:Bool) (c:LA) (d:Bool) (b:LA):O R :=
 (cond (Nat.ble 2 (c.length)) (cond (Nat.ble 2 (b.length)) (s9 N (c.take 2) e (b.take 2) d (fun l=>(cond ((Nat.beq 0 0)&&((Nat.beq (l.length) 2)&&(Nat.beq 2 2))) (cond (Nat.ble 2 (c.length)) (cond (Nat.ble 2 (l.length)) (X4 N (c.take 2) e (l.take 2) false (fun f w af=>(cond ((Nat.beq 0 0)&&((Nat.beq (f.length) 2)&&(Nat.beq 2 2))) (cond ((Nat.beq 0 0)&&((Nat.beq (w.length) 2)&&(Nat.beq 2 2))) (cond (Nat.ble 2 (b.length)) (cond (Nat.ble 2 (l.length)) (X4 N (b.take 2) d (l.take 2) false (fun g x ag=>(cond ((Nat.beq 0 0)&&((Nat.beq (g.length) 2)&&(Nat.beq 2 2))) (cond ((Nat.beq 0 0)&&((Nat.beq (x.length) 2)&&(Nat.beq 2 2))) (RW g fun y=>(cond y (cond (Nat.ble 2 (f.length)) (EZ N (f.take 2) false (fun i=>(cond (Nat.ble 2 (g.length)) (EZ N (g.take 2) false (fun v=>(cond ((Nat.beq (i.length) 2)&&((Nat.ble 2 (f.length))&&(!false))) (cond ((Nat.beq (v.length) 2)&&((Nat.ble 2 (g.length))&&(!false))) (cond (Nat.ble 2 ((setCells f 0 i).length)) (B9 1 ((setCells g 0 v).drop 1) fun o p=>(cond ((Nat.beq (((setCells f 0 i).take 2).length) 2)&&(Nat.ble 2 3)) (cond ((Nat.beq 1 1)&&(Nat.ble 3 ((setCells [(.bool false),.nsl,.nsl] 0 ((setCells f 0 i).take 2)).length))) (cond ((Nat.beq 0 0)&&((Nat.beq (((setCells [(.bool false),.nsl,.nsl] 0 ((setCells f 0 i).take 2)).set 2 (.imm o p 1 false false)).length) 3)&&(Nat.beq 3 3))) (cond (Nat.ble 3 (((setCells [(.bool false),.nsl,.nsl] 0 ((setCells f 0 i).take 2)).set 2 (.imm o p 1 false false)).length)) (r0 (((setCells [(.bool false),.nsl,.nsl] 0 ((setCells f 0 i).take 2)).set 2 (.imm o p 1 false false)).take 3)) none) none) none) none)) none) none) none))) none))) none) (cond (Nat.ble 2 (f.length)) (B9 1 (g.drop 1) fun q r=>(cond ((Nat.beq ((f.take 2).length) 2)&&(Nat.ble 2 3)) (cond ((Nat.beq 1 1)&&(Nat.ble 3 ((setCells [(.bool false),.nsl,.nsl] 0 (f.take 2)).length))) (cond ((Nat.beq 0 0)&&((Nat.beq (((setCells [(.bool false),.nsl,.nsl] 0 (f.take 2)).set 2 (.imm q r 1 false false)).length) 3)&&(Nat.beq 3 3))) (cond (Nat.ble 3 (((setCells [(.bool false),.nsl,.nsl] 0 (f.take 2)).set 2 (.imm q r 1 false false)).length)) (r0 (((setCells [(.bool false),.nsl,.nsl] 0 (f.take 2)).set 2 (.imm q r 1 false false)).take 3)) none) none) none) none)) none))) none) none))) none) none) none) none))) none) none) none))) none) none)
def k_ (r0:LA→O R) (q0:O R) (c:LA) (e:Bool) (b:LA) (d:Bool):O R :=
 (cond (Nat.ble 2 (b.length)) (HM N (b.take 2) d (fun z=>(cond (z==0) (HN N (fun s=>(cond ((Nat.beq 0 0)&&((Nat.beq (s.length) 3)&&(Nat.beq 3 3))) (cond (Nat.ble 3 (s.length)) (r0 (s.take 3)) none) none))) (cond (Nat.ble 2 (b.length)) (HL N (b.take 2) d (fun n=>(cond ((Nat.beq 0 0)&&((Nat.beq (n.length) 2)&&(Nat.beq 2 2))) (RW n fun aa=>(cond ((!aa)==true) (B9 1 (n.drop 1) fun ab ac=>(GF N ab ac false false [(.int .u32 1)] 1 false true (fun ad=>(cond (cond true ad false) (cond (Nat.ble 2 (c.length)) (HL N (c.take 2) e (fun m=>(B9 1 (n.drop 1) fun t u=>(cond ((Nat.beq (m.length) 2)&&(Nat.ble 2 3)) (cond ((Nat.beq 1 1)&&(Nat.ble 3 ((setCells [(.bool false),.nsl,.nsl] 0 m).length))) (cond ((Nat.beq 0 0)&&((Nat.beq (((setCells [(.bool false),.nsl,.nsl] 0 m).set 2 (.imm t u 1 false false)).length) 3)&&(Nat.beq 3 3))) (cond (Nat.ble 3 (((setCells [(.bool false),.nsl,.nsl] 0 m).set 2 (.imm t u 1 false false)).length)) (r0 (((setCells [(.bool false),.nsl,.nsl] 0 m).set 2 (.imm t u 1 false false)).take 3)) none) none) none) none)))) none) q0)))) q0)) none))) none)))) none)
def Np:=(Ae (fun (N:Nat) (c:LA) (e:Bool) (b:LA) (d:Bool) (r0:LA→O R)=>(k_ N r0 (MM N r0 e c d b) c e b d))).1
theorem s_ (c e b d r0):(@Np R N c e b d r0)=(k_ N r0 (MM N r0 e c d b) c e b d):=by rw[Np,(Ae _).2]
def Aax:Hints:={ H:=(hS hL (hS hL (hJ [2,3,4] hL hL))),modes:=[(3,0)] }
def Akk:Dg:=[(75,zy N),(41,fV N),(88,zs N),(89,Azi N),(90,A87 N),(91,Asb N),(92,qG N)]
def A4p (F:KF R):=Hp Tryz.f54 Aax (Akk N) [] N F
def MN (F:KF R):LA→O R:=(fun ae=>F (.pagg ae false) [])
def A4q (e:Bool) (c:LA) (d:Bool) (b:LA):St:=⟨[(2,(op 0)),(3,(op 1)),(4,(op 2))],(hq [(bP e 0 c),(bP d 0 b),⟨false,false,false,false,0,[(.bool false),.nsl,.nsl],false⟩])⟩
def A4r (F:KF R):=A4p N F [1,1,1] []
theorem Akl (F:KF R) (e:Bool) (c:LA) (d:Bool) (b:LA):A9 (A4r N F) (A4q e c d b)=(MM N (MN F) e c d b):=by
 kernel_rfl
theorem Aay (c:LA) (e:Bool) (b:LA) (d:Bool) (F:KF R):Cd (Akk N) Aax N 54 [(.pagg c e),(.pagg b d)] [] F=(Np N c e b d (MN F)):=by
 rw[s_]
 exact Eq.trans (by kernel_rfl) (Bm (k_ N (MN F) · c e b d) ((Aq ..).trans (Akl N F e c d b)):_)
def sa (a:LA) (h:Ak) (k:KF R):O R :=
 match a,h with
 | [(.pagg c e),(.pagg b d)],[]=>(Np N c e b d (MN k))
 | _,_=>none
theorem Aaz:An N 54 @sa:=by
 intro R Q a h k j;unfold sa;split;exact Ax (Aay ..) (Aay ..) ⟨Aaa N,fW N,zt N,Azj N,A88 N,Asc N,qH N,trivial⟩;exact Az
def Ur:=Ay (Aaz N)
def Us:=Ca (Aaz N)
def XA (b:Int) (r0:LA→O R):O R :=
 (Hl N b (fun d=>(Hl N 1 (fun e=>(Np N d false e false (fun c=>(cond ((Nat.beq 0 0)&&((Nat.beq (c.length) 3)&&(Nat.beq 3 3))) (cond (Nat.ble 3 (c.length)) (r0 (c.take 3)) none) none)))))))
def Be:=(Ae (@XA R)).1
theorem a8:@Be R=@XA R:=(Ae _).2
def Asd:Dg:=[(55,HJ N),(54,Ur N)]
def fc (F:KF R):LA→O R:=(fun f=>F (.pagg f false) [])
theorem fe (b:Int) (F:KF R):Cd (Asd N) Lu N 20 [(iv b)] [] F=(Be N b (fc F)):=by
 rw[a8]
 kernel_rfl
def a9 (a:LA) (h:Ak) (k:KF R):O R :=
 match a,h with
 | [(.int .i64 b)],[]=>(Be N b (fc k))
 | _,_=>none
theorem ff:An N 20 @a9:=by
 intro R Q a h k j;unfold a9;split;exact Ax (fe ..) (fe ..) ⟨HK N,Us N,trivial⟩;exact Az
def Gj:=Ay (ff N)
def Gk:=Ca (ff N)
def XB (N:Nat) (r0:Nat→O R) (b:Nat) (c:LA) (k0:Int→O R) (d:Int):O R :=
 (cond ((decide (d>0))==true) (cond (Ac (wrap .i64 (d - 1)) b) (Ao .u32 (c.drop (0+(((wrap .i64 (d - 1)).toNat)*1))) fun e=>(cond (cond true (e==0) false) (k0 (wrap .i64 (d - 1))) (cond ((decide ((0:Int)≤(0:Int)))&&((decide (0≤d))&&((decide (d≤((b:Nat):Int)))&&(decide (((b:Nat):Int)≤((b:Nat):Int)))))) (r0 (d.toNat)) none))) none) (cond ((decide ((0:Int)≤(0:Int)))&&((decide (0≤d))&&((decide (d≤((b:Nat):Int)))&&(decide (((b:Nat):Int)≤((b:Nat):Int)))))) (r0 (d.toNat)) none))
def X5 (r0:Nat→O R) (b:Nat) (c:LA):Nat→Int→O R
 | 0,_=>none
 | n+1,d=>(XB N r0 b c (X5 r0 b c n) d)
def sb (N:Nat) (r0:Nat→O R) (q0:Int→O R) (b:Nat) (c:LA):O R :=
 (q0 ((b:Nat):Int))
def X6:=(Ae (fun (N b:Nat) (c:LA) (r0:Nat→O R)=>(sb N r0 (fun d=>(X5 N r0 b c N d)) b c))).1
theorem qI (b c r0):(@X6 R N b c r0)=(sb N r0 (fun d=>(X5 N r0 b c N d)) b c):=by rw[X6,(Ae _).2]
def Bdx (F:KF R):=Hp Tryz.f171 zj [] [100000] N F
def GG (c:LA) (F:KF R):Nat→O R:=(fun f=>F (.own 100000 0 f) [(100000,(bQ 1 c))])
def Bdy (b:Nat) (c:LA) (d:Int):St:=⟨[(0,(.own 100000 0 b)),(3,(iv d))],[(100000,(bQ 1 c))]⟩
def Bdz (F:KF R):=Bdx N F [1,1,0,0] []
theorem se (F:KF R) (b:Nat) (c:LA):∀ (n:Nat) (d:Int),Ap (Bdz N F) n (Bdy b c d)=(X5 N (GG c F) b c n d)
 | 0,_=>by kernel_rfl
 | n+1,d=>Eq.trans (by kernel_rfl) (Bm (XB N (GG c F) b c · d) (funext fun d=>(se F b c n d)):_)
theorem kc (b:Nat) (c:LA) (F:KF R):Cd [] zj N 171 [(.own 100000 0 b)] [(100000,(bQ 1 c))] F=(X6 N b c (GG c F)):=by
 rw[qI]
 exact Eq.trans (by kernel_rfl) (Bm (sb N (GG c F) · b c) (funext fun d=>(Ai ..).trans (se N F b c N d)):_)
def Akm (a:LA) (h:Ak) (k:KF R):O R :=
 match a,h with
 | [(.own 100000 0 b)],[(100000,⟨false,false,true,false,1,c,false⟩)]=>(X6 N b c (GG c k))
 | _,_=>none
theorem Avn:An N 171 @Akm:=by
 intro R Q a h k j;unfold Akm;split;exact Ax (kc ..) (kc ..) trivial;exact Az
def xc:=Ay (Avn N)
def xd:=Ca (Avn N)
def HS (b:Int) (r0:Nat→LA→O R):O R :=
 (X6 N 2 [(.int .u32 (wrap .u32 b)),(.int .u32 (wrap .u32 (Int.fdiv b (2 ^ 32))))] (fun c=>(r0 c [(.int .u32 (wrap .u32 b)),(.int .u32 (wrap .u32 (Int.fdiv b (2 ^ 32))))])))
def Ck:=(Ae (@HS R)).1
theorem MO:@Ck R=@HS R:=(Ae _).2
def Afd:Dg:=[(171,xc N)]
def SC (F:KF R):Nat→LA→O R:=(fun d e=>F (.own 300000 0 d) (hq [(bQ 1 e)]))
theorem SD (b:Int) (F:KF R):Cd (Afd N) Bg9 N 149 [(.int .u64 b)] [] F=(Ck N b (SC F)):=by
 rw[MO]
 kernel_rfl
def MP (a:LA) (h:Ak) (k:KF R):O R :=
 match a,h with
 | [(.int .u64 b)],[]=>(Ck N b (SC k))
 | _,_=>none
theorem SE:An N 149 @MP:=by
 intro R Q a h k j;unfold MP;split;exact Ax (SD ..) (SD ..) ⟨xd N,trivial⟩;exact Az
def Hq:=Ay (SE N)
def Hr:=Ca (SE N)
def qJ (N:Nat) (d:Bool) (b:Nat) (c:LA) (r0:Bool→O R):O R :=
 (cond (d==true) (r0 (cond true (decide (((b:Nat):Int)>0)) false)) (r0 false))
def Kz:=(Ae (@qJ R)).1
theorem mf:@Kz R=@qJ R:=(Ae _).2
def sf (b:Nat) (c:LA) (F:KF R):Bool→O R:=(fun e=>F (.agg [(.bool e),(.own 100000 0 b)]) [(100000,(bQ 1 c))])
theorem sh (d:Bool) (b:Nat) (c:LA) (F:KF R):Cd [] C6 N 148 [(.bool d),(.own 100000 0 b)] [(100000,(bQ 1 c))] F=(Kz N d b c (sf b c F)):=by
 rw[mf]
 kernel_rfl
def mg (a:LA) (h:Ak) (k:KF R):O R :=
 match a,h with
 | [(.bool d),(.own 100000 0 b)],[(100000,⟨false,false,true,false,1,c,false⟩)]=>(Kz N d b c (sf b c k))
 | _,_=>none
theorem si:An N 148 @mg:=by
 intro R Q a h k j;unfold mg;split;exact Ax (sh ..) (sh ..) trivial;exact Az
def E_:=Ay (si N)
def E':=Ca (si N)
def fg (b:Int) (r0:Bool→Nat→LA→O R):O R :=
 (cond (decide (b<0)) (Ck N (wrap .u64 ((0:Int) - (wrap .u64 b))) (fun c d=>(Kz N true c d (fun g=>(r0 g c d))))) (Ck N (wrap .u64 b) (fun e f=>(Kz N false e f (fun i=>(r0 i e f))))))
def HT:=(Ae (@fg R)).1
theorem fh:@HT R=@fg R:=(Ae _).2
def Azl:Dg:=[(149,Hq N),(148,E_ N)]
def mh (F:KF R):Bool→Nat→LA→O R:=(fun l m n=>F (.agg [(.bool l),(.own 300000 0 m)]) (hq [(bQ 1 n)]))
theorem mj (b:Int) (F:KF R):Cd (Azl N) C6 N 104 [(iv b)] [] F=(HT N b (mh F)):=by
 rw[fh]
 kernel_rfl
def fi (a:LA) (h:Ak) (k:KF R):O R :=
 match a,h with
 | [(.int .i64 b)],[]=>(HT N b (mh k))
 | _,_=>none
theorem mm:An N 104 @fi:=by
 intro R Q a h k j;unfold fi;split;exact Ax (mj ..) (mj ..) ⟨Hr N,E' N,trivial⟩;exact Az
def Ase:=Ay (mm N)
def Asf:=Ca (mm N)
def fj (b:Int) (r0:LA→O R):O R :=
 (HT N b (fun d c e=>(r0 [(.bool d),(.imm (e.take (c*1)) c 1 false false),(.imm [(.int .u32 1)] 1 1 false false)])))
def Cb:=(Ae (@fj R)).1
theorem fk:@Cb R=@fj R:=(Ae _).2
def Azm:Dg:=[(104,Ase N)]
def mo (F:KF R):LA→O R:=(fun f=>F (.pagg f false) [])
theorem mq (b:Int) (F:KF R):Cd (Azm N) Lu N 60 [(iv b)] [] F=(Cb N b (mo F)):=by
 rw[fk]
 kernel_rfl
def fl (a:LA) (h:Ak) (k:KF R):O R :=
 match a,h with
 | [(.int .i64 b)],[]=>(Cb N b (mo k))
 | _,_=>none
theorem mt:An N 60 @fl:=by
 intro R Q a h k j;unfold fl;split;exact Ax (mq ..) (mq ..) ⟨Asf N,trivial⟩;exact Az
def Ga:=Ay (mt N)
def Gb:=Ca (mt N)
def Y7 (N:Nat) (r0:LA→Nat→O R) (e:LA) (b:Nat) (f c:Bool) (k0:Int→O R) (d:Int):O R :=
 (cond ((decide (d>0))==true) (cond (Ac (wrap .i64 (d - 1)) b) (Ao .u32 (e.drop (((wrap .i64 (d - 1)).toNat)*1)) fun g=>(cond (cond true (g==0) false) (k0 (wrap .i64 (d - 1))) (cond ((decide ((0:Int)≤(0:Int)))&&((decide (0≤d))&&((decide (d≤((b:Nat):Int)))&&(decide (((b:Nat):Int)≤((b:Nat):Int)))))) (r0 (e.take ((d.toNat)*1)) (d.toNat)) none))) none) (cond ((decide ((0:Int)≤(0:Int)))&&((decide (0≤d))&&((decide (d≤((b:Nat):Int)))&&(decide (((b:Nat):Int)≤((b:Nat):Int)))))) (r0 (e.take ((d.toNat)*1)) (d.toNat)) none))
def Mc (r0:LA→Nat→O R) (e:LA) (b:Nat) (f c:Bool):Nat→Int→O R
 | 0,_=>none
 | n+1,d=>(Y7 N r0 e b f c (Mc r0 e b f c n) d)
def XC (N:Nat) (r0:LA→Nat→O R) (q0:Int→O R) (e:LA) (b:Nat) (f c:Bool):O R :=
 (q0 ((b:Nat):Int))
def Cv:=(Ae (fun (N:Nat) (e:LA) (b:Nat) (f c:Bool) (r0:LA→Nat→O R)=>(XC N r0 (fun d=>(Mc N r0 e b f c N d)) e b f c))).1
theorem mv (e b f c r0):(@Cv R N e b f c r0)=(XC N r0 (fun d=>(Mc N r0 e b f c N d)) e b f c):=by rw[Cv,(Ae _).2]
def Azn (F:KF R):=Hp Tryz.f171 zj [] [] N F
def Md (c:Bool) (F:KF R):LA→Nat→O R:=(fun i l=>F (.imm i l 1 false c) [])
def Azo (e:LA) (b:Nat) (f c:Bool) (d:Int):St:=⟨[(0,(.imm e b 1 f c)),(3,(iv d))],[]⟩
def Azp (F:KF R):=Azn N F [1,1,0,0] []
theorem a_ (F:KF R) (e:LA) (b:Nat) (f c:Bool):∀ (n:Nat) (d:Int),Ap (Azp N F) n (Azo e b f c d)=(Mc N (Md c F) e b f c n d)
 | 0,_=>by kernel_rfl
 | n+1,d=>Eq.trans (by kernel_rfl) (Bm (Y7 N (Md c F) e b f c · d) (funext fun d=>(a_ F e b f c n d)):_)
theorem Qu (e:LA) (b:Nat) (f c:Bool) (F:KF R):Cd [] zj N 171 [(.imm e b 1 f c)] [] F=(Cv N e b f c (Md c F)):=by
 rw[mv]
 exact Eq.trans (by kernel_rfl) (Bm (XC N (Md c F) · e b f c) (funext fun d=>(Ai ..).trans (a_ N F e b f c N d)):_)
def mw (a:LA) (h:Ak) (k:KF R):O R :=
 match a,h with
 | [(.imm e b 1 f c)],[]=>(Cv N e b f c (Md c k))
 | _,_=>none
theorem sj:An N 171 @mw:=by
 intro R Q a h k j;unfold mw;split;exact Ax (Qu ..) (Qu ..) trivial;exact Az
def Vt:=Ay (sj N)
def Vu:=Ca (sj N)
def mz (N:Nat) (r0:LA→O R) (k0:O R):O R :=
 (r0 [])
def Vv (r0:LA→O R):Nat→O R
 | 0=>none
 | n+1=>(mz N r0 (Vv r0 n))
def XD (N:Nat) (r0:LA→O R) (q0:O R):O R :=
 q0
def GH:=(Ae (fun (N:Nat) (r0:LA→O R)=>(XD N r0 (Vv N r0 N)))).1
theorem nA (r0):(@GH R N r0)=(XD N r0 (Vv N r0 N)):=by rw[GH,(Ae _).2]
def Azq (F:KF R):=Hp Tryz.f171 zj [] [] N F
def Vw (F:KF R):LA→O R:=(fun b=>F (.own 300000 0 0) (hq [(bQ 1 b)]))
def Azr:St:=⟨[(0,.nsl),(3,(iv 0))],[]⟩
def Azs (F:KF R):=Azq N F [1,1,0,0] []
theorem bA (F:KF R):∀ (n:Nat) ,Ap (Azs N F) n Azr=(Vv N (Vw F) n)
 | 0=>by kernel_rfl
 | n+1=>Eq.trans (by kernel_rfl) (Bm (mz N (Vw F) ·) (bA F n):_)
theorem sk (F:KF R):Cd [] zj N 171 [.nsl] [] F=(GH N (Vw F)):=by
 rw[nA]
 exact Eq.trans (by kernel_rfl) (Bm (XD N (Vw F) ·) ((Ai ..).trans (bA N F N)):_)
def HU (N:Nat) (r0:Int→O R) (e:LA) (d:Nat) (b:Bool) (f:LA) (k0:Int→O R) (c:Int):O R :=
 (cond (decide (c≥0)) (cond (Ac c d) (Ao .u32 (e.drop ((c.toNat)*1)) fun m=>(cond (Ac c 0) (Ao .u32 (f.drop (0+((c.toNat)*1))) fun o=>(cond (decide (m<o)) (r0 (-1)) (cond (Ac c d) (Ao .u32 (e.drop ((c.toNat)*1)) fun p=>(cond (Ac c 0) (Ao .u32 (f.drop (0+((c.toNat)*1))) fun q=>(cond (decide (p>q)) (r0 1) (k0 (wrap .i64 (c - 1))))) none)) none))) none)) none) (r0 0))
def Sf (r0:Int→O R) (e:LA) (d:Nat) (b:Bool) (f:LA):Nat→Int→O R
 | 0,_=>none
 | n+1,c=>(HU N r0 e d b f (Sf r0 e d b f n) c)
def MQ (r0:Int→O R) (q0:LA→Nat→LA→Int→O R) (g:LA) (i:Nat) (l b:Bool):O R :=
 (Cv N g i l b (fun e d=>(GH N (fun f=>(cond (((d:Nat):Int) != 0) (cond (decide (((d:Nat):Int)<0)) (r0 (-1)) (r0 1)) (q0 e d f (wrap .i64 (((d:Nat):Int) - 1))))))))
def T6:=(Ae (fun (N:Nat) (g:LA) (i:Nat) (l b:Bool) (r0:Int→O R)=>(MQ N r0 (fun e d f c=>(Sf N r0 e d b f N c)) g i l b))).1
theorem fm (g i l b r0):(@T6 R N g i l b r0)=(MQ N r0 (fun e d f c=>(Sf N r0 e d b f N c)) g i l b):=by rw[T6,(Ae _).2]
def Ot (a:LA) (h:Ak) (k:KF R):O R :=
 match a,h with
 | [(.imm g i 1 l b)],[]=>(Cv N g i l b (Md b k))
 | [.nsl],[]=>(GH N (Vw k))
 | _,_=>none
theorem Pg:An N 171 @Ot:=by
 intro R Q a h k j;unfold Ot;split;exact Ax (Qu ..) (Qu ..) trivial;exact Ax (sk ..) (sk ..) trivial;exact Az
def HV:=Ay (Pg N)
def HW:=Ca (Pg N)
def sn:Dg:=[(171,HV N)]
def Asg (F:KF R):=Hp Tryz.f132 Avj (sn N) [] N F
def Sg (F:KF R):Int→O R:=(fun r=>F (iv r) [])
def Ash (e:LA) (d:Nat) (b:Bool) (f:LA) (c:Int):St:=⟨[(0,(.imm e d 1 false b)),(1,(.own 300000 0 0)),(5,(iv c))],(hq [(bQ 1 f)])⟩
def Asi (F:KF R):=Asg N F [1,1,1,0,1,0] []
theorem SF (F:KF R) (e:LA) (d:Nat) (b:Bool) (f:LA):∀ (n:Nat) (c:Int),Ap (Asi N F) n (Ash e d b f c)=(Sf N (Sg F) e d b f n c)
 | 0,_=>by kernel_rfl
 | n+1,c=>Eq.trans (by kernel_rfl) (Bm (HU N (Sg F) e d b f · c) (funext fun c=>(SF F e d b f n c)):_)
theorem nB (g:LA) (i:Nat) (l b:Bool) (F:KF R):Cd (sn N) Avj N 132 [(.imm g i 1 l b),.nsl] [] F=(T6 N g i l b (Sg F)):=by
 rw[fm]
 exact Eq.trans (by kernel_rfl) (Bm (MQ N (Sg F) · g i l b) (funext fun e=>funext fun d=>funext fun f=>funext fun c=>(Ai ..).trans (SF N F e d b f N c)):_)
def fq (a:LA) (h:Ak) (k:KF R):O R :=
 match a,h with
 | [(.imm g i 1 l b),.nsl],[]=>(T6 N g i l b (Sg k))
 | _,_=>none
theorem nC:An N 132 @fq:=by
 intro R Q a h k j;unfold fq;split;exact Ax (nB ..) (nB ..) ⟨HW N,trivial⟩;exact Az
def nD:=Ay (nC N)
def nE:=Ca (nC N)
def ke (b:LA) (c:Bool) (r0:LA→Bool→LA→Nat→Bool→O R):O R :=
 (B9 1 (b.drop 2) fun d e=>(T6 N d e false c (fun f=>(cond (f==0) (r0 [(.bool false),.nsl] false [(.int .u32 1)] 1 false) (cond (Nat.ble 2 (b.length)) (B9 1 (b.drop 2) fun g i=>(cond ((Nat.beq 0 0)&&((Nat.beq ((b.take 2).length) 2)&&(Nat.beq 2 2))) (cond (Nat.ble 2 ((b.take 2).length)) (r0 ((b.take 2).take 2) c g i c) none) none)) none)))))
def Nq:=(Ae (@ke R)).1
theorem XE:@Nq R=@ke R:=(Ae _).2
def A4s:Hints:={ H:=hL,nils:=[(3,1)],modes:=[(3,0),(1,1)] }
def A9d:Dg:=[(132,nD N)]
def Aa0 (F:KF R):LA→Bool→LA→Nat→Bool→O R:=(fun l m n o p=>F (.tup [(.pagg l m),(.imm n o 1 false p)]) [])
theorem Aa1 (b:LA) (c:Bool) (F:KF R):Cd (A9d N) A4s N 101 [(.pagg b c)] [] F=(Nq N b c (Aa0 F)):=by
 rw[XE]
 kernel_rfl
def sp (a:LA) (h:Ak) (k:KF R):O R :=
 match a,h with
 | [(.pagg b c)],[]=>(Nq N b c (Aa0 k))
 | _,_=>none
theorem Aa2:An N 101 @sp:=by
 intro R Q a h k j;unfold sp;split;exact Ax (Aa1 ..) (Aa1 ..) ⟨nE N,trivial⟩;exact Az
def AI:=Ay (Aa2 N)
def AJ:=Ca (Aa2 N)
def Akn (b:LA) (c:Bool) (r0:Int→O R):O R :=
 (B9 1 (b.drop 1) fun d e=>(T6 N d e false c (fun f=>(cond (f==0) (r0 0) (RW b fun g=>(cond g (r0 (-1)) (r0 1)))))))
def XF:=(Ae (@Akn R)).1
theorem Aa3:@XF R=@Akn R:=(Ae _).2
def Bd0:Dg:=[(132,nD N)]
def Ako (F:KF R):Int→O R:=(fun i=>F (iv i) [])
theorem Akp (b:LA) (c:Bool) (F:KF R):Cd (Bd0 N) C6 N 144 [(.pagg b c)] [] F=(XF N b c (Ako F)):=by
 rw[Aa3]
 kernel_rfl
def Aa4 (a:LA) (h:Ak) (k:KF R):O R :=
 match a,h with
 | [(.pagg b c)],[]=>(XF N b c (Ako k))
 | _,_=>none
theorem Akq:An N 144 @Aa4:=by
 intro R Q a h k j;unfold Aa4;split;exact Ax (Akp ..) (Akp ..) ⟨nE N,trivial⟩;exact Az
def Akr:=Ay (Akq N)
def Aks:=Ca (Akq N)
def Akt (b:LA) (c:Bool) (r0:Int→O R):O R :=
 (cond (Nat.ble 3 (b.length)) (Nq N (b.take 3) c (fun d e i l m=>(cond ((Nat.beq 0 0)&&((Nat.beq (d.length) 2)&&(Nat.beq 2 2))) (cond (Nat.ble 2 (d.length)) (XF N (d.take 2) e (fun f=>(r0 f))) none) none))) none)
def Ti:=(Ae (@Akt R)).1
theorem Aa5:@Ti R=@Akt R:=(Ae _).2
def Bd1:Dg:=[(101,AI N),(144,Akr N)]
def Aku (F:KF R):Int→O R:=(fun g=>F (iv g) [])
theorem Akv (b:LA) (c:Bool) (F:KF R):Cd (Bd1 N) C6 N 95 [(.pagg b c)] [] F=(Ti N b c (Aku F)):=by
 rw[Aa5]
 kernel_rfl
def Aa6 (a:LA) (h:Ak) (k:KF R):O R :=
 match a,h with
 | [(.pagg b c)],[]=>(Ti N b c (Aku k))
 | _,_=>none
theorem Akw:An N 95 @Aa6:=by
 intro R Q a h k j;unfold Aa6;split;exact Ax (Akv ..) (Akv ..) ⟨AJ N,Aks N,trivial⟩;exact Az
def XG:=Ay (Akw N)
def XH:=Ca (Akw N)
def HX (N:Nat) (b:Int) (r0:Bool→O R):O R :=
 (r0 (b != b))
def Sh:=(Ae (@HX R)).1
theorem MR:@Sh R=@HX R:=(Ae _).2
def SG (F:KF R):Bool→O R:=(fun c=>F (.bool c) [])
theorem SH (b:Int) (F:KF R):Cd [] C6 N 145 [(iv b)] [] F=(Sh N b (SG F)):=by
 rw[MR]
 kernel_rfl
def MS (a:LA) (h:Ak) (k:KF R):O R :=
 match a,h with
 | [(.int .i64 b)],[]=>(Sh N b (SG k))
 | _,_=>none
theorem SI:An N 145 @MS:=by
 intro R Q a h k j;unfold MS;split;exact Ax (SH ..) (SH ..) trivial;exact Az
def xe:=Ay (SI N)
def xg:=Ca (SI N)
def X7 (b c:Int) (r0:Int→O R):O R :=
 (Sh N b (fun e=>(Sh N c (fun d=>(cond e (cond d (r0 0) (r0 (-1))) (cond d (r0 1) (cond (decide (b<c)) (r0 (-1)) (cond (decide (b>c)) (r0 1) (r0 0)))))))))
def Nr:=(Ae (@X7 R)).1
theorem CX:@Nr R=@X7 R:=(Ae _).2
def sq:Dg:=[(145,xe N)]
def HY (F:KF R):Int→O R:=(fun f=>F (iv f) [])
theorem HZ (b c:Int) (F:KF R):Cd (sq N) C6 N 98 [(iv b),(iv c)] [] F=(Nr N b c (HY F)):=by
 rw[CX]
 kernel_rfl
def CY (a:LA) (h:Ak) (k:KF R):O R :=
 match a,h with
 | [(.int .i64 b),(.int .i64 c)],[]=>(Nr N b c (HY k))
 | _,_=>none
theorem H_:An N 98 @CY:=by
 intro R Q a h k j;unfold CY;split;exact Ax (HZ ..) (HZ ..) ⟨xg N,trivial⟩;exact Az
def qK:=Ay (H_ N)
def qL:=Ca (H_ N)
def Ly (N:Nat) (r0:Int→O R) (c:LA) (b:Nat) (d e:Bool) (k0:Int→Int→Int→O R) (g i f:Int):O R :=
 (cond (decide (f<i)) (cond (Ac f b) (Ao .u32 (c.drop ((f.toNat)*1)) fun l=>(cond (decide ((wrap .i64 (32*f))<0)) none (k0 (Uo .u64 g (wrap .u64 ((wrap .u64 l)*2 ^ (min ((wrap .i64 (32*f)).toNat) 64)))) i (wrap .i64 (f+1))))) none) (r0 g))
def J9 (r0:Int→O R) (c:LA) (b:Nat) (d e:Bool):Nat→Int→Int→Int→O R
 | 0,_,_,_=>none
 | n+1,g,i,f=>(Ly N r0 c b d e (J9 r0 c b d e n) g i f)
def sr (N:Nat) (r0:Int→O R) (q0:Int→Int→Int→O R) (c:LA) (b:Nat) (d e:Bool):O R :=
 (q0 0 ((b:Nat):Int) 0)
def Tj:=(Ae (fun (N:Nat) (c:LA) (b:Nat) (d e:Bool) (r0:Int→O R)=>(sr N r0 (fun g i f=>(J9 N r0 c b d e N g i f)) c b d e))).1
theorem Aa7 (c b d e r0):(@Tj R N c b d e r0)=(sr N r0 (fun g i f=>(J9 N r0 c b d e N g i f)) c b d e):=by rw[Tj,(Ae _).2]
def Akx:Hints:={ H:=(hS hL (hS hL (hS (hS hL (hS (hP [3,6,7,8] hL) hL)) hL))) }
def A9e (F:KF R):=Hp Tryz.f181 Akx [] [] N F
def H' (F:KF R):Int→O R:=(fun m=>F (.int .u64 m) [])
def A9f (c:LA) (b:Nat) (d e:Bool) (g i f:Int):St:=⟨[(3,(.int .u64 g)),(6,(.imm c b 1 d e)),(7,(iv i)),(8,(iv f))],[]⟩
def A9g (F:KF R):=A9e N F [1,1,0,1,0] []
theorem nF (F:KF R) (c:LA) (b:Nat) (d e:Bool):∀ (n:Nat) (g i f:Int),Ap (A9g N F) n (A9f c b d e g i f)=(J9 N (H' F) c b d e n g i f)
 | 0,_,_,_=>by kernel_rfl
 | n+1,g,i,f=>Eq.trans (by kernel_rfl) (Bm (Ly N (H' F) c b d e · g i f) (funext fun g=>funext fun i=>funext fun f=>(nF F c b d e n g i f)):_)
theorem Aky (c:LA) (b:Nat) (d e:Bool) (F:KF R):Cd [] Akx N 181 [(.imm c b 1 d e)] [] F=(Tj N c b d e (H' F)):=by
 rw[Aa7]
 exact Eq.trans (by kernel_rfl) (Bm (sr N (H' F) · c b d e) (funext fun g=>funext fun i=>funext fun f=>(Ai ..).trans (nF N F c b d e N g i f)):_)
def Aa8 (a:LA) (h:Ak) (k:KF R):O R :=
 match a,h with
 | [(.imm c b 1 d e)],[]=>(Tj N c b d e (H' k))
 | _,_=>none
theorem Akz:An N 181 @Aa8:=by
 intro R Q a h k j;unfold Aa8;split;exact Ax (Aky ..) (Aky ..) trivial;exact Az
def qM:=Ay (Akz N)
def qN:=Ca (Akz N)
def qO (c:LA) (d:Nat) (e b:Bool) (r0:Int→Bool→O R):O R :=
 (Cv N c d e b (fun g f=>(cond (decide (((f:Nat):Int)>2)) (r0 0 false) (Tj N g f false b (fun i=>(r0 i true))))))
def GI:=(Ae (@qO R)).1
theorem nG:@GI R=@qO R:=(Ae _).2
def A4t:Dg:=[(171,Vt N),(181,qM N)]
def su (F:KF R):Int→Bool→O R:=(fun l m=>F (.tup [(.int .u64 l),(.bool m)]) [])
theorem sv (c:LA) (d:Nat) (e b:Bool) (F:KF R):Cd (A4t N) C6 N 146 [(.imm c d 1 e b)] [] F=(GI N c d e b (su F)):=by
 rw[nG]
 kernel_rfl
def nH (a:LA) (h:Ak) (k:KF R):O R :=
 match a,h with
 | [(.imm c d 1 e b)],[]=>(GI N c d e b (su k))
 | _,_=>none
theorem sw:An N 146 @nH:=by
 intro R Q a h k j;unfold nH;split;exact Ax (sv ..) (sv ..) ⟨Vu N,qN N,trivial⟩;exact Az
def Azt:=Ay (sw N)
def Azu:=Ca (sw N)
def Gl (N:Nat) (r0:Int→Int→Bool→O R) (e d:Int) (c:Bool) (b:LA) (f:Bool):O R :=
 (cond f (r0 0 0 false) (cond (d==0) (r0 0 1 true) (RW b fun g=>(cond g (r0 (wrap .i64 ((0:Int) - (wrap .i64 e))) (wrap .i64 d) true) (r0 (wrap .i64 e) (wrap .i64 d) true)))))
def GJ (r0:Int→Int→Bool→O R) (q0:Int→Int→Bool→O R) (b:LA) (c:Bool):O R :=
 (B9 1 (b.drop 1) fun i l=>(GI N i l false c (fun e m=>(B9 1 (b.drop 2) fun n o=>(GI N n o false c (fun d p=>(cond ((!m)==false) (cond ((cond false true (!p))==false) (cond ((cond false true (decide (e≥2147483648)))==false) (q0 e d (cond false true (decide (d≥2147483648)))) (q0 e d true)) (q0 e d true)) (q0 e d true))))))))
def Hb:=(Ae (fun (N:Nat) (b:LA) (c:Bool) (r0:Int→Int→Bool→O R)=>(GJ N r0 (fun e d f=>(Gl N r0 e d c b f)) b c))).1
theorem FA (b c r0):(@Hb R N b c r0)=(GJ N r0 (fun e d f=>(Gl N r0 e d c b f)) b c):=by rw[Hb,(Ae _).2]
def Aa9:Hints:={ H:=(hS hL (hS hL (hS hL (hS (hS (hJ [1,5,6,21] hL hL) hL) hL)))) }
def Ak0:Dg:=[(146,Azt N)]
def A4u (F:KF R):=Hp Tryz.f99 Aa9 (Ak0 N) [] N F
def MT (F:KF R):Int→Int→Bool→O R:=(fun q r s=>F (.tup [(iv q),(iv r),(.bool s)]) [])
def A4v (e d:Int) (c:Bool) (b:LA) (f:Bool):St:=⟨[(1,(op 0)),(5,(.int .u64 e)),(6,(.int .u64 d)),(21,(.bool f))],(hq [(bP c 0 b)])⟩
def A4w (F:KF R):=A4u N F [1,1,1,0,0,1] []
theorem Ak1 (F:KF R) (e d:Int) (c:Bool) (b:LA):∀ (f:Bool),A9 (A4w N F) (A4v e d c b f)=(Gl N (MT F) e d c b f):=by
 intro f
 kernel_rfl
theorem Aba (b:LA) (c:Bool) (F:KF R):Cd (Ak0 N) Aa9 N 99 [(.pagg b c)] [] F=(Hb N b c (MT F)):=by
 rw[FA]
 exact Eq.trans (by kernel_rfl) (Bm (GJ N (MT F) · b c) (funext fun e=>funext fun d=>funext fun f=>(Aq ..).trans (Ak1 N F e d c b f)):_)
def sx (a:LA) (h:Ak) (k:KF R):O R :=
 match a,h with
 | [(.pagg b c)],[]=>(Hb N b c (MT k))
 | _,_=>none
theorem Abb:An N 99 @sx:=by
 intro R Q a h k j;unfold sx;split;exact Ax (Aba ..) (Aba ..) ⟨Azu N,trivial⟩;exact Az
def MU:=Ay (Abb N)
def MV:=Ca (Abb N)
def X8 (N:Nat) (b:Int) (r0:Bool→O R):O R :=
 (r0 (b != b))
def Ns:=(Ae (@X8 R)).1
theorem CZ:@Ns R=@X8 R:=(Ae _).2
def IA (F:KF R):Bool→O R:=(fun c=>F (.bool c) [])
theorem IB (b:Int) (F:KF R):Cd [] C6 N 147 [(iv b)] [] F=(Ns N b (IA F)):=by
 rw[CZ]
 kernel_rfl
def C_ (a:LA) (h:Ak) (k:KF R):O R :=
 match a,h with
 | [(.int .i64 b)],[]=>(Ns N b (IA k))
 | _,_=>none
theorem IC:An N 147 @C_:=by
 intro R Q a h k j;unfold C_;split;exact Ax (IB ..) (IB ..) trivial;exact Az
def qP:=Ay (IC N)
def qQ:=Ca (IC N)
def T7 (b c:Int) (r0:Int→O R):O R :=
 (Ns N b (fun e=>(Ns N c (fun d=>(cond e (cond d (r0 0) (r0 (-1))) (cond d (r0 1) (cond (decide (b<c)) (r0 (-1)) (cond (decide (b>c)) (r0 1) (r0 0)))))))))
def Ji:=(Ae (@T7 R)).1
theorem Xc:@Ji R=@T7 R:=(Ae _).2
def lT:Dg:=[(147,qP N)]
def AK (F:KF R):Int→O R:=(fun f=>F (iv f) [])
theorem AL (b c:Int) (F:KF R):Cd (lT N) C6 N 100 [(iv b),(iv c)] [] F=(Ji N b c (AK F)):=by
 rw[Xc]
 kernel_rfl
def Xd (a:LA) (h:Ak) (k:KF R):O R :=
 match a,h with
 | [(.int .i64 b),(.int .i64 c)],[]=>(Ji N b c (AK k))
 | _,_=>none
theorem AM:An N 100 @Xd:=by
 intro R Q a h k j;unfold Xd;split;exact Ax (AL ..) (AL ..) ⟨qQ N,trivial⟩;exact Az
def ft:=Ay (AM N)
def fu:=Ca (AM N)
def XI (N:Nat) (k1:Nat→Int→Int→LA→O R) (r0:Nat→LA→O R) (f:LA) (b:Nat) (e:Bool) (l:Nat) (g r:Int) (i:LA) (d:Nat) (c:Bool) (m:Int) (k2:Int→Int→Int→LA→O R) (s t o:Int) (q:LA):O R :=
 (cond (decide (o<t)) (cond (Ac o b) (Ao .u32 (f.drop ((o.toNat)*1)) fun aa=>(cond (Ac (wrap .i64 (g+o)) l) (Ao .u32 (q.drop (0+(((wrap .i64 (g+o)).toNat)*1))) fun ab=>(cond (Ac (wrap .i64 (g+o)) l) (cond ((Nat.beq 1 1)&&((Nat.ble ((0+(((wrap .i64 (g+o)).toNat)*1))+1) (q.length))&&(!false))) (k2 (Int.fdiv (wrap .u64 (s+(wrap .u64 ((wrap .u64 ((wrap .u64 r)*(wrap .u64 aa)))+(wrap .u64 ab))))) (2 ^ 32)) t (wrap .i64 (o+1)) (q.set (0+(((wrap .i64 (g+o)).toNat)*1)) (.int .u32 (wrap .u32 (wrap .u64 (s+(wrap .u64 ((wrap .u64 ((wrap .u64 r)*(wrap .u64 aa)))+(wrap .u64 ab))))))))) none) none)) none)) none) (cond (Ac (wrap .i64 (g+((b:Nat):Int))) l) (cond ((Nat.beq 1 1)&&((Nat.ble ((0+(((wrap .i64 (g+((b:Nat):Int))).toNat)*1))+1) (q.length))&&(!false))) (k1 l m (wrap .i64 (g+1)) (q.set (0+(((wrap .i64 (g+((b:Nat):Int))).toNat)*1)) (.int .u32 (wrap .u32 s)))) none) none))
def X9 (k1:Nat→Int→Int→LA→O R) (r0:Nat→LA→O R) (f:LA) (b:Nat) (e:Bool) (l:Nat) (g r:Int) (i:LA) (d:Nat) (c:Bool) (m:Int):Nat→Int→Int→Int→LA→O R
 | 0,_,_,_,_=>none
 | n+1,s,t,o,q=>(XI N k1 r0 f b e l g r i d c m (X9 k1 r0 f b e l g r i d c m n) s t o q)
def ID (r0:Nat→LA→O R) (f:LA) (b:Nat) (e:Bool) (i:LA) (d:Nat) (c:Bool) (k1:Nat→Int→Int→LA→O R) (q2:Int→Int→Int→Int→LA→O R) (l:Nat) (m g:Int) (p:LA):O R :=
 (cond (decide (g<m)) (cond (Ac g d) (Ao .u32 (i.drop ((g.toNat)*1)) fun r=>(cond (r==0) (k1 l m (wrap .i64 (g+1)) p) (q2 r 0 ((b:Nat):Int) 0 p))) none) (X6 N l p (fun ad=>(r0 ad p))))
def Qv (r0:Nat→LA→O R) (f:LA) (b:Nat) (e:Bool) (i:LA) (d:Nat) (c:Bool):Nat→Nat→Int→Int→LA→O R
 | 0,_,_,_,_=>none
 | n+1,l,m,g,p=>(ID N r0 f b e i d c (Qv r0 f b e i d c n) (fun r s t o q=>(X9 N (Qv r0 f b e i d c n) r0 f b e l g r i d c m N s t o q)) l m g p)
def qS (N:Nat) (r0:Nat→LA→O R) (i:LA) (d:Nat) (c:Bool) (f:LA) (b:Nat) (e:Bool) (q1:Nat→Int→Int→LA→O R):O R :=
 (cond ((decide (0≤(wrap .i64 (((d:Nat):Int)+((b:Nat):Int)))))&&((decide ((wrap .i64 (((d:Nat):Int)+((b:Nat):Int)))≤(wrap .i64 (((d:Nat):Int)+((b:Nat):Int)))))&&((decide ((wrap .i64 (((d:Nat):Int)+((b:Nat):Int)))≤140737488355328))&&(decide (((wrap .i64 (((d:Nat):Int)+((b:Nat):Int)))*((4:Nat):Int))≤140737488355328))))) (q1 ((wrap .i64 (((d:Nat):Int)+((b:Nat):Int))).toNat) ((d:Nat):Int) 0 (List.replicate ((wrap .i64 (((d:Nat):Int)+((b:Nat):Int))).toNat) (.int .u32 0))) none)
def kf (r0:Nat→LA→O R) (i:LA) (d:Nat) (c:Bool) (f:LA) (b:Nat) (e:Bool):O R:=(qS N r0 i d c f b e (fun l m g p=>(Qv N r0 f b e i d c N l m g p)))
def kg (r0:Nat→LA→O R) (q0:LA→Nat→LA→Nat→O R) (v:LA) (u:Nat) (w c:Bool) (x:LA) (y:Nat) (z e:Bool):O R :=
 (Cv N v u w c (fun i d=>(Cv N x y z e (fun f b=>(cond ((((d:Nat):Int)==0)==false) (cond (cond false true (((b:Nat):Int)==0)) (r0 0 []) (q0 i d f b)) (r0 0 []))))))
def QG:=(Ae (fun (N:Nat) (v:LA) (u:Nat) (w c:Bool) (x:LA) (y:Nat) (z e:Bool) (r0:Nat→LA→O R)=>(kg N r0 (fun i d f b=>(kf N r0 i d c f b e)) v u w c x y z e))).1
theorem XJ (v u w c x y z e r0):(@QG R N v u w c x y z e r0)=(kg N r0 (fun i d f b=>(kf N r0 i d c f b e)) v u w c x y z e):=by rw[QG,(Ae _).2]
def Avo:Hints:={ H:=(hS hL (hS hL (hJ [0,1] hL (hS hL (hS (hS hL (hS (hP [1,5,29,30,31] (hS hL (hS hL (hS (hS (hS hL (hS hL (hS hL (hS (hS hL (hS (hP [1,5,6,7,8,29,30,31,38,39,40] hL) hL)) hL)))) hL) hL)))) hL)) hL))))),nils:=[(4,1)],modes:=[(2,1)] }
def Si (a:LA) (h:Ak) (k:KF R):O R :=
 match a,h with
 | [(.imm v u 1 w c)],[]=>(Cv N v u w c (Md c k))
 | [(.own 100000 0 u)],[(100000,⟨false,false,true,false,1,ac,false⟩)]=>(X6 N u ac (GG ac k))
 | _,_=>none
theorem Ut:An N 171 @Si:=by
 intro R Q a h k j;unfold Si;split;exact Ax (Qu ..) (Qu ..) trivial;exact Ax (kc ..) (kc ..) trivial;exact Az
def Gr:=Ay (Ut N)
def Gs:=Ca (Ut N)
def A4x:Dg:=[(171,Gr N)]
def xi (F:KF R):=Hp Tryz.f135 Avo (A4x N) [] N F
def N9 (F:KF R):Nat→LA→O R:=(fun ae af=>F (.own 300000 0 ae) (hq [(bQ 1 af)]))
def Bd2 (f:LA) (b:Nat) (e:Bool) (l:Nat) (g r:Int) (i:LA) (d:Nat) (c:Bool) (m s t o:Int) (q:LA):St:=⟨[(1,(.imm f b 1 false e)),(5,(.own 300000 0 l)),(6,(iv g)),(7,(.int .u32 r)),(8,(.int .u64 s)),(29,(.imm i d 1 false c)),(30,(iv m)),(31,(iv g)),(38,(.imm f b 1 false e)),(39,(iv t)),(40,(iv o))],(hq [(bQ 1 q)])⟩
def Bd3 (F:KF R) (Q1:St→O R):=xi N F [1,1,1,1,0,1,0,0,1,1,0,0,1,1,1,0,1,0] [Q1]
def xj (f:LA) (b:Nat) (e:Bool) (i:LA) (d:Nat) (c:Bool) (l:Nat) (m g:Int) (p:LA):St:=⟨[(1,(.imm f b 1 false e)),(5,(.own 300000 0 l)),(29,(.imm i d 1 false c)),(30,(iv m)),(31,(iv g))],(hq [(bQ 1 p)])⟩
def Avp (F:KF R):=xi N F [1,1,1,1,0,1,0] []
def Bd4 (i:LA) (d:Nat) (c:Bool) (f:LA) (b:Nat) (e:Bool):St:=⟨[(0,(.imm i d 1 false c)),(1,(.imm f b 1 false e))],[]⟩
def Bd5 (F:KF R):=xi N F [1,1,1] []
theorem sy (Q1:St→O R) (F:KF R) (f:LA) (b:Nat) (e:Bool) (l:Nat) (g r:Int) (i:LA) (d:Nat) (c:Bool) (m:Int):∀ (n:Nat) (s t o:Int) (q:LA),Ap (Bd3 N F Q1) n (Bd2 f b e l g r i d c m s t o q)=(X9 N (fun l m g p=>Q1 (xj f b e i d c l m g p)) (N9 F) f b e l g r i d c m n s t o q)
 | 0,_,_,_,_=>by kernel_rfl
 | n+1,s,t,o,q=>Eq.trans (by kernel_rfl) (Bm (XI N (fun l m g p=>Q1 (xj f b e i d c l m g p)) (N9 F) f b e l g r i d c m · s t o q) (funext fun s=>funext fun t=>funext fun o=>funext fun q=>(sy Q1 F f b e l g r i d c m n s t o q)):_)
theorem tA (F:KF R) (f:LA) (b:Nat) (e:Bool) (i:LA) (d:Nat) (c:Bool):∀ (n l:Nat) (m g:Int) (p:LA),Ap (Avp N F) n (xj f b e i d c l m g p)=(Qv N (N9 F) f b e i d c n l m g p)
 | 0,_,_,_,_=>by kernel_rfl
 | n+1,l,m,g,p=>have e0:=(funext fun l=>funext fun m=>funext fun g=>funext fun p=>(tA F f b e i d c n l m g p))
  Eq.trans (by kernel_rfl) (fQ (ID N (N9 F) f b e i d c · · l m g p) e0 (funext fun r=>funext fun s=>funext fun t=>funext fun o=>funext fun q=>(Ai ..).trans ((sy N (Ap (Avp N F) n) F f b e l g r i d c m N s t o q).trans (Bm (X9 N · (N9 F) f b e l g r i d c m N s t o q) e0))):_)
theorem Azv (F:KF R) (i:LA) (d:Nat) (c:Bool) (f:LA) (b:Nat) (e:Bool):A9 (Bd5 N F) (Bd4 i d c f b e)=(kf N (N9 F) i d c f b e):=by
 exact Eq.trans (by kernel_rfl) (Bm (qS N (N9 F) i d c f b e ·) (funext fun l=>funext fun m=>funext fun g=>funext fun p=>(Ai ..).trans (tA N F f b e i d c N l m g p)):_)
theorem Avq (v:LA) (u:Nat) (w c:Bool) (x:LA) (y:Nat) (z e:Bool) (F:KF R):Cd (A4x N) Avo N 135 [(.imm v u 1 w c),(.imm x y 1 z e)] [] F=(QG N v u w c x y z e (N9 F)):=by
 rw[XJ]
 exact Eq.trans (by kernel_rfl) (Bm (kg N (N9 F) · v u w c x y z e) (funext fun i=>funext fun d=>funext fun f=>funext fun b=>(Aq ..).trans (Azv N F i d c f b e)):_)
def Ak2 (a:LA) (h:Ak) (k:KF R):O R :=
 match a,h with
 | [(.imm v u 1 w c),(.imm x y 1 z e)],[]=>(QG N v u w c x y z e (N9 k))
 | _,_=>none
theorem Avr:An N 135 @Ak2:=by
 intro R Q a h k j;unfold Ak2;split;exact Ax (Avq ..) (Avq ..) ⟨Gs N,trivial⟩;exact Az
def ki:=Ay (Avr N)
def kj:=Ca (Avr N)
def Azw (b:LA) (d:Bool) (c:LA) (e:Bool) (r0:Bool→Nat→LA→O R):O R :=
 (RW b fun i=>(RW c fun l=>(B9 1 (b.drop 1) fun m n=>(B9 1 (c.drop 1) fun o p=>(QG N m n false d o p false e (fun f g=>(Kz N (!(i==l)) f g (fun q=>(r0 q f g)))))))))
def XK:=(Ae (@Azw R)).1
theorem Ak3:@XK R=@Azw R:=(Ae _).2
def Bha:Dg:=[(135,ki N),(148,E_ N)]
def Avs (F:KF R):Bool→Nat→LA→O R:=(fun r s t=>F (.agg [(.bool r),(.own 300000 0 s)]) (hq [(bQ 1 t)]))
theorem Avt (b:LA) (d:Bool) (c:LA) (e:Bool) (F:KF R):Cd (Bha N) C6 N 103 [(.pagg b d),(.pagg c e)] [] F=(XK N b d c e (Avs F)):=by
 rw[Ak3]
 kernel_rfl
def Ak4 (a:LA) (h:Ak) (k:KF R):O R :=
 match a,h with
 | [(.pagg b d),(.pagg c e)],[]=>(XK N b d c e (Avs k))
 | _,_=>none
theorem Avu:An N 103 @Ak4:=by
 intro R Q a h k j;unfold Ak4;split;exact Ax (Avt ..) (Avt ..) ⟨kj N,E' N,trivial⟩;exact Az
def xk:=Ay (Avu N)
def xm:=Ca (Avu N)
def Ou (N:Nat) (r0:Int→O R) (g:LA) (e:Nat) (c:Bool) (i:LA) (f:Nat) (d:Bool) (k0:Int→O R) (b:Int):O R :=
 (cond (decide (b≥0)) (cond (Ac b e) (Ao .u32 (g.drop ((b.toNat)*1)) fun s=>(cond (Ac b f) (Ao .u32 (i.drop ((b.toNat)*1)) fun t=>(cond (decide (s<t)) (r0 (-1)) (cond (Ac b e) (Ao .u32 (g.drop ((b.toNat)*1)) fun u=>(cond (Ac b f) (Ao .u32 (i.drop ((b.toNat)*1)) fun v=>(cond (decide (u>v)) (r0 1) (k0 (wrap .i64 (b - 1))))) none)) none))) none)) none) (r0 0))
def Fw (r0:Int→O R) (g:LA) (e:Nat) (c:Bool) (i:LA) (f:Nat) (d:Bool):Nat→Int→O R
 | 0,_=>none
 | n+1,b=>(Ou N r0 g e c i f d (Fw r0 g e c i f d n) b)
def Vx (r0:Int→O R) (q0:LA→Nat→LA→Nat→Int→O R) (l:LA) (m:Nat) (o c:Bool) (p:LA) (q:Nat) (r d:Bool):O R :=
 (Cv N l m o c (fun g e=>(Cv N p q r d (fun i f=>(cond (((e:Nat):Int) != ((f:Nat):Int)) (cond (decide (((e:Nat):Int)<((f:Nat):Int))) (r0 (-1)) (r0 1)) (q0 g e i f (wrap .i64 (((e:Nat):Int) - 1))))))))
def Er:=(Ae (fun (N:Nat) (l:LA) (m:Nat) (o c:Bool) (p:LA) (q:Nat) (r d:Bool) (r0:Int→O R)=>(Vx N r0 (fun g e i f b=>(Fw N r0 g e c i f d N b)) l m o c p q r d))).1
theorem MW (l m o c p q r d r0):(@Er R N l m o c p q r d r0)=(Vx N r0 (fun g e i f b=>(Fw N r0 g e c i f d N b)) l m o c p q r d):=by rw[Er,(Ae _).2]
def bB:Dg:=[(171,Vt N)]
def xn (F:KF R):=Hp Tryz.f132 Avj (bB N) [] N F
def K3 (F:KF R):Int→O R:=(fun w=>F (iv w) [])
def xo (g:LA) (e:Nat) (c:Bool) (i:LA) (f:Nat) (d:Bool) (b:Int):St:=⟨[(0,(.imm g e 1 false c)),(1,(.imm i f 1 false d)),(5,(iv b))],[]⟩
def xp (F:KF R):=xn N F [1,1,1,0,1,0] []
theorem DA (F:KF R) (g:LA) (e:Nat) (c:Bool) (i:LA) (f:Nat) (d:Bool):∀ (n:Nat) (b:Int),Ap (xp N F) n (xo g e c i f d b)=(Fw N (K3 F) g e c i f d n b)
 | 0,_=>by kernel_rfl
 | n+1,b=>Eq.trans (by kernel_rfl) (Bm (Ou N (K3 F) g e c i f d · b) (funext fun b=>(DA F g e c i f d n b)):_)
theorem SK (l:LA) (m:Nat) (o c:Bool) (p:LA) (q:Nat) (r d:Bool) (F:KF R):Cd (bB N) Avj N 132 [(.imm l m 1 o c),(.imm p q 1 r d)] [] F=(Er N l m o c p q r d (K3 F)):=by
 rw[MW]
 exact Eq.trans (by kernel_rfl) (Bm (Vx N (K3 F) · l m o c p q r d) (funext fun g=>funext fun e=>funext fun i=>funext fun f=>funext fun b=>(Ai ..).trans (DA N F g e c i f d N b)):_)
def MX (a:LA) (h:Ak) (k:KF R):O R :=
 match a,h with
 | [(.imm l m 1 o c),(.imm p q 1 r d)],[]=>(Er N l m o c p q r d (K3 k))
 | _,_=>none
theorem SL:An N 132 @MX:=by
 intro R Q a h k j;unfold MX;split;exact Ax (SK ..) (SK ..) ⟨Vu N,trivial⟩;exact Az
def K4:=Ay (SL N)
def K5:=Ca (SL N)
def fv (b:LA) (d:Bool) (c:LA) (e:Bool) (r0:Int→O R):O R :=
 (cond (Nat.ble 2 (b.length)) (XF N (b.take 2) d (fun f=>(cond (Nat.ble 2 (c.length)) (XF N (c.take 2) e (fun g=>(cond (decide (f<g)) (r0 (-1)) (cond (decide (f>g)) (r0 1) (cond (decide (f<0)) (B9 1 (c.drop 1) fun i l=>(B9 1 (b.drop 1) fun m n=>(Er N i l false e m n false d (fun o=>(r0 o))))) (B9 1 (b.drop 1) fun p q=>(B9 1 (c.drop 1) fun r s=>(Er N p q false d r s false e (fun t=>(r0 t)))))))))) none))) none)
def IE:=(Ae (@fv R)).1
theorem fw:@IE R=@fv R:=(Ae _).2
def Azx:Dg:=[(144,Akr N),(132,K4 N)]
def nI (F:KF R):Int→O R:=(fun u=>F (iv u) [])
theorem nK (b:LA) (d:Bool) (c:LA) (e:Bool) (F:KF R):Cd (Azx N) C6 N 102 [(.pagg b d),(.pagg c e)] [] F=(IE N b d c e (nI F)):=by
 rw[fw]
 kernel_rfl
def fx (a:LA) (h:Ak) (k:KF R):O R :=
 match a,h with
 | [(.pagg b d),(.pagg c e)],[]=>(IE N b d c e (nI k))
 | _,_=>none
theorem nL:An N 102 @fx:=by
 intro R Q a h k j;unfold fx;split;exact Ax (nK ..) (nK ..) ⟨Aks N,K5 N,trivial⟩;exact Az
def Asj:=Ay (nL N)
def Ask:=Ca (nL N)
def Sj (r0:Int→O R) (d:Bool) (b:LA) (e:Bool) (c:LA):O R :=
 (cond (Nat.ble 3 (b.length)) (Nq N (b.take 3) d (fun f q r s i=>(cond ((Nat.beq 0 0)&&((Nat.beq (f.length) 2)&&(Nat.beq 2 2))) (cond (Nat.ble 3 (c.length)) (Nq N (c.take 3) e (fun g t u v l=>(cond ((Nat.beq 0 0)&&((Nat.beq (g.length) 2)&&(Nat.beq 2 2))) (cond (Nat.ble 2 (f.length)) (XK N (f.take 2) q [(.bool false),(.imm u v 1 false l)] (l||false) (fun w m x=>(cond (Nat.ble 2 (g.length)) (XK N (g.take 2) t [(.bool false),(.imm r s 1 false i)] (i||false) (fun y n z=>(IE N [(.bool w),(.imm (x.take (m*1)) m 1 false true)] true [(.bool y),(.imm (z.take (n*1)) n 1 false true)] true (fun aa=>(r0 aa))))) none))) none) none))) none) none))) none)
def MY (r0:Int→O R) (q0:O R) (b:LA) (d:Bool) (c:LA) (e:Bool):O R :=
 (cond (Nat.ble 3 (b.length)) (Ti N (b.take 3) d (fun o=>(cond (Nat.ble 3 (c.length)) (Ti N (c.take 3) e (fun p=>(cond (o != p) (Nr N o p (fun ab=>(r0 ab))) (cond (Nat.ble 3 (b.length)) (Hb N (b.take 3) d (fun ac ad ae=>(cond (Nat.ble 3 (c.length)) (Hb N (c.take 3) e (fun af ag ah=>(cond (ae==true) (cond (cond true ah false) (Ji N (wrap .i64 (ac*ag)) (wrap .i64 (af*ad)) (fun ai=>(r0 ai))) q0) q0))) none))) none)))) none))) none)
def Fx:=(Ae (fun (N:Nat) (b:LA) (d:Bool) (c:LA) (e:Bool) (r0:Int→O R)=>(MY N r0 (Sj N r0 d b e c) b d c e))).1
theorem fy (b d c e r0):(@Fx R N b d c e r0)=(MY N r0 (Sj N r0 d b e c) b d c e):=by rw[Fx,(Ae _).2]
def nM:Hints:={ H:=(hS hL (hS hL (hS hL (hS hL (hJ [2,3] hL hL))))) }
def tB:Dg:=[(95,XG N),(98,qK N),(99,MU N),(100,ft N),(101,AI N),(103,xk N),(102,Asj N)]
def Asl (F:KF R):=Hp Tryz.f59 nM (tB N) [] N F
def Y8 (F:KF R):Int→O R:=(fun aj=>F (iv aj) [])
def Asm (d:Bool) (b:LA) (e:Bool) (c:LA):St:=⟨[(2,(op 0)),(3,(op 1))],(hq [(bP d 0 b),(bP e 0 c)])⟩
def Asn (F:KF R):=Asl N F [1,1,1,1,1] []
theorem xq (F:KF R) (d:Bool) (b:LA) (e:Bool) (c:LA):A9 (Asn N F) (Asm d b e c)=(Sj N (Y8 F) d b e c):=by
 kernel_rfl
theorem nN (b:LA) (d:Bool) (c:LA) (e:Bool) (F:KF R):Cd (tB N) nM N 59 [(.pagg b d),(.pagg c e)] [] F=(Fx N b d c e (Y8 F)):=by
 rw[fy]
 exact Eq.trans (by kernel_rfl) (Bm (MY N (Y8 F) · b d c e) ((Aq ..).trans (xq N F d b e c)):_)
def gD (a:LA) (h:Ak) (k:KF R):O R :=
 match a,h with
 | [(.pagg b d),(.pagg c e)],[]=>(Fx N b d c e (Y8 k))
 | _,_=>none
theorem nO:An N 59 @gD:=by
 intro R Q a h k j;unfold gD;split;exact Ax (nN ..) (nN ..) ⟨XH N,qL N,MV N,fu N,AJ N,xm N,Ask N,trivial⟩;exact Az
def Sk:=Ay (nO N)
def Sm:=Ca (nO N)
def Nt (r0:LA→O R) (b c d:Int) (k1:Int→Int→O R) (e f:Int):O R :=
 (cond (f != 0) (cond (f==0) none (k1 f (Int.tmod e f))) (cond (e==0) none (Ck N (wrap .u64 (Int.tdiv d e)) (fun g l=>(cond (e==0) none (Ck N (wrap .u64 (Int.tdiv (wrap .u64 c) e)) (fun i m=>(r0 [(.bool (decide (b<0))),(.imm (l.take (g*1)) g 1 false false),(.imm (m.take (i*1)) i 1 false false)]))))))))
def Dx (r0:LA→O R) (b c d:Int):Nat→Int→Int→O R
 | 0,_,_=>none
 | n+1,e,f=>(Nt N r0 b c d (Dx r0 b c d n) e f)
def CH (N:Nat) (r0:LA→O R) (b c:Int) (q1:Int→Int→O R) (d:Int):O R :=
 (q1 (wrap .u64 c) d)
def Vy (r0:LA→O R) (b c:Int) (d:Int):O R:=(CH N r0 b c (fun e f=>(Dx N r0 b c d N e f)) d)
def FB (N:Nat) (r0:LA→O R) (q0:Int→O R) (b c:Int):O R :=
 (cond (decide (b<0)) (q0 (wrap .u64 ((0:Int) - (wrap .u64 b)))) (q0 (wrap .u64 b)))
def Jj:=(Ae (fun (N:Nat) (b c:Int) (r0:LA→O R)=>(FB N r0 (fun d=>(Vy N r0 b c d)) b c))).1
theorem bC (b c r0):(@Jj R N b c r0)=(FB N r0 (fun d=>(Vy N r0 b c d)) b c):=by rw[Jj,(Ae _).2]
def gF:Hints:={ H:=(hS hL (hS hL (hJ [0,1,4,5] hL (hS hL (hS (hS (hP [0,1,4,5,6,7] hL) hL) hL))))),modes:=[(3,0)] }
def nP:Dg:=[(149,Hq N)]
def gG (F:KF R):=Hp Tryz.f131 gF (nP N) [] N F
def Ic (F:KF R):LA→O R:=(fun o=>F (.pagg o false) [])
def Ak5 (b c d e f:Int):St:=⟨[(0,(iv b)),(1,(iv c)),(4,(op 0)),(5,(.int .u64 d)),(6,(.int .u64 e)),(7,(.int .u64 f))],(hq [⟨false,false,false,false,0,[(.bool false),.nsl,.nsl],false⟩])⟩
def Ak6 (F:KF R):=gG N F [1,1,1,1,0,0] []
def Ak7 (b c d:Int):St:=⟨[(0,(iv b)),(1,(iv c)),(4,(op 0)),(5,(.int .u64 d))],(hq [⟨false,false,false,false,0,[(.bool false),.nsl,.nsl],false⟩])⟩
def Ak8 (F:KF R):=gG N F [1,1,1] []
theorem MZ (F:KF R) (b c d:Int):∀ (n:Nat) (e f:Int),Ap (Ak6 N F) n (Ak5 b c d e f)=(Dx N (Ic F) b c d n e f)
 | 0,_,_=>by kernel_rfl
 | n+1,e,f=>Eq.trans (by kernel_rfl) (Bm (Nt N (Ic F) b c d · e f) (funext fun e=>funext fun f=>(MZ F b c d n e f)):_)
theorem tC (F:KF R) (b c:Int):∀ (d:Int),A9 (Ak8 N F) (Ak7 b c d)=(Vy N (Ic F) b c d):=by
 intro d
 exact Eq.trans (by kernel_rfl) (Bm (CH N (Ic F) b c · d) (funext fun e=>funext fun f=>(Ai ..).trans (MZ N F b c d N e f)):_)
theorem gH (b c:Int) (F:KF R):Cd (nP N) gF N 131 [(iv b),(iv c)] [] F=(Jj N b c (Ic F)):=by
 rw[bC]
 exact Eq.trans (by kernel_rfl) (Bm (FB N (Ic F) · b c) (funext fun d=>(Aq ..).trans (tC N F b c d)):_)
def bD (a:LA) (h:Ak) (k:KF R):O R :=
 match a,h with
 | [(.int .i64 b),(.int .i64 c)],[]=>(Jj N b c (Ic k))
 | _,_=>none
theorem gI:An N 131 @bD:=by
 intro R Q a h k j;unfold bD;split;exact Ax (gH ..) (gH ..) ⟨Hr N,trivial⟩;exact Az
def IF:=Ay (gI N)
def IG:=Ca (gI N)
end
end Gx

namespace Gx
open Go Go.Proofs
section
variable {R:Type}
def fit (k N:Nat):Prop:=100*k+1000≤N∧k≤1000000000
theorem fit.le {j k N:Nat} (h:fit k N) (C:j≤k):fit j N:=⟨by have:=h.1;omega,by have:=h.2;omega⟩
theorem ct (x y:O R):cond true x y=x:=rfl
theorem cf (x y:O R):cond false x y=y:=rfl
theorem A25 (x y:Bool):cond true x y=x:=rfl
theorem Bmw (x y:Bool):cond false x y=y:=rfl
theorem A9h (c:Nat):((decide (((c+1:Nat):Int)>(0:Int)))==true)=true:=by simp
theorem Iz {j n:Nat} (h:j<n):decide ((j:Int)<(n:Int))=true:=by simp;omega
theorem Kn {j n:Nat} (h:n≤j):decide ((j:Int)<(n:Int))=false:=by simp;omega
theorem wS {j:Nat} (h:j≤1000000000000):IntKind.wrap .i64 ((j:Int)+1)=((j+1:Nat):Int):=by rw[i64 (by omega)];omega
theorem wP {j:Nat} (h:j≤1000000000000):IntKind.wrap .i64 (((j+1:Nat):Int) - 1)=(j:Int):=by rw[i64 (by omega)];omega
theorem wA {j k:Nat} (h:j+k≤1000000000000):IntKind.wrap .i64 ((j:Int)+(k:Int))=((j+k:Nat):Int):=by rw[i64 (by omega)];omega
theorem eQ {l:List Nat} {j:Nat} (h:j<l.length) {f:Int→O R}:Ao .u32 (List.drop ((Int.toNat (j:Int))*1) (Af l)) f=f (l[j]:Nat):=by
 rw[Int.toNat_natCast,Nat.mul_one,A4c h]
theorem tD {l:List Nat} {j:Nat} (h:j<l.length) {f:Int→O R}:Ao .u32 (List.drop (0+((Int.toNat (j:Int))*1)) (Af l)) f=f (l[j]:Nat):=by
 rw[Nat.zero_add,eQ h]
theorem Bks {c a:Nat} (h:c≤a):((decide ((0:Int)≤(0:Int)))&&((decide ((0:Int)≤(c:Int)))&&((decide ((c:Int)≤(a:Int)))&&(decide ((a:Int)≤(a:Int))))))=true:=by
 simp;omega
theorem Bgl {n:Nat} (h:n≤1000000000000):((decide ((0:Int)≤(n:Int)))&&((decide ((n:Int)≤(n:Int)))&&((decide ((n:Int)≤(140737488355328:Int)))&&(decide (((n:Int)*((4:Nat):Int))≤(140737488355328:Int))))))=true:=by
 simp;omega
theorem Ava {x:Nat} {m:List Nat} (h:x<m.length):((Nat.beq 1 1)&&((Nat.ble ((0+((Int.toNat (x:Int))*1))+1) (List.length (Af m)))&&(!false)))=true:=by
 rw[Cg,Int.toNat_natCast];simp;omega
theorem gJ {x v:Nat} {m:List Nat}:List.set (Af m) (0+((Int.toNat (x:Int))*1)) (.int .u32 (v:Int))=Af (m.set x v):=by
 rw[Int.toNat_natCast,Nat.mul_one,Nat.zero_add,sK]
theorem A4y {l:List Nat} (h:Am l):l.take (As (val l)).length=As (val l):=by
 obtain⟨k,C⟩:=B0 h
 rw[congrArg (List.take (As (val l)).length) k,List.take_left]
theorem Oa {l:List Nat} (h:Am l):List.take ((As (val l)).length*1) (Af l)=Af (As (val l)):=by rw[Nat.mul_one,X3,A4y h]
theorem A5 {l:List Nat} {c:Nat} (h:c<l.length):val (l.take (c+1))=val (l.take c)+4294967296 ^ c*l[c]:=by
 rw[List.take_succ_eq_append_getElem h,A8r,List.length_take,Nat.min_eq_left (by omega)]
theorem Azy {l:List Nat} {c:Nat} (k:Am l) (h:c<l.length) (C:l[c]≠0):As (val (l.take (c+1)))=l.take (c+1):=by
 apply Bll (C0 k _)
 intro D
 rw[List.getLast_eq_getElem]
 simp only[List.length_take,Nat.min_eq_left (show c+1≤l.length by omega),Nat.add_sub_cancel,List.getElem_take]
 exact C
theorem Ak9 {N:Nat} {l:List Nat} {K:Nat→O R} (C:Am l) (hs:l.length≤1000000000000):∀ (c fuel:Nat),c≤l.length→c<fuel →
  X5 N K l.length (Af l) fuel (c:Int)=K (As (val (l.take c))).length
 | 0,fuel+1,D,_=>by
  rw[X5];unfold XB
  rw[show decide (((0:Nat):Int)>0)=false by simp]
  rw[show((false:Bool)==true)=false by rfl,cf,Bks (by omega),ct,Int.toNat_natCast];rfl
 | c+1,fuel+1,D,F=>by
  rw[X5];unfold XB
  rw[A9h,ct,wP (by omega),Aa (by omega),ct,tD (by omega),A25,Bks (by omega),ct,Ak9 C hs c fuel (by omega) (by omega),Int.toNat_natCast]
  by_cases k:l[c]=0
  ·rw[A5 (by omega),k];simp
  ·rw[Azy C (by omega) k,List.length_take,Nat.min_eq_left D]
   rw[show(((l[c]:Nat):Int)==0)=false by simp;exact k,cf]
theorem SM {N:Nat} {l:List Nat} {n:Nat} {K:Nat→O R} (hn:n=l.length) (C:Am l) (k:fit l.length N):X6 N n (Af l) K=K (As (val l)).length:=by
 subst hn
 have D:=k.1;have F:=k.2
 rw[qI];unfold sb
 dsimp only
 rw[Ak9 C (by omega) l.length N (Nat.le_refl _) (by omega),List.take_length]
theorem Avv {N:Nat} {l:List Nat} {t o:Bool} {K:LA→Nat→O R} (C:Am l) (hs:l.length≤1000000000000):∀ (c fuel:Nat),c≤l.length→c<fuel →
  Mc N K (Af l) l.length t o fuel (c:Int)=K (Af (As (val (l.take c)))) (As (val (l.take c))).length
 | 0,fuel+1,D,_=>by
  rw[Mc];unfold Y7
  rw[show decide (((0:Nat):Int)>0)=false by simp]
  rw[show((false:Bool)==true)=false by rfl,cf,Bks (by omega),ct,Int.toNat_natCast];rfl
 | c+1,fuel+1,D,F=>by
  rw[Mc];unfold Y7
  rw[A9h,ct,wP (by omega),Aa (by omega),ct,eQ (by omega),A25,Bks (by omega),ct,Avv C hs c fuel (by omega) (by omega),Int.toNat_natCast,Nat.mul_one,X3]
  by_cases k:l[c]=0
  ·rw[A5 (by omega),k];simp
  ·rw[Azy C (by omega) k,List.length_take,Nat.min_eq_left D]
   rw[show(((l[c]:Nat):Int)==0)=false by simp;exact k,cf]
theorem Cm {N:Nat} {l:List Nat} {n:Nat} {t o:Bool} {K:LA→Nat→O R} (hn:n=l.length) (C:Am l) (k:fit l.length N):Cv N (Af l) n t o K=K (Af (As (val l))) (As (val l)).length:=by
 subst hn
 have D:=k.1;have F:=k.2
 rw[mv];unfold XC
 dsimp only
 rw[Avv C (by omega) l.length N (Nat.le_refl _) (by omega),List.take_length]
theorem Bd6 {N:Nat} {K:LA→O R} (hN:1≤N):GH N K=K []:=by
 rw[nA];unfold XD
 cases N with
 | zero=>omega
 | succ N=>rw[Vv];rfl
end
end Gx

namespace Gx
open Go Go.RowKit
theorem Bd7 {P:Program} {f:Nat} {t:Tw} (G:Bja P f t) {W:World} {avs:LA} {vs:List Value} (hr:Reps (fun _ k=>k<W.heap.size) (fun _=>none) [] W avs vs)
  (D:(t.runK avs [] fun v h=>some (v,h))=some (.bool true,[])):Calls P f vs.toArray W fun e w'=>e=.returned (.bool true)∧Below W.heap.size W w':=by
 have S:SimH (fun _ k=>k<W.heap.size) (fun _=>none) [] W:=⟨fun _ _ h=>h,fun _ h=>h,fun b x C=>by simp[Au] at C,fun b x C=>by simp[Au] at C,fun b M x x' k o o' C=>by simp[Au] at C⟩
 refine Calls.mono (G avs [] _ _ D _ _ W vs S hr) ?_
 rintro e w' ⟨vc,J',β',rfl,F,I⟩
 rw[Rep] at I;subst I
 refine⟨rfl,F.os,F.tape,F.output,F.size,fun k L=>F.frame k L ?_⟩
 rintro⟨b,x,o,C,_⟩
 change Au [] b=some x at C
 simp[Au] at C
structure Opens (P:Program) (t:TypeId) {α:Type} (e:α→List AV) (n:Nat):Prop where
 size:P.cellsOf t=n
 pos:0<n
 len:∀ a,(e a).length=n
 read:∀ {H:Type} (enc:TypeId×Value→H) (W:World) (fuel:Nat) (cs:List Value) (d:DataW H) (ps:List MemPlace),DataW.trod enc P W 0 (fun _=>true) true fuel t cs=some (d,ps) →
  cs.length=n∧∃ a,RepCs (fun k=>k<W.heap.size) W (e a) (fun j=>cs[j]?) 0
theorem Avw {P:Program} {t:TypeId} {k:IntKind} (C:P.underlying t=some (.int k)) (D:P.cellsOf t=1):Opens P t (α:={ n:Int // (Lit.int k n).wf=true }) (fun n=>[.int k n.1]) 1:=by
 refine⟨D,by omega,fun _=>rfl,fun enc W fuel cs d ps h=>?_⟩
 obtain⟨n,rfl,_,F⟩:=DataW.trod_int C h
 exact⟨rfl,⟨n,F⟩,by simp[RepCs,RepC]⟩
theorem Abc {α β:Type} {e:α→List β} {n:Nat} (hn:0<n) (k:∀ a,(e a).length=n):∀ (l:List α) (j:Nat),(l.flatMap e)[j]?=(l[j/n]?).bind fun a=>(e a)[j%n]?
 | [],j=>by simp
 | a::r,j=>by
  rw[List.flatMap_cons]
  by_cases C:j<n
  ·rw[List.getElem?_append_left (by rw[k];exact C),Nat.div_eq_of_lt C,Nat.mod_eq_of_lt C];simp
  ·rw[List.getElem?_append_right (by rw[k];omega),k,Abc hn k r (j - n)]
   have D:j/n=(j - n)/n+1:=by
    have:=Nat.add_div_right (j - n) hn
    rw[show j - n+n=j by omega] at this;exact this
   have F:j%n=(j - n)%n:=by
    have:=Nat.add_mod_right (j - n) n
    rw[show j - n+n=j by omega] at this;exact this
   rw[D,F];simp
theorem gK {α β:Type} {e:α→List β} {n:Nat} (k:∀ a,(e a).length=n):∀ (l:List α),(l.flatMap e).length=l.length*n
 | []=>by simp
 | a::r=>by rw[List.flatMap_cons,List.length_append,k,gK k r,List.length_cons,Nat.succ_mul];omega
theorem A4z {α β:Type} {f:α→Option β}:∀ {l:List α} {r:List β},l.mapM f=some r→r.length=l.length∧∀ (i:Nat) (a:α),l[i]?=some a→f a=r[i]?
 | [],r,h=>by simp at h;subst h;simp
 | x::l,r,h=>by
  rw[List.mapM_cons] at h
  cases k:f x with
  | none=>simp[k] at h
  | some y =>
   cases C:l.mapM f with
   | none=>simp[k,C] at h
   | some ys =>
    simp[k,C] at h
    subst h
    obtain⟨D,F⟩:=A4z C
    refine⟨by simp[D],fun i a hi=>?_⟩
    cases i with
    | zero=>simp at hi;subst hi;simpa using k
    | succ i=>simpa using F i a (by simpa using hi)
theorem A40 {P:Program} {t U:TypeId} {α:Type} {e:α→LA} {n:Nat} (hu:P.underlying t=some (.slice U)) (hc:P.cellsOf t=1) (G:Opens P U e n) :
  Opens P t (α:={ l:List α // l.length≤maxLen }) (fun l=>[.imm (l.1.flatMap e) l.1.length n false false]) 1:=by
 refine⟨hc,by omega,fun _=>rfl,fun enc W fuel cs d ps h=>?_⟩
 cases fuel with
 | zero=>simp[DataW.trod] at h
 | succ fuel =>
  unfold DataW.trod at h
  simp only[hu] at h
  split at h
  all_goals first | (rename_i C;simp at C;done) | (rename_i C _;simp at C;done) | (rename_i C _ _;simp at C;done) | skip
  ·refine⟨rfl,⟨[],by simp⟩,?_⟩
   simp[RepCs,RepC]
  ·rename_i e' a len cap C
   simp at C;subst C
   split at h
   ·rename_i I
    obtain⟨hb,hlc,hcm⟩:=I
    refine⟨rfl,?_⟩
    cases hm:(List.range len).mapM (fun i=>(W.cells? 0 (a.add (i*P.cellsOf U)) (P.cellsOf U)).bind (DataW.trod enc P W 0 (fun _=>true) true fuel U)) with
    | none=>rw[hm] at h;simp at h
    | some Bbu =>
     obtain⟨h1,h2⟩:=A4z hm
     rw[G.size] at h2
     have each:∀ i:Nat,i<len→∃ x:α,∃ cs,W.cells? 0 (a.add (i*n)) n=some cs∧RepCs (fun k=>k<W.heap.size) W (e x) (fun j=>cs[j]?) 0:=by
      intro i hi
      have V:=h2 i i (by simp[hi])
      rw[List.getElem?_eq_getElem (by rw[h1];simpa using hi)] at V
      cases D:W.cells? 0 (a.add (i*n)) n with
      | none=>rw[D] at V;simp at V
      | some cs =>
       rw[D] at V
       obtain⟨_,x,C⟩:=G.read enc W fuel cs _ _ V
       exact⟨x,cs,rfl,C⟩
     have build:∀ m,m≤len→∃ l:List α,l.length=m∧∀ i x,l[i]?=some x→∃ cs,W.cells? 0 (a.add (i*n)) n=some cs∧RepCs (fun k=>k<W.heap.size) W (e x) (fun j=>cs[j]?) 0:=by
      intro m
      induction m with
      | zero=>intro _;exact⟨[],rfl,by simp⟩
      | succ m ih =>
       intro hm
       obtain⟨l,hl,L⟩:=ih (by omega)
       obtain⟨x,cs,hx1,hx2⟩:=each m (by omega)
       refine⟨l++[x],by simp[hl],fun i y S=>?_⟩
       rw[List.getElem?_append] at S
       split at S
       ·exact L i y S
       ·have:i=m:=by
         have:=(List.getElem?_eq_some_iff.1 S).1
         simp at this;omega
        subst this
        simp[hl] at S;subst S
        exact⟨cs,hx1,hx2⟩
     obtain⟨l,hl,L⟩:=build len (Nat.le_refl _)
     refine⟨⟨l,by omega⟩,?_⟩
     simp only[RepCs,RepC,and_true]
     refine⟨_,rfl,?_,some a,cap,by rw[hl],by omega,by simp,?_⟩
     ·exact gK G.len l
     ·by_cases h0:l.length=0
      ·exact .inl h0
      ·right
       refine⟨a,rfl,?_,?_⟩
       ·obtain⟨x,cs,C,_⟩:=each 0 (by omega)
        have:=World.cells?_block C G.pos
        rwa [Xx] at this
       ·rw[D7]
        intro j x T
        rw[Abc G.pos G.len] at T
        cases hq:l[j/n]? with
        | none=>rw[hq] at T;simp at T
        | some y =>
         rw[hq] at T
         simp at T
         obtain⟨cs,D,F⟩:=L (j/n) y hq
         rw[D7] at F
         obtain⟨u,Y,hu2⟩:=F (j%n) x T
         refine⟨u,?_,hu2⟩
         obtain⟨_,hlen,M⟩:=World.cells?_some D
         have hlt:j%n<n:=Nat.mod_lt _ G.pos
         have:=M (j%n) hlt
         rw[Addr.add_add,show j/n*n+j%n=j by rw[Nat.mul_comm];exact Nat.div_add_mod j n] at this
         simp only[Nat.zero_add] at Y ⊢
         rw[this];exact Y
   ·simp at h
  ·simp at h
end Gx

namespace Gx
open Go Go.RowKit
section
variable {P:Program} {W:World} {H:Type} {enc:TypeId×Value→H} {β:De} {h:Ak}
theorem Bce {t D:TypeId} {α:Type} {e:α→LA} {n:Nat} {a:Option Addr} {len cap:Nat} {d:DataW H} {p:List MemPlace} (C:P.underlying t=some (.slice D)) (F:P.cellsOf t=1) (G:Opens P D e n)
  (I:DataW.Trod enc P W 0 (fun _=>true) true t (.slice a len cap) d p):∃ l:List α,l.length≤maxLen∧Rep (fun _ k=>k<W.heap.size) β h W (.imm (l.flatMap e) l.length n false false) (.slice a len cap):=by
 obtain⟨fuel,L⟩:=I
 obtain⟨_,⟨l,M⟩,hr⟩:=(A40 C F G).read enc W fuel _ _ _ L
 refine⟨l,M,?_⟩
 simp only[RepCs,Value.cells,and_true] at hr
 obtain⟨u,C,hr⟩:=hr
 simp at C;subst C
 rw[Rep];exact hr
theorem Azz {k:IntKind} {n:Int}:Rep (fun _ k=>k<W.heap.size) β h W (.int k n) (.int k n):=by rw[Rep]
theorem Bhb:Reps (fun _ k=>k<W.heap.size) β h W [] []:=by rw[Reps]
theorem SN {x:AV} {xs:LA} {v:Value} {vs:List Value} (C:Rep (fun _ k=>k<W.heap.size) β h W x v) (D:Reps (fun _ k=>k<W.heap.size) β h W xs vs):Reps (fun _ k=>k<W.heap.size) β h W (x::xs) (v::vs):=by
 rw[Reps];exact⟨v,vs,rfl,C,D⟩
end
end Gx

namespace Gx
open Go Go.Proofs
open IntKind (wrap)
set_option maxRecDepth 100000
noncomputable section
variable {R:Type} (N:Nat)
def qT (N:Nat) (c b:Int) (r0:Int→O R):O R :=
 (cond (b==0) none (cond (b==0) none (r0 (Int.tmod (wrap .i64 ((Int.tmod c b)+b)) b))))
def Qw:=(Ae (@qT R)).1
theorem nQ:@Qw R=@qT R:=(Ae _).2
def tE (F:KF R):Int→O R:=(fun d=>F (iv d) [])
theorem tF (c b:Int) (F:KF R):Cd [] C6 N 12 [(iv c),(iv b)] [] F=(Qw N c b (tE F)):=by
 rw[nQ]
 kernel_rfl
def nR (a:LA) (h:Ak) (k:KF R):O R :=
 match a,h with
 | [(.int .i64 c),(.int .i64 b)],[]=>(Qw N c b (tE k))
 | _,_=>none
theorem tG:An N 12 @nR:=by
 intro R Q a h k j;unfold nR;split;exact Ax (tF ..) (tF ..) trivial;exact Az
def XL:=Ay (tG N)
def XM:=Ca (tG N)
def XN (N:Nat) (r0:Bool→O R) (c:LA) (b:Nat) (e f:Bool) (d:Int) (k0:Int→O R) (g:Int):O R :=
 (cond (decide (g<((b:Nat):Int))) (cond (Ac g b) (Ao .i64 (c.drop ((g.toNat)*1)) fun i=>(cond (i==d) (r0 true) (k0 (wrap .i64 (g+1))))) none) (r0 false))
def Ya (r0:Bool→O R) (c:LA) (b:Nat) (e f:Bool) (d:Int):Nat→Int→O R
 | 0,_=>none
 | n+1,g=>(XN N r0 c b e f d (Ya r0 c b e f d n) g)
def Ahq (N:Nat) (r0:Bool→O R) (q0:Int→O R) (c:LA) (b:Nat) (e f:Bool) (d:Int):O R :=
 (q0 0)
def qU:=(Ae (fun (N:Nat) (c:LA) (b:Nat) (e f:Bool) (d:Int) (r0:Bool→O R)=>(Ahq N r0 (fun g=>(Ya N r0 c b e f d N g)) c b e f d))).1
theorem Ala (c b e f d r0):(@qU R N c b e f d r0)=(Ahq N r0 (fun g=>(Ya N r0 c b e f d N g)) c b e f d):=by rw[qU,(Ae _).2]
def Avx:Hints:={ H:=(hS hL (hS (hS hL (hS (hP [0,1,5] hL) hL)) hL)) }
def Bd8 (F:KF R):=Hp Tryz.f45 Avx [] [] N F
def SO (F:KF R):Bool→O R:=(fun l=>F (.bool l) [])
def Bd9 (c:LA) (b:Nat) (e f:Bool) (d g:Int):St:=⟨[(0,(.imm c b 1 e f)),(1,(iv d)),(5,(iv g))],[]⟩
def Bea (F:KF R):=Bd8 N F [1,0,1,0] []
theorem tH (F:KF R) (c:LA) (b:Nat) (e f:Bool) (d:Int):∀ (n:Nat) (g:Int),Ap (Bea N F) n (Bd9 c b e f d g)=(Ya N (SO F) c b e f d n g)
 | 0,_=>by kernel_rfl
 | n+1,g=>Eq.trans (by kernel_rfl) (Bm (XN N (SO F) c b e f d · g) (funext fun g=>(tH F c b e f d n g)):_)
theorem Avy (c:LA) (b:Nat) (e f:Bool) (d:Int) (F:KF R):Cd [] Avx N 45 [(.imm c b 1 e f),(iv d)] [] F=(qU N c b e f d (SO F)):=by
 rw[Ala]
 exact Eq.trans (by kernel_rfl) (Bm (Ahq N (SO F) · c b e f d) (funext fun g=>(Ai ..).trans (tH N F c b e f d N g)):_)
def Alb (a:LA) (h:Ak) (k:KF R):O R :=
 match a,h with
 | [(.imm c b 1 e f),(.int .i64 d)],[]=>(qU N c b e f d (SO k))
 | _,_=>none
theorem Avz:An N 45 @Alb:=by
 intro R Q a h k j;unfold Alb;split;exact Ax (Avy ..) (Avy ..) trivial;exact Az
def Beb:=Ay (Avz N)
def Bec:=Ca (Avz N)
end
end Gx

namespace Gx
open Go Go.Proofs
open IntKind (wrap)
set_option maxRecDepth 100000
noncomputable section
variable {R:Type} (N:Nat)
def gL (N:Nat) (r0:LA→O R):O R :=
 (r0 [(.str ([]:List UInt8)),(.int .i64 0),(.int .i64 10),(.int .i64 40),(.imm [(.int .i64 20),(.int .i64 3),(.int .i64 10),(.int .i64 5)] 2 2 false false),(.int .i64 0),(.int .i64 5),(.int .i64 10),(.int .i64 15),(.int .i64 15),(.int .i64 0),(.int .i64 0),(.int .i64 0),(.int .i64 0),(.int .i64 0),(.int .i64 0),(.int .i64 0),(.int .i64 0),.nsl,(.int .i64 2),(.int .i64 1),(.int .i64 12)])
def Sn:=(Ae (@gL R)).1
theorem M_:@Sn R=@gL R:=(Ae _).2
def SP (F:KF R):LA→O R:=(fun b=>F (.pagg b false) [])
theorem SQ (F:KF R):Cd [] Lu N 46 [] [] F=(Sn N (SP F)):=by
 rw[M_]
 kernel_rfl
def M' (a:LA) (h:Ak) (k:KF R):O R :=
 match a,h with
 | [],[]=>(Sn N (SP k))
 | _,_=>none
theorem SR:An N 46 @M':=by
 intro R Q a h k j;unfold M';split;exact Ax (SQ ..) (SQ ..) trivial;exact Az
def xr:=Ay (SR N)
def xt:=Ca (SR N)
def Vz (N:Nat) (r0:Bool→O R) (c d:Int) (e:LA) (b:Nat) (f g:Bool) (k0:Int→Int→O R) (l i:Int):O R :=
 (cond (decide (i<l)) (cond (Ac i b) (Ao .i64 (e.drop ((i.toNat)*1)) fun m=>(cond ((decide (m<c))==false) (cond (cond false true (decide (m>d))) (r0 false) (k0 l (wrap .i64 (i+1)))) (r0 false))) none) (r0 true))
def Ka (r0:Bool→O R) (c d:Int) (e:LA) (b:Nat) (f g:Bool):Nat→Int→Int→O R
 | 0,_,_=>none
 | n+1,l,i=>(Vz N r0 c d e b f g (Ka r0 c d e b f g n) l i)
def NA (N:Nat) (r0:Bool→O R) (q0:Int→Int→O R) (c d:Int) (e:LA) (b:Nat) (f g:Bool):O R :=
 (q0 ((b:Nat):Int) 0)
def Dy:=(Ae (fun (N:Nat) (c d:Int) (e:LA) (b:Nat) (f g:Bool) (r0:Bool→O R)=>(NA N r0 (fun l i=>(Ka N r0 c d e b f g N l i)) c d e b f g))).1
theorem gM (c d e b f g r0):(@Dy R N c d e b f g r0)=(NA N r0 (fun l i=>(Ka N r0 c d e b f g N l i)) c d e b f g):=by rw[Dy,(Ae _).2]
def nS:Hints:={ H:=(hS hL (hS (hS hL (hS (hP [0,1,9,10,11] hL) hL)) hL)) }
def Aso (F:KF R):=Hp Tryz.f47 nS [] [] N F
def So (F:KF R):Bool→O R:=(fun o=>F (.bool o) [])
def Asp (c d:Int) (e:LA) (b:Nat) (f g:Bool) (l i:Int):St:=⟨[(0,(iv c)),(1,(iv d)),(9,(.imm e b 1 f g)),(10,(iv l)),(11,(iv i))],[]⟩
def Asq (F:KF R):=Aso N F [1,0,1,0] []
theorem ST (F:KF R) (c d:Int) (e:LA) (b:Nat) (f g:Bool):∀ (n:Nat) (l i:Int),Ap (Asq N F) n (Asp c d e b f g l i)=(Ka N (So F) c d e b f g n l i)
 | 0,_,_=>by kernel_rfl
 | n+1,l,i=>Eq.trans (by kernel_rfl) (Bm (Vz N (So F) c d e b f g · l i) (funext fun l=>funext fun i=>(ST F c d e b f g n l i)):_)
theorem nT (c d:Int) (e:LA) (b:Nat) (f g:Bool) (F:KF R):Cd [] nS N 47 [(iv c),(iv d),(.imm e b 1 f g)] [] F=(Dy N c d e b f g (So F)):=by
 rw[gM]
 exact Eq.trans (by kernel_rfl) (Bm (NA N (So F) · c d e b f g) (funext fun l=>funext fun i=>(Ai ..).trans (ST N F c d e b f g N l i)):_)
def gN (a:LA) (h:Ak) (k:KF R):O R :=
 match a,h with
 | [(.int .i64 c),(.int .i64 d),(.imm e b 1 f g)],[]=>(Dy N c d e b f g (So k))
 | _,_=>none
theorem nU:An N 47 @gN:=by
 intro R Q a h k j;unfold gN;split;exact Ax (nT ..) (nT ..) trivial;exact Az
def QH:=Ay (nU N)
def QI:=Ca (nU N)
def NB (N:Nat) (r0:Bool→O R) (c:Bool) (b:LA):O R :=
 (Ao .i64 (b.drop 20) fun l=>(cond ((decide (l<1))==false) (Ao .i64 (b.drop 20) fun m=>(cond (cond false true (decide (m>48))) (r0 false) (Ao .i64 (b.drop 19) fun o=>(cond ((o != 1)==false) (Ao .i64 (b.drop 20) fun p=>(Ao .i64 (b.drop 12) fun q=>(r0 (cond false true (decide (p≤q)))))) (r0 true))))) (r0 false)))
def XO (N:Nat) (r0:Bool→O R) (e f g i:Int) (c:Bool) (b:LA) (k0:Int→O R) (q1:O R) (d:Int):O R :=
 (cond (decide (d<4)) (cond (Ac d 4) (cond (Nat.beq ((d.toNat)*1) 0) (cond ((decide (e<0))==false) (cond (cond false true (decide (e>24))) (r0 false) (k0 (wrap .i64 (d+1)))) (r0 false)) (cond (Nat.beq ((d.toNat)*1) 1) (cond ((decide (f<0))==false) (cond (cond false true (decide (f>24))) (r0 false) (k0 (wrap .i64 (d+1)))) (r0 false)) (cond (Nat.beq ((d.toNat)*1) 2) (cond ((decide (g<0))==false) (cond (cond false true (decide (g>24))) (r0 false) (k0 (wrap .i64 (d+1)))) (r0 false)) (cond (Nat.beq ((d.toNat)*1) 3) (cond ((decide (i<0))==false) (cond (cond false true (decide (i>24))) (r0 false) (k0 (wrap .i64 (d+1)))) (r0 false)) none)))) none) (Ao .i64 (b.drop 19) fun r=>(cond ((r != 0)==true) (Ao .i64 (b.drop 19) fun s=>(cond ((cond true (s != 1) false)==true) (Ao .i64 (b.drop 19) fun t=>(cond (cond true (t != 2) false) (r0 false) q1)) q1)) q1)))
def Uu (r0:Bool→O R) (e f g i:Int) (c:Bool) (b:LA):Nat→Int→O R
 | 0,_=>none
 | n+1,d=>(XO N r0 e f g i c b (Uu r0 e f g i c b n) (NB N r0 c b) d)
def ko (N:Nat) (r0:Bool→O R) (q0:Int→Int→Int→Int→Int→O R) (b:LA) (c:Bool):O R :=
 (Ao .i64 (b.drop 10) fun e=>(Ao .i64 (b.drop 11) fun f=>(Ao .i64 (b.drop 12) fun g=>(Ao .i64 (b.drop 15) fun i=>(q0 e f g i 0)))))
def Ph:=(Ae (fun (N:Nat) (b:LA) (c:Bool) (r0:Bool→O R)=>(ko N r0 (fun e f g i d=>(Uu N r0 e f g i c b N d)) b c))).1
theorem tI (b c r0):(@Ph R N b c r0)=(ko N r0 (fun e f g i d=>(Uu N r0 e f g i c b N d)) b c):=by rw[Ph,(Ae _).2]
def Abd:Hints:={ H:=(hS hL (hS (hS hL (hS (hP [1,13,14] hL) hL)) (hJ [1] hL hL))) }
def Abe (F:KF R):=Hp Tryz.f48 Abd [] [] N F
def Uv (F:KF R):Bool→O R:=(fun u=>F (.bool u) [])
def A41 (c:Bool) (b:LA):St:=⟨[(1,(op 0))],(hq [(bP c 0 b)])⟩
def A42 (F:KF R):=Abe N F [1,1,1] []
def A43 (e f g i:Int) (c:Bool) (b:LA) (d:Int):St:=⟨[(1,(op 0)),(13,(.agg [(iv e),(iv f),(iv g),(iv i)])),(14,(iv d))],(hq [(bP c 0 b)])⟩
def A44 (F:KF R):=Abe N F [1,0,1,0] []
theorem Alc (F:KF R) (c:Bool) (b:LA):A9 (A42 N F) (A41 c b)=(NB N (Uv F) c b):=by
 kernel_rfl
theorem gO (F:KF R) (e f g i:Int) (c:Bool) (b:LA):∀ (n:Nat) (d:Int),Ap (A44 N F) n (A43 e f g i c b d)=(Uu N (Uv F) e f g i c b n d)
 | 0,_=>by kernel_rfl
 | n+1,d=>Eq.trans (by kernel_rfl) (fQ (XO N (Uv F) e f g i c b · · d) (funext fun d=>(gO F e f g i c b n d)) ((Aq ..).trans (Alc N F c b)):_)
theorem Abf (b:LA) (c:Bool) (F:KF R):Cd [] Abd N 48 [(.pagg b c)] [] F=(Ph N b c (Uv F)):=by
 rw[tI]
 exact Eq.trans (by kernel_rfl) (Bm (ko N (Uv F) · b c) (funext fun e=>funext fun f=>funext fun g=>funext fun i=>funext fun d=>(Ai ..).trans (gO N F e f g i c b N d)):_)
def tJ (a:LA) (h:Ak) (k:KF R):O R :=
 match a,h with
 | [(.pagg b c)],[]=>(Ph N b c (Uv k))
 | _,_=>none
theorem Abg:An N 48 @tJ:=by
 intro R Q a h k j;unfold tJ;split;exact Ax (Abf ..) (Abf ..) trivial;exact Az
def AN:=Ay (Abg N)
def AO:=Ca (Abg N)
def Ko (N:Nat) (k0:Int→Int→Int→O R) (r0:Bool→O R) (d:LA) (e:Nat) (c:Bool) (f:Int) (b:LA) (o l p:Int) (m:LA):O R :=
 (cond ((decide (l>0))==true) (Ao .i64 (m.drop 1) fun q=>(B9 2 (b.drop 4) fun r s=>(cond (Ac (wrap .i64 (l - 1)) s) (Ao .i64 ((r.drop (((wrap .i64 (l - 1)).toNat)*2)).drop 1) fun t=>(cond (cond true (decide (q<t)) false) (r0 false) (Ao .i64 m fun u=>(k0 (wrap .i64 (o+u)) f (wrap .i64 (p+1)))))) none))) (Ao .i64 m fun v=>(k0 (wrap .i64 (o+v)) f (wrap .i64 (p+1)))))
def Jk (r0:Bool→O R) (d:LA) (e:Nat) (c:Bool) (b:LA) (k0:Int→Int→Int→O R) (q1:Int→Int→Int→LA→O R) (i f g:Int):O R :=
 (cond (decide (g<f)) (cond (Ac g e) (cond (Nat.ble 2 ((d.drop ((g.toNat)*2)).length)) (cond ((!c)||(A8 ((d.drop ((g.toNat)*2)).take 2))) (cond ((Nat.beq (((d.drop ((g.toNat)*2)).take 2).length) 2)&&((Nat.ble 2 2)&&(!false))) (Ao .i64 (setCells [(.int .i64 0),(.int .i64 0)] 0 ((d.drop ((g.toNat)*2)).take 2)) fun w=>(Dy N 1 1048576 [(.int .i64 w)] 1 false true (fun x=>(cond ((!x)==false) (Ao .i64 ((setCells [(.int .i64 0),(.int .i64 0)] 0 ((d.drop ((g.toNat)*2)).take 2)).drop 1) fun y=>(Dy N (-1048576) 1048576 [(.int .i64 y)] 1 false true (fun z=>(cond (cond false true (!z)) (r0 false) (q1 i g g (setCells [(.int .i64 0),(.int .i64 0)] 0 ((d.drop ((g.toNat)*2)).take 2))))))) (r0 false))))) none) none) none) none) (Ao .i64 (b.drop 3) fun aa=>(Ao .i64 (b.drop 2) fun ab=>(r0 (i==(wrap .i64 (aa - ab)))))))
def Da (r0:Bool→O R) (d:LA) (e:Nat) (c:Bool) (b:LA):Nat→Int→Int→Int→O R
 | 0,_,_,_=>none
 | n+1,i,f,g=>(Jk N r0 d e c b (Da r0 d e c b n) (fun o l p m=>(Ko N (Da r0 d e c b n) r0 d e c f b o l p m)) i f g)
def Ov (N:Nat) (r0:Bool→O R) (q0:LA→Nat→Int→Int→Int→O R) (b:LA) (c:Bool):O R :=
 (B9 2 (b.drop 4) fun ae ac=>(cond (decide (((ac:Nat):Int)>8)) (r0 false) (B9 2 (b.drop 4) fun d e=>(q0 d e 0 ((e:Nat):Int) 0))))
def Fy:=(Ae (fun (N:Nat) (b:LA) (c:Bool) (r0:Bool→O R)=>(Ov N r0 (fun d e i f g=>(Da N r0 d e c b N i f g)) b c))).1
theorem AP (b c r0):(@Fy R N b c r0)=(Ov N r0 (fun d e i f g=>(Da N r0 d e c b N i f g)) b c):=by rw[Fy,(Ae _).2]
def DB:Hints:={ H:=(hS hL (hS hL (hS hL (hS (hS hL (hS (hP [1,3,11,12,13] (hS hL (hS hL (hS (hS (hS hL (hJ [1,3,4,5,11,12,13] hL hL)) hL) hL)))) hL)) hL)))) }
def IH:Dg:=[(47,QH N)]
def DC (F:KF R):=Hp Tryz.f49 DB (IH N) [] N F
def Ef (F:KF R):Bool→O R:=(fun ad=>F (.bool ad) [])
def lU (d:LA) (e:Nat) (c:Bool) (f:Int) (b:LA) (o l p:Int) (m:LA):St:=⟨[(1,(op 0)),(3,(iv o)),(4,(iv l)),(5,(op 1)),(11,(.imm d e 2 false c)),(12,(iv f)),(13,(iv p))],(hq [(bP c 0 b),(bQ 0 m)])⟩
def lV (F:KF R) (Q0:St→O R):=DC N F [1,1,1,0,1,0,0,1,1,0,0,1,1] [Q0]
def DD (d:LA) (e:Nat) (c:Bool) (b:LA) (i f g:Int):St:=⟨[(1,(op 0)),(3,(iv i)),(11,(.imm d e 2 false c)),(12,(iv f)),(13,(iv g))],(hq [(bP c 0 b)])⟩
def DE (F:KF R):=DC N F [1,1,1,0,1,0] []
theorem XP (Q0:St→O R) (F:KF R) (d:LA) (e:Nat) (c:Bool) (f:Int) (b:LA):∀ (o l p:Int) (m:LA),A9 (lV N F Q0) (lU d e c f b o l p m)=(Ko N (fun i f g=>Q0 (DD d e c b i f g)) (Ef F) d e c f b o l p m):=by
 intro o l p m
 kernel_rfl
theorem V0 (F:KF R) (d:LA) (e:Nat) (c:Bool) (b:LA):∀ (n:Nat) (i f g:Int),Ap (DE N F) n (DD d e c b i f g)=(Da N (Ef F) d e c b n i f g)
 | 0,_,_,_=>by kernel_rfl
 | n+1,i,f,g=>have e0:=(funext fun i=>funext fun f=>funext fun g=>(V0 F d e c b n i f g))
  Eq.trans (by kernel_rfl) (fQ (Jk N (Ef F) d e c b · · i f g) e0 (funext fun o=>funext fun l=>funext fun p=>funext fun m=>(Aq ..).trans ((XP N (Ap (DE N F) n) F d e c f b o l p m).trans (Bm (Ko N · (Ef F) d e c f b o l p m) e0))):_)
theorem DF (b:LA) (c:Bool) (F:KF R):Cd (IH N) DB N 49 [(.pagg b c)] [] F=(Fy N b c (Ef F)):=by
 rw[AP]
 exact Eq.trans (by kernel_rfl) (Bm (Ov N (Ef F) · b c) (funext fun d=>funext fun e=>funext fun i=>funext fun f=>funext fun g=>(Ai ..).trans (V0 N F d e c b N i f g)):_)
def AQ (a:LA) (h:Ak) (k:KF R):O R :=
 match a,h with
 | [(.pagg b c)],[]=>(Fy N b c (Ef k))
 | _,_=>none
theorem DG:An N 49 @AQ:=by
 intro R Q a h k j;unfold AQ;split;exact Ax (DF ..) (DF ..) ⟨QI N,trivial⟩;exact Az
def lW:=Ay (DG N)
def lX:=Ca (DG N)
def Qx (r0:Bool→O R) (c:LA) (b:Nat) (d e:Bool) (f:Int) (k0:Int→Int→O R) (i g:Int):O R :=
 (cond (decide (g<i)) (cond (Ac g b) (Ao .i64 (c.drop ((g.toNat)*1)) fun l=>(Dy N 0 (wrap .i64 (f - 1)) [(.int .i64 l)] 1 false true (fun m=>(cond ((!m)==false) (cond ((decide (g>0))==true) (cond (Ac (wrap .i64 (g - 1)) b) (Ao .i64 (c.drop (((wrap .i64 (g - 1)).toNat)*1)) fun o=>(cond (cond false true (cond true (decide (l≤o)) false)) (r0 false) (k0 i (wrap .i64 (g+1))))) none) (k0 i (wrap .i64 (g+1)))) (r0 false))))) none) (r0 true))
def G0 (r0:Bool→O R) (c:LA) (b:Nat) (d e:Bool) (f:Int):Nat→Int→Int→O R
 | 0,_,_=>none
 | n+1,i,g=>(Qx N r0 c b d e f (G0 r0 c b d e f n) i g)
def Y9 (N:Nat) (r0:Bool→O R) (q0:Int→Int→O R) (c:LA) (b:Nat) (d e:Bool) (f:Int):O R :=
 (q0 ((b:Nat):Int) 0)
def Me:=(Ae (fun (N:Nat) (c:LA) (b:Nat) (d e:Bool) (f:Int) (r0:Bool→O R)=>(Y9 N r0 (fun i g=>(G0 N r0 c b d e f N i g)) c b d e f))).1
theorem SU (c b d e f r0):(@Me R N c b d e f r0)=(Y9 N r0 (fun i g=>(G0 N r0 c b d e f N i g)) c b d e f):=by rw[Me,(Ae _).2]
def bE:Hints:={ H:=(hS hL (hS (hS hL (hS (hP [0,1,7,8,9] hL) hL)) hL)) }
def gP:Dg:=[(47,QH N)]
def Afe (F:KF R):=Hp Tryz.f50 bE (gP N) [] N F
def Nu (F:KF R):Bool→O R:=(fun p=>F (.bool p) [])
def Aff (c:LA) (b:Nat) (d e:Bool) (f i g:Int):St:=⟨[(0,(.imm c b 1 d e)),(1,(iv f)),(7,(.imm c b 1 d e)),(8,(iv i)),(9,(iv g))],[]⟩
def Afg (F:KF R):=Afe N F [1,0,1,0] []
theorem II (F:KF R) (c:LA) (b:Nat) (d e:Bool) (f:Int):∀ (n:Nat) (i g:Int),Ap (Afg N F) n (Aff c b d e f i g)=(G0 N (Nu F) c b d e f n i g)
 | 0,_,_=>by kernel_rfl
 | n+1,i,g=>Eq.trans (by kernel_rfl) (Bm (Qx N (Nu F) c b d e f · i g) (funext fun i=>funext fun g=>(II F c b d e f n i g)):_)
theorem bF (c:LA) (b:Nat) (d e:Bool) (f:Int) (F:KF R):Cd (gP N) bE N 50 [(.imm c b 1 d e),(iv f)] [] F=(Me N c b d e f (Nu F)):=by
 rw[SU]
 exact Eq.trans (by kernel_rfl) (Bm (Y9 N (Nu F) · c b d e f) (funext fun i=>funext fun g=>(Ai ..).trans (II N F c b d e f N i g)):_)
def SV (a:LA) (h:Ak) (k:KF R):O R :=
 match a,h with
 | [(.imm c b 1 d e),(.int .i64 f)],[]=>(Me N c b d e f (Nu k))
 | _,_=>none
theorem bG:An N 50 @SV:=by
 intro R Q a h k j;unfold SV;split;exact Ax (bF ..) (bF ..) ⟨QI N,trivial⟩;exact Az
def Afh:=Ay (bG N)
def Afi:=Ca (bG N)
def gQ (r0:Bool→O R) (d:Int) (c:Bool) (b:LA):O R :=
 (Ao .i64 (b.drop 2) fun e=>(Ao .i64 (b.drop 3) fun f=>(Ao .i64 (b.drop 8) fun g=>(Ao .i64 (b.drop 9) fun i=>(Dy N e f [(.int .i64 g),(.int .i64 i)] 2 false true (fun l=>(cond (!l) (r0 false) (Ao .i64 (b.drop 5) fun m=>(Ao .i64 (b.drop 13) fun n=>(Ao .i64 (b.drop 14) fun o=>(Ao .i64 (b.drop 17) fun p=>(Dy N 0 1048576 [(.int .i64 m),(.int .i64 n),(.int .i64 o),(.int .i64 p)] 4 false true (fun q=>(cond (!q) (r0 false) (Ao .i64 (b.drop 19) fun r=>(cond (r==2) (Ao .i64 (b.drop 2) fun s=>(Ao .i64 (b.drop 3) fun t=>(Ao .i64 (b.drop 21) fun u=>(Dy N s t [(.int .i64 u)] 1 false true (fun v=>(cond (!v) (r0 false) (cond (Nat.ble 22 (b.length)) (Fy N (b.take 22) c (fun w=>(cond (w==true) (B9 1 (b.drop 18) fun x y=>(Me N x y false c d (fun z=>(r0 (cond true z false))))) (r0 false)))) none))))))) (Ao .i64 (b.drop 21) fun aa=>(cond (aa != 0) (r0 false) (cond (Nat.ble 22 (b.length)) (Fy N (b.take 22) c (fun ab=>(cond (ab==true) (B9 1 (b.drop 18) fun ac ad=>(Me N ac ad false c d (fun ae=>(r0 (cond true ae false))))) (r0 false)))) none)))))))))))))))))))
def XQ (r0:Bool→O R) (d:Int) (c:Bool) (b:LA) (q1:O R):O R :=
 (Ao .i64 (b.drop 2) fun af=>(Ao .i64 (b.drop 3) fun ag=>(Ao .i64 (b.drop 6) fun ah=>(Ao .i64 (b.drop 7) fun ai=>(Ao .i64 (b.drop 16) fun aj=>(Dy N 0 1048576 [(.int .i64 af),(.int .i64 ag),(.int .i64 ah),(.int .i64 ai),(.int .i64 aj)] 5 false true (fun ak=>(cond ((!ak)==false) (Ao .i64 (b.drop 2) fun al=>(Ao .i64 (b.drop 3) fun am=>(cond (cond false true (decide (al>am))) (r0 false) q1))) (r0 false)))))))))
def NC (r0:Bool→O R) (d:Int) (c:Bool) (b:LA):O R:=(XQ N r0 d c b (gQ N r0 d c b))
def kp (r0:Bool→O R) (q0:O R) (b:LA) (c:Bool) (d:Int):O R :=
 (Dy N 1 24 [(.int .i64 d)] 1 false true (fun an=>(cond ((!an)==false) (cond (Nat.ble 22 (b.length)) (Ph N (b.take 22) c (fun ao=>(cond (cond false true (!ao)) (r0 false) q0))) none) (r0 false))))
def V1:=(Ae (fun (N:Nat) (b:LA) (c:Bool) (d:Int) (r0:Bool→O R)=>(kp N r0 (NC N r0 d c b) b c d))).1
theorem tK (b c d r0):(@V1 R N b c d r0)=(kp N r0 (NC N r0 d c b) b c d):=by rw[V1,(Ae _).2]
def Abh:Hints:={ H:=(hS hL (hJ [1,2] hL (hJ [1,2] hL hL))) }
def Ald:Dg:=[(47,QH N),(48,AN N),(49,lW N),(50,Afh N)]
def Abi (F:KF R):=Hp Tryz.f16 Abh (Ald N) [] N F
def Uw (F:KF R):Bool→O R:=(fun ap=>F (.bool ap) [])
def A45 (d:Int) (c:Bool) (b:LA):St:=⟨[(1,(iv d)),(2,(op 0))],(hq [(bP c 0 b)])⟩
def A46 (F:KF R):=Abi N F [1,1,1] []
def A47 (d:Int) (c:Bool) (b:LA):St:=⟨[(1,(iv d)),(2,(op 0))],(hq [(bP c 0 b)])⟩
def A48 (F:KF R):=Abi N F [1,1] []
theorem Ale (F:KF R) (d:Int) (c:Bool) (b:LA):A9 (A46 N F) (A45 d c b)=(gQ N (Uw F) d c b):=by
 kernel_rfl
theorem Alf (F:KF R) (d:Int) (c:Bool) (b:LA):A9 (A48 N F) (A47 d c b)=(NC N (Uw F) d c b):=by
 exact Eq.trans (by kernel_rfl) (Bm (XQ N (Uw F) d c b ·) ((Aq ..).trans (Ale N F d c b)):_)
theorem Abj (b:LA) (c:Bool) (d:Int) (F:KF R):Cd (Ald N) Abh N 16 [(.pagg b c),(iv d)] [] F=(V1 N b c d (Uw F)):=by
 rw[tK]
 exact Eq.trans (by kernel_rfl) (Bm (kp N (Uw F) · b c d) ((Aq ..).trans (Alf N F d c b)):_)
def tL (a:LA) (h:Ak) (k:KF R):O R :=
 match a,h with
 | [(.pagg b c),(.int .i64 d)],[]=>(V1 N b c d (Uw k))
 | _,_=>none
theorem Abk:An N 16 @tL:=by
 intro R Q a h k j;unfold tL;split;exact Ax (Abj ..) (Abj ..) ⟨QI N,AO N,lX N,Afi N,trivial⟩;exact Az
def ND:=Ay (Abk N)
def NE:=Ca (Abk N)
end
end Gx

namespace Gx
open Go Go.Proofs
open IntKind (wrap)
set_option maxRecDepth 100000
noncomputable section
variable {R:Type} (N:Nat)
def Alg (d:LA) (e:Nat) (f c:Bool) (r0:Nat→LA→O R):O R :=
 (Cv N d e f c (fun g b=>(cond ((decide (0≤((b:Nat):Int)))&&((decide (((b:Nat):Int)≤((b:Nat):Int)))&&((decide (((b:Nat):Int)≤140737488355328))&&(decide ((((b:Nat):Int)*((4:Nat):Int))≤140737488355328))))) (cond ((!c)||(A8 g)) (r0 b (C3 (List.replicate b (.int .u32 0)) 0 (g.take ((min b b)*1)))) none) none)))
def FC:=(Ae (@Alg R)).1
theorem Abl:@FC R=@Alg R:=(Ae _).2
def Bed:Dg:=[(171,Vt N)]
def Alh (F:KF R):Nat→LA→O R:=(fun i l=>F (.own 300000 0 i) (hq [(bQ 1 l)]))
theorem Ali (d:LA) (e:Nat) (f c:Bool) (F:KF R):Cd (Bed N) Bg9 N 173 [(.imm d e 1 f c)] [] F=(FC N d e f c (Alh F)):=by
 rw[Abl]
 kernel_rfl
def Abm (a:LA) (h:Ak) (k:KF R):O R :=
 match a,h with
 | [(.imm d e 1 f c)],[]=>(FC N d e f c (Alh k))
 | _,_=>none
theorem Alj:An N 173 @Abm:=by
 intro R Q a h k j;unfold Abm;split;exact Ax (Ali ..) (Ali ..) ⟨Vu N,trivial⟩;exact Az
def XR:=Ay (Alj N)
def XS:=Ca (Alj N)
def Alk (b:LA) (c:Bool) (r0:Bool→Nat→LA→O R):O R :=
 (RW b fun f=>(B9 1 (b.drop 1) fun g i=>(FC N g i false c (fun d e=>(Kz N f d e (fun l=>(r0 l d e)))))))
def tM:=(Ae (@Alk R)).1
theorem Abn:@tM R=@Alk R:=(Ae _).2
def Bee:Dg:=[(173,XR N),(148,E_ N)]
def All (F:KF R):Bool→Nat→LA→O R:=(fun m n o=>F (.agg [(.bool m),(.own 300000 0 n)]) (hq [(bQ 1 o)]))
theorem Alm (b:LA) (c:Bool) (F:KF R):Cd (Bee N) C6 N 172 [(.pagg b c)] [] F=(tM N b c (All F)):=by
 rw[Abn]
 kernel_rfl
def Abo (a:LA) (h:Ak) (k:KF R):O R :=
 match a,h with
 | [(.pagg b c)],[]=>(tM N b c (All k))
 | _,_=>none
theorem Aln:An N 172 @Abo:=by
 intro R Q a h k j;unfold Abo;split;exact Ax (Alm ..) (Alm ..) ⟨XS N,E' N,trivial⟩;exact Az
def A9i:=Ay (Aln N)
def A9j:=Ca (Aln N)
def Fz (N:Nat) (r0:Int→O R) (b c:Int):O R :=
 (cond (decide (b≥256)) (cond (Ac (wrap .u8 (Int.fdiv b (2 ^ 8))) 256) (r0 (wrap .i64 ((wrap .i64 (c+8))+(wrap .i64 ((UInt8.toNat (List.getD ([0,1,2,2,3,3,3,3,4,4,4,4,4,4,4,4,5,5,5,5,5,5,5,5,5,5,5,5,5,5,5,5,6,6,6,6,6,6,6,6,6,6,6,6,6,6,6,6,6,6,6,6,6,6,6,6,6,6,6,6,6,6,6,6,7,7,7,7,7,7,7,7,7,7,7,7,7,7,7,7,7,7,7,7,7,7,7,7,7,7,7,7,7,7,7,7,7,7,7,7,7,7,7,7,7,7,7,7,7,7,7,7,7,7,7,7,7,7,7,7,7,7,7,7,7,7,7,7,8,8,8,8,8,8,8,8,8,8,8,8,8,8,8,8,8,8,8,8,8,8,8,8,8,8,8,8,8,8,8,8,8,8,8,8,8,8,8,8,8,8,8,8,8,8,8,8,8,8,8,8,8,8,8,8,8,8,8,8,8,8,8,8,8,8,8,8,8,8,8,8,8,8,8,8,8,8,8,8,8,8,8,8,8,8,8,8,8,8,8,8,8,8,8,8,8,8,8,8,8,8,8,8,8,8,8,8,8,8,8,8,8,8,8,8,8,8,8,8,8,8,8,8,8,8,8,8]:List UInt8) ((wrap .u8 (Int.fdiv b (2 ^ 8))).toNat) 0):Nat):Int))))) none) (cond (Ac (wrap .u8 b) 256) (r0 (wrap .i64 (c+(wrap .i64 ((UInt8.toNat (List.getD ([0,1,2,2,3,3,3,3,4,4,4,4,4,4,4,4,5,5,5,5,5,5,5,5,5,5,5,5,5,5,5,5,6,6,6,6,6,6,6,6,6,6,6,6,6,6,6,6,6,6,6,6,6,6,6,6,6,6,6,6,6,6,6,6,7,7,7,7,7,7,7,7,7,7,7,7,7,7,7,7,7,7,7,7,7,7,7,7,7,7,7,7,7,7,7,7,7,7,7,7,7,7,7,7,7,7,7,7,7,7,7,7,7,7,7,7,7,7,7,7,7,7,7,7,7,7,7,7,8,8,8,8,8,8,8,8,8,8,8,8,8,8,8,8,8,8,8,8,8,8,8,8,8,8,8,8,8,8,8,8,8,8,8,8,8,8,8,8,8,8,8,8,8,8,8,8,8,8,8,8,8,8,8,8,8,8,8,8,8,8,8,8,8,8,8,8,8,8,8,8,8,8,8,8,8,8,8,8,8,8,8,8,8,8,8,8,8,8,8,8,8,8,8,8,8,8,8,8,8,8,8,8,8,8,8,8,8,8,8,8,8,8,8,8,8,8,8,8,8,8,8,8,8,8,8,8]:List UInt8) ((wrap .u8 b).toNat) 0):Nat):Int))))) none))
def Qy (N:Nat) (r0:Int→O R) (q0:Int→Int→O R) (d:Int):O R :=
 (cond (decide (d≥65536)) (q0 (Int.fdiv d (2 ^ 16)) 16) (q0 d 0))
def Jb:=(Ae (fun (N:Nat) (d:Int) (r0:Int→O R)=>(Qy N r0 (fun b c=>(Fz N r0 b c)) d))).1
theorem DH (d r0):(@Jb R N d r0)=(Qy N r0 (fun b c=>(Fz N r0 b c)) d):=by rw[Jb,(Ae _).2]
def IJ:Hints:={ H:=(hS hL (hJ [0,2] hL hL)) }
def qV (F:KF R):=Hp Tryz.f205 IJ [] [] N F
def Mf (F:KF R):Int→O R:=(fun e=>F (iv e) [])
def qW (b c:Int):St:=⟨[(0,(.int .u32 b)),(2,(iv c))],[]⟩
def qX (F:KF R):=qV N F [1,1] []
theorem eR (F:KF R):∀ (b c:Int),A9 (qX N F) (qW b c)=(Fz N (Mf F) b c):=by
 intro b c
 kernel_rfl
theorem IK (d:Int) (F:KF R):Cd [] IJ N 205 [(.int .u32 d)] [] F=(Jb N d (Mf F)):=by
 rw[DH]
 exact Eq.trans (by kernel_rfl) (Bm (Qy N (Mf F) · d) (funext fun b=>funext fun c=>(Aq ..).trans (eR N F b c)):_)
def DI (a:LA) (h:Ak) (k:KF R):O R :=
 match a,h with
 | [(.int .u32 d)],[]=>(Jb N d (Mf k))
 | _,_=>none
theorem IL:An N 205 @DI:=by
 intro R Q a h k j;unfold DI;split;exact Ax (IK ..) (IK ..) trivial;exact Az
def qY:=Ay (IL N)
def qZ:=Ca (IL N)
def I3 (b:Int) (r0:Int→O R):O R :=
 (Jb N b (fun c=>(r0 (wrap .i64 (32 - c)))))
def Cp:=(Ae (@I3 R)).1
theorem Nv:@Cp R=@I3 R:=(Ae _).2
def IM:Dg:=[(205,qY N)]
def Ow (F:KF R):Int→O R:=(fun d=>F (iv d) [])
theorem Ox (b:Int) (F:KF R):Cd (IM N) C6 N 200 [(.int .u32 b)] [] F=(Cp N b (Ow F)):=by
 rw[Nv]
 kernel_rfl
def Nw (a:LA) (h:Ak) (k:KF R):O R :=
 match a,h with
 | [(.int .u32 b)],[]=>(Cp N b (Ow k))
 | _,_=>none
theorem Oy:An N 200 @Nw:=by
 intro R Q a h k j;unfold Nw;split;exact Ax (Ox ..) (Ox ..) ⟨qZ N,trivial⟩;exact Az
def Oz:=Ay (Oy N)
def O0:=Ca (Oy N)
def QJ (N:Nat) (f:Int) (c:LA) (b:Nat) (d e:Bool) (r0:Int→O R):O R :=
 (cond (decide (f<((b:Nat):Int))) (cond (Ac f b) (Ao .u32 (c.drop ((f.toNat)*1)) fun g=>(r0 (wrap .u64 g))) none) (r0 0))
def Mg:=(Ae (@QJ R)).1
theorem SW:@Mg R=@QJ R:=(Ae _).2
def bH (c:LA) (b:Nat) (d e:Bool) (F:KF R):Int→O R:=(fun i=>F (.int .u64 i) [(100000,⟨false,false,false,false,0,[(.imm c b 1 d e)],false⟩)])
theorem bI (f:Int) (c:LA) (b:Nat) (d e:Bool) (F:KF R):Cd [] C6 N 206 [(iv f),(.optr 100000 0)] [(100000,⟨false,false,false,false,0,[(.imm c b 1 d e)],false⟩)] F=(Mg N f c b d e (bH c b d e F)):=by
 rw[SW]
 kernel_rfl
def SX (a:LA) (h:Ak) (k:KF R):O R :=
 match a,h with
 | [(.int .i64 f),(.optr 100000 0)],[(100000,⟨false,false,false,false,0,[(.imm c b 1 d e)],false⟩)]=>(Mg N f c b d e (bH c b d e k))
 | _,_=>none
theorem bJ:An N 206 @SX:=by
 intro R Q a h k j;unfold SX;split;exact Ax (bI ..) (bI ..) trivial;exact Az
def Afj:=Ay (bJ N)
def Afk:=Ca (bJ N)
def q_ (c:LA) (d:Nat) (e f:Bool) (g b:Int) (r0:Int→O R):O R :=
 (Mg N (wrap .i64 (g - 1)) c d e f (fun i=>(Mg N (wrap .i64 (g - 2)) c d e f (fun l=>(cond (decide (b<0)) none (Mg N (wrap .i64 (g - 3)) c d e f (fun m=>(cond (decide ((wrap .i64 (32 - b))<0)) none (r0 (Uo .u64 (wrap .u64 ((Uo .u64 (wrap .u64 (i*2 ^ 32)) l)*2 ^ (min (b.toNat) 64))) (Int.fdiv m (2 ^ (min ((wrap .i64 (32 - b)).toNat) 64)))))))))))))
def GK:=(Ae (@q_ R)).1
theorem nV:@GK R=@q_ R:=(Ae _).2
def A49:Dg:=[(206,Afj N)]
def tN (F:KF R):Int→O R:=(fun n=>F (.int .u64 n) [])
theorem tO (c:LA) (d:Nat) (e f:Bool) (g b:Int) (F:KF R):Cd (A49 N) C6 N 201 [(.imm c d 1 e f),(iv g),(iv b)] [] F=(GK N c d e f g b (tN F)):=by
 rw[nV]
 kernel_rfl
def nW (a:LA) (h:Ak) (k:KF R):O R :=
 match a,h with
 | [(.imm c d 1 e f),(.int .i64 g),(.int .i64 b)],[]=>(GK N c d e f g b (tN k))
 | _,_=>none
theorem tP:An N 201 @nW:=by
 intro R Q a h k j;unfold nW;split;exact Ax (tO ..) (tO ..) ⟨Afk N,trivial⟩;exact Az
def Az0:=Ay (tP N)
def Az1:=Ca (tP N)
def Za (N:Nat) (k0:Int→Int→Int→Int→Int→Int→Int→Int→Bool→O R) (r0:LA→O R) (q o r s t u:Int) (w:Bool):O R :=
 (cond (o==0) none (cond (o==0) none (k0 o (Int.tmod q o) r s (wrap .u64 (r+(wrap .u64 ((wrap .u64 (Int.tdiv q o))*s)))) t u (wrap .u64 (t+(wrap .u64 ((wrap .u64 (Int.tdiv q o))*u)))) (!w))))
def K6 (N:Nat) (r0:LA→O R) (k0:Int→Int→Int→Int→Int→Int→Int→Int→Bool→O R) (q1:Int→Int→Int→Int→Int→Int→Bool→O R) (g c i d m l b e:Int) (f:Bool):O R :=
 (cond ((decide (c≥e))==true) (cond (cond true (decide ((wrap .u64 (g - c))≥(wrap .u64 (b+e)))) false) (q1 g c d m b e f) (r0 [(.int .u64 i),(.int .u64 d),(.int .u64 l),(.int .u64 b),(.bool f)])) (r0 [(.int .u64 i),(.int .u64 d),(.int .u64 l),(.int .u64 b),(.bool f)]))
def E4 (r0:LA→O R):Nat→Int→Int→Int→Int→Int→Int→Int→Int→Bool→O R
 | 0,_,_,_,_,_,_,_,_,_=>none
 | n+1,g,c,i,d,m,l,b,e,f=>(K6 N r0 (E4 r0 n) (fun q o r s t u w=>(Za N (E4 r0 n) r0 q o r s t u w)) g c i d m l b e f)
def NF (r0:LA→O R) (q0:Int→Int→Int→Int→Int→Int→Int→Int→Bool→O R) (v:LA) (p:Nat) (ab x:Bool) (y:LA) (z:Nat) (ac aa:Bool):O R :=
 (cond (Ac (wrap .i64 (((p:Nat):Int) - 1)) p) (Ao .u32 (v.drop (((wrap .i64 (((p:Nat):Int) - 1)).toNat)*1)) fun ae=>(Cp N ae (fun ad=>(GK N v p false x ((p:Nat):Int) ad (fun af=>(GK N y z false aa ((p:Nat):Int) ad (fun ag=>(q0 af ag 0 1 0 0 0 1 false)))))))) none)
def Yb:=(Ae (fun (N:Nat) (v:LA) (p:Nat) (ab x:Bool) (y:LA) (z:Nat) (ac aa:Bool) (r0:LA→O R)=>(NF N r0 (fun g c i d m l b e f=>(E4 N r0 N g c i d m l b e f)) v p ab x y z ac aa))).1
theorem gR (v p ab x y z ac aa r0):(@Yb R N v p ab x y z ac aa r0)=(NF N r0 (fun g c i d m l b e f=>(E4 N r0 N g c i d m l b e f)) v p ab x y z ac aa):=by rw[Yb,(Ae _).2]
def nX:Hints:={ H:=(hS hL (hS hL (hS hL (hS hL (hS hL (hS hL (hS hL (hS (hS (hP [4,7,8,9,10,11,12,13,14,15] (hJ [4,7,8,10,11,13,14,15] hL hL)) hL) hL)))))))),modes:=[(3,0)] }
def tQ:Dg:=[(200,Oz N),(201,Az0 N)]
def nY (F:KF R):=Hp Tryz.f195 nX (tQ N) [] N F
def Kb (F:KF R):LA→O R:=(fun ah=>F (.pagg ah false) [])
def Asr (q o r s t u:Int) (w:Bool):St:=⟨[(4,(op 0)),(7,(.int .u64 q)),(8,(.int .u64 o)),(10,(.int .u64 r)),(11,(.int .u64 s)),(13,(.int .u64 t)),(14,(.int .u64 u)),(15,(.bool w))],(hq [(bQ 0 [(.int .u64 0),(.int .u64 0),(.int .u64 0),(.int .u64 0),(.bool false)])])⟩
def Ass (F:KF R) (Q0:St→O R):=nY N F [1,1,1,1,1,1,1,0,0,0,1] [Q0]
def nZ (g c i d m l b e:Int) (f:Bool):St:=⟨[(4,(op 0)),(7,(.int .u64 g)),(8,(.int .u64 c)),(9,(.int .u64 i)),(10,(.int .u64 d)),(11,(.int .u64 m)),(12,(.int .u64 l)),(13,(.int .u64 b)),(14,(.int .u64 e)),(15,(.bool f))],(hq [(bQ 0 [(.int .u64 0),(.int .u64 0),(.int .u64 0),(.int .u64 0),(.bool false)])])⟩
def n0 (F:KF R):=nY N F [1,1,1,1,1,1,1,0,0] []
theorem xu (Q0:St→O R) (F:KF R):∀ (q o r s t u:Int) (w:Bool),A9 (Ass N F Q0) (Asr q o r s t u w)=(Za N (fun g c i d m l b e f=>Q0 (nZ g c i d m l b e f)) (Kb F) q o r s t u w):=by
 intro q o r s t u w
 kernel_rfl
theorem SY (F:KF R):∀ (n:Nat) (g c i d m l b e:Int) (f:Bool),Ap (n0 N F) n (nZ g c i d m l b e f)=(E4 N (Kb F) n g c i d m l b e f)
 | 0,_,_,_,_,_,_,_,_,_=>by kernel_rfl
 | n+1,g,c,i,d,m,l,b,e,f=>have e0:=(funext fun g=>funext fun c=>funext fun i=>funext fun d=>funext fun m=>funext fun l=>funext fun b=>funext fun e=>funext fun f=>(SY F n g c i d m l b e f))
  Eq.trans (by kernel_rfl) (fQ (K6 N (Kb F) · · g c i d m l b e f) e0 (funext fun q=>funext fun o=>funext fun r=>funext fun s=>funext fun t=>funext fun u=>funext fun w=>(Aq ..).trans ((xu N (Ap (n0 N F) n) F q o r s t u w).trans (Bm (Za N · (Kb F) q o r s t u w) e0))):_)
theorem n6 (v:LA) (p:Nat) (ab x:Bool) (y:LA) (z:Nat) (ac aa:Bool) (F:KF R):Cd (tQ N) nX N 195 [(.imm v p 1 ab x),(.imm y z 1 ac aa)] [] F=(Yb N v p ab x y z ac aa (Kb F)):=by
 rw[gR]
 exact Eq.trans (by kernel_rfl) (Bm (NF N (Kb F) · v p ab x y z ac aa) (funext fun g=>funext fun c=>funext fun i=>funext fun d=>funext fun m=>funext fun l=>funext fun b=>funext fun e=>funext fun f=>(Ai ..).trans (SY N F N g c i d m l b e f)):_)
def gS (a:LA) (h:Ak) (k:KF R):O R :=
 match a,h with
 | [(.imm v p 1 ab x),(.imm y z 1 ac aa)],[]=>(Yb N v p ab x y z ac aa (Kb k))
 | _,_=>none
theorem n7:An N 195 @gS:=by
 intro R Q a h k j;unfold gS;split;exact Ax (n6 ..) (n6 ..) ⟨O0 N,Az1 N,trivial⟩;exact Az
def Ast:=Ay (n7 N)
def Asu:=Ca (n7 N)
def Kp (r0:Nat→Nat→LA→LA→O R) (d:LA) (b:Nat) (e f:Bool) (c:Int) (k0:Int→Int→LA→O R) (l g:Int) (i:LA):O R :=
 (cond (decide (g≥0)) (cond (Ac g b) (Ao .u32 (d.drop ((g.toNat)*1)) fun m=>(cond ((wrap .u64 c)==0) none (cond (Ac g b) (cond ((Nat.beq 1 1)&&((Nat.ble ((0+((g.toNat)*1))+1) (i.length))&&(!false))) (cond ((wrap .u64 c)==0) none (k0 (Int.tmod (Uo .u64 (wrap .u64 (l*2 ^ 32)) (wrap .u64 m)) (wrap .u64 c)) (wrap .i64 (g - 1)) (i.set (0+((g.toNat)*1)) (.int .u32 (wrap .u32 (wrap .u64 (Int.tdiv (Uo .u64 (wrap .u64 (l*2 ^ 32)) (wrap .u64 m)) (wrap .u64 c)))))))) none) none))) none) (X6 N b i (fun o=>(Ck N l (fun p q=>(r0 o p i q))))))
def Ex (r0:Nat→Nat→LA→LA→O R) (d:LA) (b:Nat) (e f:Bool) (c:Int):Nat→Int→Int→LA→O R
 | 0,_,_,_=>none
 | n+1,l,g,i=>(Kp N r0 d b e f c (Ex r0 d b e f c n) l g i)
def Qz (N:Nat) (r0:Nat→Nat→LA→LA→O R) (q0:Int→Int→LA→O R) (d:LA) (b:Nat) (e f:Bool) (c:Int):O R :=
 (cond ((decide (0≤((b:Nat):Int)))&&((decide (((b:Nat):Int)≤((b:Nat):Int)))&&((decide (((b:Nat):Int)≤140737488355328))&&(decide ((((b:Nat):Int)*((4:Nat):Int))≤140737488355328))))) (q0 0 (wrap .i64 (((b:Nat):Int) - 1)) (List.replicate b (.int .u32 0))) none)
def G1:=(Ae (fun (N:Nat) (d:LA) (b:Nat) (e f:Bool) (c:Int) (r0:Nat→Nat→LA→LA→O R)=>(Qz N r0 (fun l g i=>(Ex N r0 d b e f c N l g i)) d b e f c))).1
theorem DJ (d b e f c r0):(@G1 R N d b e f c r0)=(Qz N r0 (fun l g i=>(Ex N r0 d b e f c N l g i)) d b e f c):=by rw[G1,(Ae _).2]
def IN:Hints:={ H:=(hS hL (hS hL (hS hL (hS (hS hL (hS (hP [0,1,4,6,7] hL) hL)) hL)))),nils:=[(4,1),(5,1)],modes:=[(2,1),(2,1)] }
def NG:Dg:=[(171,xc N),(149,Hq N)]
def qa (F:KF R):=Hp Tryz.f197 IN (NG N) [] N F
def If (F:KF R):Nat→Nat→LA→LA→O R:=(fun r s t u=>F (.tup [(.own 300000 0 r),(.own 300001 0 s)]) (hq [(bQ 1 t),(bQ 1 u)]))
def qb (d:LA) (b:Nat) (e f:Bool) (c l g:Int) (i:LA):St:=⟨[(0,(.imm d b 1 e f)),(1,(.int .u32 c)),(4,(.own 300000 0 b)),(6,(.int .u64 l)),(7,(iv g))],(hq [(bQ 1 i)])⟩
def qc (F:KF R):=qa N F [1,1,1,0,1,0] []
theorem Xe (F:KF R) (d:LA) (b:Nat) (e f:Bool) (c:Int):∀ (n:Nat) (l g:Int) (i:LA),Ap (qc N F) n (qb d b e f c l g i)=(Ex N (If F) d b e f c n l g i)
 | 0,_,_,_=>by kernel_rfl
 | n+1,l,g,i=>Eq.trans (by kernel_rfl) (Bm (Kp N (If F) d b e f c · l g i) (funext fun l=>funext fun g=>funext fun i=>(Xe F d b e f c n l g i)):_)
theorem IP (d:LA) (b:Nat) (e f:Bool) (c:Int) (F:KF R):Cd (NG N) IN N 197 [(.imm d b 1 e f),(.int .u32 c)] [] F=(G1 N d b e f c (If F)):=by
 rw[DJ]
 exact Eq.trans (by kernel_rfl) (Bm (Qz N (If F) · d b e f c) (funext fun l=>funext fun g=>funext fun i=>(Ai ..).trans (Xe N F d b e f c N l g i)):_)
def DK (a:LA) (h:Ak) (k:KF R):O R :=
 match a,h with
 | [(.imm d b 1 e f),(.int .u32 c)],[]=>(G1 N d b e f c (If k))
 | _,_=>none
theorem IQ:An N 197 @DK:=by
 intro R Q a h k j;unfold DK;split;exact Ax (IP ..) (IP ..) ⟨xd N,Hr N,trivial⟩;exact Az
def qd:=Ay (IQ N)
def qe:=Ca (IQ N)
def V3 (N:Nat) (r0:Nat→LA→O R) (d:LA) (b:Nat) (e f:Bool) (c:Int) (k0:Nat→Int→Int→Int→LA→O R) (i:Nat) (m o g:Int) (l:LA):O R :=
 (cond (decide (g<o)) (cond (Ac g b) (Ao .u32 (d.drop ((g.toNat)*1)) fun p=>(cond (decide (c<0)) none (cond (Ac g i) (cond ((Nat.beq 1 1)&&((Nat.ble ((0+((g.toNat)*1))+1) (l.length))&&(!false))) (k0 i (Int.fdiv (Uo .u64 m (wrap .u64 ((wrap .u64 p)*2 ^ (min (c.toNat) 64)))) (2 ^ 32)) o (wrap .i64 (g+1)) (l.set (0+((g.toNat)*1)) (.int .u32 (wrap .u32 (Uo .u64 m (wrap .u64 ((wrap .u64 p)*2 ^ (min (c.toNat) 64)))))))) none) none))) none) (cond (Ac ((b:Nat):Int) i) (cond ((Nat.beq 1 1)&&((Nat.ble ((0+(b*1))+1) (l.length))&&(!false))) (r0 i (l.set (0+(b*1)) (.int .u32 (wrap .u32 m)))) none) none))
def Kc (r0:Nat→LA→O R) (d:LA) (b:Nat) (e f:Bool) (c:Int):Nat→Nat→Int→Int→Int→LA→O R
 | 0,_,_,_,_,_=>none
 | n+1,i,m,o,g,l=>(V3 N r0 d b e f c (Kc r0 d b e f c n) i m o g l)
def NH (N:Nat) (r0:Nat→LA→O R) (q0:Nat→Int→Int→Int→LA→O R) (d:LA) (b:Nat) (e f:Bool) (c:Int):O R :=
 (cond ((decide (0≤(wrap .i64 (((b:Nat):Int)+1))))&&((decide ((wrap .i64 (((b:Nat):Int)+1))≤(wrap .i64 (((b:Nat):Int)+1))))&&((decide ((wrap .i64 (((b:Nat):Int)+1))≤140737488355328))&&(decide (((wrap .i64 (((b:Nat):Int)+1))*((4:Nat):Int))≤140737488355328))))) (q0 ((wrap .i64 (((b:Nat):Int)+1)).toNat) 0 ((b:Nat):Int) 0 (List.replicate ((wrap .i64 (((b:Nat):Int)+1)).toNat) (.int .u32 0))) none)
def T8:=(Ae (fun (N:Nat) (d:LA) (b:Nat) (e f:Bool) (c:Int) (r0:Nat→LA→O R)=>(NH N r0 (fun i m o g l=>(Kc N r0 d b e f c N i m o g l)) d b e f c))).1
theorem gT (d b e f c r0):(@T8 R N d b e f c r0)=(NH N r0 (fun i m o g l=>(Kc N r0 d b e f c N i m o g l)) d b e f c):=by rw[T8,(Ae _).2]
def n8:Hints:={ H:=(hS hL (hS hL (hS hL (hS (hS hL (hS (hP [0,1,5,6,13,14,15] hL) hL)) hL)))),nils:=[(4,1)],modes:=[(2,1)] }
def Asv (F:KF R):=Hp Tryz.f202 n8 [] [] N F
def Sp (F:KF R):Nat→LA→O R:=(fun q r=>F (.own 300000 0 q) (hq [(bQ 1 r)]))
def Asw (d:LA) (b:Nat) (e f:Bool) (c:Int) (i:Nat) (m o g:Int) (l:LA):St:=⟨[(0,(.imm d b 1 e f)),(1,(iv c)),(5,(.own 300000 0 i)),(6,(.int .u64 m)),(13,(.imm d b 1 e f)),(14,(iv o)),(15,(iv g))],(hq [(bQ 1 l)])⟩
def Asx (F:KF R):=Asv N F [1,1,1,0,1,0] []
theorem SZ (F:KF R) (d:LA) (b:Nat) (e f:Bool) (c:Int):∀ (n i:Nat) (m o g:Int) (l:LA),Ap (Asx N F) n (Asw d b e f c i m o g l)=(Kc N (Sp F) d b e f c n i m o g l)
 | 0,_,_,_,_,_=>by kernel_rfl
 | n+1,i,m,o,g,l=>Eq.trans (by kernel_rfl) (Bm (V3 N (Sp F) d b e f c · i m o g l) (funext fun i=>funext fun m=>funext fun o=>funext fun g=>funext fun l=>(SZ F d b e f c n i m o g l)):_)
theorem n9 (d:LA) (b:Nat) (e f:Bool) (c:Int) (F:KF R):Cd [] n8 N 202 [(.imm d b 1 e f),(iv c)] [] F=(T8 N d b e f c (Sp F)):=by
 rw[gT]
 exact Eq.trans (by kernel_rfl) (Bm (NH N (Sp F) · d b e f c) (funext fun i=>funext fun m=>funext fun o=>funext fun g=>funext fun l=>(Ai ..).trans (SZ N F d b e f c N i m o g l)):_)
def gU (a:LA) (h:Ak) (k:KF R):O R :=
 match a,h with
 | [(.imm d b 1 e f),(.int .i64 c)],[]=>(T8 N d b e f c (Sp k))
 | _,_=>none
theorem n_:An N 202 @gU:=by
 intro R Q a h k j;unfold gU;split;exact Ax (n9 ..) (n9 ..) trivial;exact Az
def Asy:=Ay (n_ N)
def Asz:=Ca (n_ N)
def Q4 (N:Nat) (r0:Int→LA→O R) (c d:Nat) (e m:Int) (f:LA) (b:Nat) (g i:Bool) (k4:Int→Int→Int→LA→O R) (v w q:Int) (t:LA):O R :=
 (cond (decide (q<w)) (cond (Ac q b) (Ao .u32 (f.drop ((q.toNat)*1)) fun aa=>(cond (Ac q d) (Ao .u32 (t.drop (c+((q.toNat)*1))) fun ab=>(cond (Ac q d) (cond ((Nat.beq 1 1)&&((Nat.ble ((c+((q.toNat)*1))+1) (t.length))&&(!false))) (k4 (Int.fdiv (wrap .u64 (v+(wrap .u64 ((wrap .u64 ab)+(wrap .u64 aa))))) (2 ^ 32)) w (wrap .i64 (q+1)) (t.set (c+((q.toNat)*1)) (.int .u32 (wrap .u32 (wrap .u64 (v+(wrap .u64 ((wrap .u64 ab)+(wrap .u64 aa))))))))) none) none)) none)) none) (cond (Ac e d) (Ao .u32 (t.drop (c+((e.toNat)*1))) fun ai=>(cond (Ac e d) (cond ((Nat.beq 1 1)&&((Nat.ble ((c+((e.toNat)*1))+1) (t.length))&&(!false))) (r0 (wrap .u32 (wrap .u64 (m - 1))) (t.set (c+((e.toNat)*1)) (.int .u32 (wrap .u32 (ai+(wrap .u32 v)))))) none) none)) none))
def Jc (r0:Int→LA→O R) (c d:Nat) (e m:Int) (f:LA) (b:Nat) (g i:Bool):Nat→Int→Int→Int→LA→O R
 | 0,_,_,_,_=>none
 | n+1,v,w,q,t=>(Q4 N r0 c d e m f b g i (Jc r0 c d e m f b g i n) v w q t)
def K8 (N:Nat) (r0:Int→LA→O R) (c d:Nat) (f:LA) (b:Nat) (g i:Bool) (e m:Int) (k3:Int→Int→Int→LA→O R) (q4:Int→Int→Int→LA→O R) (u x r:Int) (s:LA):O R :=
 (cond (decide (r<x)) (cond (Ac r b) (Ao .u32 (f.drop ((r.toNat)*1)) fun y=>(cond (Ac r d) (Ao .u32 (s.drop (c+((r.toNat)*1))) fun ac=>(cond (Ac r d) (cond ((Nat.beq 1 1)&&((Nat.ble ((c+((r.toNat)*1))+1) (s.length))&&(!false))) (k3 (wrap .u64 ((Int.fdiv (wrap .u64 ((wrap .u64 (m*(wrap .u64 y)))+u)) (2 ^ 32))+(Int.fdiv (wrap .u64 ((wrap .u64 ac) - (wrap .u64 (wrap .u32 (wrap .u64 ((wrap .u64 (m*(wrap .u64 y)))+u)))))) (2 ^ 63)))) x (wrap .i64 (r+1)) (s.set (c+((r.toNat)*1)) (.int .u32 (wrap .u32 (wrap .u64 ((wrap .u64 ac) - (wrap .u64 (wrap .u32 (wrap .u64 ((wrap .u64 (m*(wrap .u64 y)))+u)))))))))) none) none)) none)) none) (cond (Ac e d) (Ao .u32 (s.drop (c+((e.toNat)*1))) fun z=>(cond (Ac e d) (cond ((Nat.beq 1 1)&&((Nat.ble ((c+((e.toNat)*1))+1) (s.length))&&(!false))) (cond ((Int.fdiv (wrap .u64 ((wrap .u64 z) - u)) (2 ^ 63))==0) (r0 (wrap .u32 m) (s.set (c+((e.toNat)*1)) (.int .u32 (wrap .u32 (wrap .u64 ((wrap .u64 z) - u)))))) (q4 0 ((b:Nat):Int) 0 (s.set (c+((e.toNat)*1)) (.int .u32 (wrap .u32 (wrap .u64 ((wrap .u64 z) - u))))))) none) none)) none))
def G2 (r0:Int→LA→O R) (c d:Nat) (f:LA) (b:Nat) (g i:Bool) (e m:Int):Nat→Int→Int→Int→LA→O R
 | 0,_,_,_,_=>none
 | n+1,u,x,r,s=>(K8 N r0 c d f b g i e m (G2 r0 c d f b g i e m n) (fun v w q t=>(Jc N r0 c d e m f b g i N v w q t)) u x r s)
def Yc (N:Nat) (r0:Int→LA→O R) (c d:Nat) (f:LA) (b:Nat) (g i:Bool) (e:Int) (l:LA) (q3:Int→Int→Int→LA→O R) (m:Int):O R :=
 (q3 0 ((b:Nat):Int) 0 l)
def Fn (r0:Int→LA→O R) (c d:Nat) (f:LA) (b:Nat) (g i:Bool) (e:Int) (l:LA) (m:Int):O R:=(Yc N r0 c d f b g i e l (fun u x r s=>(G2 N r0 c d f b g i e m N u x r s)) m)
def Yd (N:Nat) (k0:Int→Int→Int→O R) (r0:Int→LA→O R) (c d:Nat) (f:LA) (b:Nat) (g i:Bool) (e o p:Int) (l:LA) (q2:Int→O R):O R :=
 (cond (Ac (wrap .i64 (e - 1)) b) (Ao .u32 (f.drop (((wrap .i64 (e - 1)).toNat)*1)) fun ad=>(cond ((Int.fdiv (wrap .u64 (p+(wrap .u64 ad))) (2 ^ 32)) != 0) (q2 (wrap .u64 (o - 1))) (k0 e (wrap .u64 (o - 1)) (wrap .u64 (p+(wrap .u64 ad)))))) none)
def Nx (k0:Int→Int→Int→O R) (r0:Int→LA→O R) (c d:Nat) (f:LA) (b:Nat) (g i:Bool) (e o p:Int) (l:LA):O R:=(Yd N k0 r0 c d f b g i e o p l (fun m=>(Fn N r0 c d f b g i e l m)))
def Ye (N:Nat) (r0:Int→LA→O R) (c d:Nat) (f:LA) (b:Nat) (g i:Bool) (l:LA) (k0:Int→Int→Int→O R) (q1:O R) (q2:Int→O R) (e o p:Int):O R :=
 (cond (((Int.fdiv o (2 ^ 32)) != 0)==false) (cond (Ac (wrap .i64 (e - 2)) b) (Ao .u32 (f.drop (((wrap .i64 (e - 2)).toNat)*1)) fun aj=>(cond (Ac (wrap .i64 (e - 2)) d) (Ao .u32 (l.drop (c+(((wrap .i64 (e - 2)).toNat)*1))) fun ak=>(cond (cond false true (decide ((wrap .u64 (o*(wrap .u64 aj)))>(Uo .u64 (wrap .u64 (p*2 ^ 32)) (wrap .u64 ak))))) q1 (q2 o))) none)) none) q1)
def Fo (r0:Int→LA→O R) (c d:Nat) (f:LA) (b:Nat) (g i:Bool) (l:LA):Nat→Int→Int→Int→O R
 | 0,_,_,_=>none
 | n+1,e,o,p=>(Ye N r0 c d f b g i l (Fo r0 c d f b g i l n) (Nx N (Fo r0 c d f b g i l n) r0 c d f b g i e o p l) (fun m=>(Fn N r0 c d f b g i e l m)) e o p)
def Zb (N:Nat) (r0:Int→LA→O R) (q0:Int→Int→Int→O R) (c d:Nat) (f:LA) (b:Nat) (g i:Bool) (l:LA):O R :=
 (cond (Ac ((b:Nat):Int) d) (Ao .u32 (l.drop (c+(b*1))) fun ae=>(cond (Ac (wrap .i64 (((b:Nat):Int) - 1)) d) (Ao .u32 (l.drop (c+(((wrap .i64 (((b:Nat):Int) - 1)).toNat)*1))) fun af=>(cond (Ac (wrap .i64 (((b:Nat):Int) - 1)) b) (Ao .u32 (f.drop (((wrap .i64 (((b:Nat):Int) - 1)).toNat)*1)) fun ag=>(cond ((wrap .u64 ag)==0) none (cond (Ac (wrap .i64 (((b:Nat):Int) - 1)) b) (Ao .u32 (f.drop (((wrap .i64 (((b:Nat):Int) - 1)).toNat)*1)) fun ah=>(cond ((wrap .u64 ah)==0) none (q0 ((b:Nat):Int) (wrap .u64 (Int.tdiv (Uo .u64 (wrap .u64 ((wrap .u64 ae)*2 ^ 32)) (wrap .u64 af)) (wrap .u64 ag))) (Int.tmod (Uo .u64 (wrap .u64 ((wrap .u64 ae)*2 ^ 32)) (wrap .u64 af)) (wrap .u64 ah))))) none))) none)) none)) none)
def Mh:=(Ae (fun (N:Nat) (c d:Nat) (f:LA) (b:Nat) (g i:Bool) (l:LA) (r0:Int→LA→O R)=>(Zb N r0 (fun e o p=>(Fo N r0 c d f b g i l N e o p)) c d f b g i l))).1
theorem S_ (c d f b g i l r0):(@Mh R N c d f b g i l r0)=(Zb N r0 (fun e o p=>(Fo N r0 c d f b g i l N e o p)) c d f b g i l):=by rw[Mh,(Ae _).2]
def bK:Hints:={ H:=(hS hL (hS hL (hS hL (hS hL (hJ [0,1,5,7] (hS (hP [0,1,5,7,8] (hJ [0,1,5,7,8] hL hL)) hL) (hS hL (hS (hS hL (hS (hP [0,1,5,7,9,84,85,86] hL) hL)) (hS hL (hS hL (hS hL (hS hL (hS (hS hL (hS (hP [0,5,7,9,134,135,136] hL) hL)) hL)))))))))))) }
def Ny (F:KF R):=Hp Tryz.f203 bK [] [100000] N F
def B6 (F:KF R):Int→LA→O R:=(fun al am=>F (.int .u32 al) [(100000,(bQ 1 am))])
def Afl (c d:Nat) (e m:Int) (f:LA) (b:Nat) (g i:Bool) (v w q:Int) (t:LA):St:=⟨[(0,(.own 100000 c d)),(5,(iv e)),(7,(.int .u64 m)),(9,(.int .u64 v)),(134,(.imm f b 1 g i)),(135,(iv w)),(136,(iv q))],[(100000,(bQ 1 t))]⟩
def Afm (F:KF R):=Ny N F [1,1,1,1,1,1,1,1,1,1,1,0,1,0] []
def Afn (c d:Nat) (f:LA) (b:Nat) (g i:Bool) (e m u x r:Int) (s:LA):St:=⟨[(0,(.own 100000 c d)),(1,(.imm f b 1 g i)),(5,(iv e)),(7,(.int .u64 m)),(9,(.int .u64 u)),(84,(.imm f b 1 g i)),(85,(iv x)),(86,(iv r))],[(100000,(bQ 1 s))]⟩
def Afo (F:KF R):=Ny N F [1,1,1,1,1,1,0,1,0] []
def Afp (c d:Nat) (f:LA) (b:Nat) (g i:Bool) (e:Int) (l:LA) (m:Int):St:=⟨[(0,(.own 100000 c d)),(1,(.imm f b 1 g i)),(5,(iv e)),(7,(.int .u64 m))],[(100000,(bQ 1 l))]⟩
def Afq (F:KF R):=Ny N F [1,1,1,1,1] []
def Afr (c d:Nat) (f:LA) (b:Nat) (g i:Bool) (e o p:Int) (l:LA):St:=⟨[(0,(.own 100000 c d)),(1,(.imm f b 1 g i)),(5,(iv e)),(7,(.int .u64 o)),(8,(.int .u64 p))],[(100000,(bQ 1 l))]⟩
def Afs (F:KF R) (Q0:St→O R):=Ny N F [1,1,1,1,0,0,0,1] [Q0]
def CI (c d:Nat) (f:LA) (b:Nat) (g i:Bool) (l:LA) (e o p:Int):St:=⟨[(0,(.own 100000 c d)),(1,(.imm f b 1 g i)),(5,(iv e)),(7,(.int .u64 o)),(8,(.int .u64 p))],[(100000,(bQ 1 l))]⟩
def bL (F:KF R):=Ny N F [1,1,1,1,0,0] []
theorem IR (F:KF R) (c d:Nat) (e m:Int) (f:LA) (b:Nat) (g i:Bool):∀ (n:Nat) (v w q:Int) (t:LA),Ap (Afm N F) n (Afl c d e m f b g i v w q t)=(Jc N (B6 F) c d e m f b g i n v w q t)
 | 0,_,_,_,_=>by kernel_rfl
 | n+1,v,w,q,t=>Eq.trans (by kernel_rfl) (Bm (Q4 N (B6 F) c d e m f b g i · v w q t) (funext fun v=>funext fun w=>funext fun q=>funext fun t=>(IR F c d e m f b g i n v w q t)):_)
theorem IS (F:KF R) (c d:Nat) (f:LA) (b:Nat) (g i:Bool) (e m:Int):∀ (n:Nat) (u x r:Int) (s:LA),Ap (Afo N F) n (Afn c d f b g i e m u x r s)=(G2 N (B6 F) c d f b g i e m n u x r s)
 | 0,_,_,_,_=>by kernel_rfl
 | n+1,u,x,r,s=>Eq.trans (by kernel_rfl) (fQ (K8 N (B6 F) c d f b g i e m · · u x r s) (funext fun u=>funext fun x=>funext fun r=>funext fun s=>(IS F c d f b g i e m n u x r s)) (funext fun v=>funext fun w=>funext fun q=>funext fun t=>(Ai ..).trans (IR N F c d e m f b g i N v w q t)):_)
theorem IT (F:KF R) (c d:Nat) (f:LA) (b:Nat) (g i:Bool) (e:Int) (l:LA):∀ (m:Int),A9 (Afq N F) (Afp c d f b g i e l m)=(Fn N (B6 F) c d f b g i e l m):=by
 intro m
 exact Eq.trans (by kernel_rfl) (Bm (Yc N (B6 F) c d f b g i e l · m) (funext fun u=>funext fun x=>funext fun r=>funext fun s=>(Ai ..).trans (IS N F c d f b g i e m N u x r s)):_)
theorem qf (Q0:St→O R) (F:KF R) (c d:Nat) (f:LA) (b:Nat) (g i:Bool) (e o p:Int) (l:LA):A9 (Afs N F Q0) (Afr c d f b g i e o p l)=(Nx N (fun e o p=>Q0 (CI c d f b g i l e o p)) (B6 F) c d f b g i e o p l):=by
 exact Eq.trans (by kernel_rfl) (Bm (Yd N (fun e o p=>Q0 (CI c d f b g i l e o p)) (B6 F) c d f b g i e o p l ·) (funext fun m=>(Aq ..).trans (IT N F c d f b g i e l m)):_)
theorem IU (F:KF R) (c d:Nat) (f:LA) (b:Nat) (g i:Bool) (l:LA):∀ (n:Nat) (e o p:Int),Ap (bL N F) n (CI c d f b g i l e o p)=(Fo N (B6 F) c d f b g i l n e o p)
 | 0,_,_,_=>by kernel_rfl
 | n+1,e,o,p=>have e0:=(funext fun e=>funext fun o=>funext fun p=>(IU F c d f b g i l n e o p))
  Eq.trans (by kernel_rfl) (Bmu (Ye N (B6 F) c d f b g i l · · · e o p) e0 ((Aq ..).trans ((qf N (Ap (bL N F) n) F c d f b g i e o p l).trans (Bm (Nx N · (B6 F) c d f b g i e o p l) e0))) (funext fun m=>(Aq ..).trans (IT N F c d f b g i e l m)):_)
theorem bM (c d:Nat) (f:LA) (b:Nat) (g i:Bool) (l:LA) (F:KF R):Cd [] bK N 203 [(.own 100000 c d),(.imm f b 1 g i)] [(100000,(bQ 1 l))] F=(Mh N c d f b g i l (B6 F)):=by
 rw[S_]
 exact Eq.trans (by kernel_rfl) (Bm (Zb N (B6 F) · c d f b g i l) (funext fun e=>funext fun o=>funext fun p=>(Ai ..).trans (IU N F c d f b g i l N e o p)):_)
def TA (a:LA) (h:Ak) (k:KF R):O R :=
 match a,h with
 | [(.own 100000 c d),(.imm f b 1 g i)],[(100000,⟨false,false,true,false,1,l,false⟩)]=>(Mh N c d f b g i l (B6 k))
 | _,_=>none
theorem bN:An N 203 @TA:=by
 intro R Q a h k j;unfold TA;split;exact Ax (bM ..) (bM ..) trivial;exact Az
def Aft:=Ay (bN N)
def Afu:=Ca (bN N)
def Jl (r0:Nat→Bool→LA→O R) (d:Bool) (k0:LA→Nat→Int→Nat→LA→Nat→Int→Int→LA→O R) (l:LA) (i:Nat) (e:Int) (g:Nat) (m:LA) (o:Nat) (p b:Int) (f:LA):O R :=
 (cond (decide (b<p)) (cond (Ac b o) (Ao .u32 (m.drop ((b.toNat)*1)) fun u=>(cond (decide ((wrap .i64 (b+1))<((i:Nat):Int))) (cond (Ac (wrap .i64 (b+1)) i) (Ao .u32 (l.drop (((wrap .i64 (b+1)).toNat)*1)) fun w=>(cond (decide (e<0)) none (cond (Ac b g) (cond ((Nat.beq 1 1)&&((Nat.ble ((0+((b.toNat)*1))+1) (f.length))&&(!false))) (k0 l i e g m o p (wrap .i64 (b+1)) (f.set (0+((b.toNat)*1)) (.int .u32 (wrap .u32 (Int.fdiv (Uo .u64 (wrap .u64 u) (wrap .u64 ((wrap .u64 w)*2 ^ 32))) (2 ^ (min (e.toNat) 64))))))) none) none))) none) (cond (decide (e<0)) none (cond (Ac b g) (cond ((Nat.beq 1 1)&&((Nat.ble ((0+((b.toNat)*1))+1) (f.length))&&(!false))) (k0 l i e g m o p (wrap .i64 (b+1)) (f.set (0+((b.toNat)*1)) (.int .u32 (wrap .u32 (Int.fdiv (wrap .u64 u) (2 ^ (min (e.toNat) 64))))))) none) none)))) none) (X6 N g f (fun x=>(r0 x true f))))
def D8 (r0:Nat→Bool→LA→O R) (d:Bool):Nat→LA→Nat→Int→Nat→LA→Nat→Int→Int→LA→O R
 | 0,_,_,_,_,_,_,_,_,_=>none
 | n+1,l,i,e,g,m,o,p,b,f=>(Jl N r0 d (D8 r0 d n) l i e g m o p b f)
def Pi (r0:Nat→Bool→LA→O R) (q0:LA→Nat→Int→Nat→LA→Nat→Int→Int→LA→O R) (r:LA) (s:Nat) (t d:Bool) (c:Int):O R :=
 (cond (decide (c<0)) (r0 0 false []) (Cv N r s t d (fun v q=>(cond (decide ((wrap .i64 (Int.tdiv c 32))≥((q:Nat):Int))) (r0 0 true []) (cond ((decide (0≤(wrap .i64 (Int.tdiv c 32))))&&((decide ((wrap .i64 (Int.tdiv c 32))≤((q:Nat):Int)))&&((decide (((q:Nat):Int)≤((q:Nat):Int)))&&(decide (((q:Nat):Int)≤((q:Nat):Int)))))) (cond ((decide (0≤(((q - ((wrap .i64 (Int.tdiv c 32)).toNat)):Nat):Int)))&&((decide ((((q - ((wrap .i64 (Int.tdiv c 32)).toNat)):Nat):Int)≤(((q - ((wrap .i64 (Int.tdiv c 32)).toNat)):Nat):Int)))&&((decide ((((q - ((wrap .i64 (Int.tdiv c 32)).toNat)):Nat):Int)≤140737488355328))&&(decide (((((q - ((wrap .i64 (Int.tdiv c 32)).toNat)):Nat):Int)*((4:Nat):Int))≤140737488355328))))) (q0 ((v.drop (((wrap .i64 (Int.tdiv c 32)).toNat)*1)).take ((q - ((wrap .i64 (Int.tdiv c 32)).toNat))*1)) (q - ((wrap .i64 (Int.tdiv c 32)).toNat)) (Int.tmod c 32) (q - ((wrap .i64 (Int.tdiv c 32)).toNat)) ((v.drop (((wrap .i64 (Int.tdiv c 32)).toNat)*1)).take ((q - ((wrap .i64 (Int.tdiv c 32)).toNat))*1)) (q - ((wrap .i64 (Int.tdiv c 32)).toNat)) (((q - ((wrap .i64 (Int.tdiv c 32)).toNat)):Nat):Int) 0 (List.replicate (q - ((wrap .i64 (Int.tdiv c 32)).toNat)) (.int .u32 0))) none) none)))))
def Ob:=(Ae (fun (N:Nat) (r:LA) (s:Nat) (t d:Bool) (c:Int) (r0:Nat→Bool→LA→O R)=>(Pi N r0 (fun l i e g m o p b f=>(D8 N r0 d N l i e g m o p b f)) r s t d c))).1
theorem V4 (r s t d c r0):(@Ob R N r s t d c r0)=(Pi N r0 (fun l i e g m o p b f=>(D8 N r0 d N l i e g m o p b f)) r s t d c):=by rw[Ob,(Ae _).2]
def TB:Hints:={ H:=(hS hL (hS hL (hS hL (hS hL (hS hL (hS hL (hS hL (hS (hS hL (hS (hP [0,6,7,29,30,31] hL) hL)) hL)))))))),nils:=[(4,1)],modes:=[(2,1),(0,0)] }
def bO:Dg:=[(171,Gr N)]
def xv (F:KF R):=Hp Tryz.f204 TB (bO N) [] N F
def La (F:KF R):Nat→Bool→LA→O R:=(fun y z aa=>F (.tup [(.own 300000 0 y),(.bool z)]) (hq [(bQ 1 aa)]))
def xw (d:Bool) (l:LA) (i:Nat) (e:Int) (g:Nat) (m:LA) (o:Nat) (p b:Int) (f:LA):St:=⟨[(0,(.imm l i 1 false d)),(6,(iv e)),(7,(.own 300000 0 g)),(29,(.imm m o 1 false d)),(30,(iv p)),(31,(iv b))],(hq [(bQ 1 f)])⟩
def xx (F:KF R):=xv N F [1,1,1,1,1,1,1,0,1,0] []
theorem DL (F:KF R) (d:Bool):∀ (n:Nat) (l:LA) (i:Nat) (e:Int) (g:Nat) (m:LA) (o:Nat) (p b:Int) (f:LA),Ap (xx N F) n (xw d l i e g m o p b f)=(D8 N (La F) d n l i e g m o p b f)
 | 0,_,_,_,_,_,_,_,_,_=>by kernel_rfl
 | n+1,l,i,e,g,m,o,p,b,f=>Eq.trans (by kernel_rfl) (Bm (Jl N (La F) d · l i e g m o p b f) (funext fun l=>funext fun i=>funext fun e=>funext fun g=>funext fun m=>funext fun o=>funext fun p=>funext fun b=>funext fun f=>(DL F d n l i e g m o p b f)):_)
theorem TC (r:LA) (s:Nat) (t d:Bool) (c:Int) (F:KF R):Cd (bO N) TB N 204 [(.imm r s 1 t d),(iv c)] [] F=(Ob N r s t d c (La F)):=by
 rw[V4]
 exact Eq.trans (by kernel_rfl) (Bm (Pi N (La F) · r s t d c) (funext fun l=>funext fun i=>funext fun e=>funext fun g=>funext fun m=>funext fun o=>funext fun p=>funext fun b=>funext fun f=>(Ai ..).trans (DL N F d N l i e g m o p b f)):_)
def NI (a:LA) (h:Ak) (k:KF R):O R :=
 match a,h with
 | [(.imm r s 1 t d),(.int .i64 c)],[]=>(Ob N r s t d c (La k))
 | _,_=>none
theorem TD:An N 204 @NI:=by
 intro R Q a h k j;unfold NI;split;exact Ax (TC ..) (TC ..) ⟨Gs N,trivial⟩;exact Az
def xy:=Ay (TD N)
def xz:=Ca (TD N)
def O1 (r0:Nat→Nat→LA→LA→O R) (g:Int) (b c:Nat) (m:LA) (k0:Nat→Int→Int→Int→Int→LA→LA→O R) (l:Nat) (f e o d:Int) (i p:LA):O R :=
 (cond (decide (d<o)) (cond ((decide (0≤(wrap .i64 ((wrap .i64 (e - 1)) - d))))&&((decide ((wrap .i64 ((wrap .i64 (e - 1)) - d))≤(wrap .i64 ((wrap .i64 ((wrap .i64 ((wrap .i64 (e - 1)) - d))+f))+1))))&&((decide ((wrap .i64 ((wrap .i64 ((wrap .i64 ((wrap .i64 (e - 1)) - d))+f))+1))≤((c:Nat):Int)))&&(decide (((c:Nat):Int)≤((c:Nat):Int)))))) (Mh N (0+(((wrap .i64 ((wrap .i64 (e - 1)) - d)).toNat)*1)) (((wrap .i64 ((wrap .i64 ((wrap .i64 ((wrap .i64 (e - 1)) - d))+f))+1)).toNat) - ((wrap .i64 ((wrap .i64 (e - 1)) - d)).toNat)) (m.take (b*1)) b false true p (fun y z=>(cond (Ac (wrap .i64 ((wrap .i64 (e - 1)) - d)) l) (cond ((Nat.beq 1 1)&&((Nat.ble ((0+(((wrap .i64 ((wrap .i64 (e - 1)) - d)).toNat)*1))+1) (i.length))&&(!false))) (k0 l f e o (wrap .i64 (d+1)) (i.set (0+(((wrap .i64 ((wrap .i64 (e - 1)) - d)).toNat)*1)) (.int .u32 y)) z) none) none))) none) (cond ((decide ((0:Int)≤(0:Int)))&&((decide (0≤f))&&((decide (f≤((c:Nat):Int)))&&(decide (((c:Nat):Int)≤((c:Nat):Int)))))) (Ob N (p.take ((f.toNat)*1)) (f.toNat) false true g (fun aa aj ab=>(X6 N l i (fun ac=>(r0 ac aa i ab))))) none))
def Ez (r0:Nat→Nat→LA→LA→O R) (g:Int) (b c:Nat) (m:LA):Nat→Nat→Int→Int→Int→Int→LA→LA→O R
 | 0,_,_,_,_,_,_,_=>none
 | n+1,l,f,e,o,d,i,p=>(O1 N r0 g b c m (Ez r0 g b c m n) l f e o d i p)
def V5 (r0:Nat→Nat→LA→LA→O R) (q0:Int→Nat→LA→Nat→Int→Int→Int→Int→LA→LA→O R) (r:LA) (s:Nat) (v t:Bool) (q:LA) (b:Nat) (w u:Bool):O R :=
 (cond (Ac (wrap .i64 (((b:Nat):Int) - 1)) b) (Ao .u32 (q.drop (((wrap .i64 (((b:Nat):Int) - 1)).toNat)*1)) fun ad=>(Cp N ad (fun g=>(T8 N q b false u g (fun x m=>(cond ((decide ((0:Int)≤(0:Int)))&&((decide (0≤((b:Nat):Int)))&&((decide (((b:Nat):Int)≤((x:Nat):Int)))&&(decide (((x:Nat):Int)≤((x:Nat):Int)))))) (T8 N r s false t g (fun c ae=>(cond ((decide (0≤(wrap .i64 (((c:Nat):Int) - ((b:Nat):Int)))))&&((decide ((wrap .i64 (((c:Nat):Int) - ((b:Nat):Int)))≤(wrap .i64 (((c:Nat):Int) - ((b:Nat):Int)))))&&((decide ((wrap .i64 (((c:Nat):Int) - ((b:Nat):Int)))≤140737488355328))&&(decide (((wrap .i64 (((c:Nat):Int) - ((b:Nat):Int)))*((4:Nat):Int))≤140737488355328))))) (q0 g c m ((wrap .i64 (((c:Nat):Int) - ((b:Nat):Int))).toNat) ((b:Nat):Int) (wrap .i64 (((c:Nat):Int) - ((b:Nat):Int))) (wrap .i64 (((c:Nat):Int) - ((b:Nat):Int))) 0 (List.replicate ((wrap .i64 (((c:Nat):Int) - ((b:Nat):Int))).toNat) (.int .u32 0)) ae) none))) none)))))) none)
def Kd:=(Ae (fun (N:Nat) (r:LA) (s:Nat) (v t:Bool) (q:LA) (b:Nat) (w u:Bool) (r0:Nat→Nat→LA→LA→O R)=>(V5 N r0 (fun g c m l f e o d i p=>(Ez N r0 g b c m N l f e o d i p)) r s v t q b w u))).1
theorem NJ (r s v t q b w u r0):(@Kd R N r s v t q b w u r0)=(V5 N r0 (fun g c m l f e o d i p=>(Ez N r0 g b c m N l f e o d i p)) r s v t q b w u):=by rw[Kd,(Ae _).2]
def TE:Hints:={ H:=(hS hL (hS hL (hS hL (hS hL (hS hL (hS hL (hS hL (hS (hS hL (hS (hP [4,6,7,8,9,10,35,36] hL) hL)) hL)))))))),nils:=[(4,1),(5,1)],modes:=[(2,1),(2,1)] }
def bR:Dg:=[(200,Oz N),(202,Asy N),(203,Aft N),(204,xy N),(171,xc N)]
def yA (F:KF R):=Hp Tryz.f198 TE (bR N) [] N F
def Lb (F:KF R):Nat→Nat→LA→LA→O R:=(fun af ag ah ai=>F (.tup [(.own 300000 0 af),(.own 300001 0 ag)]) (hq [(bQ 1 ah),(bQ 1 ai)]))
def yB (g:Int) (b c:Nat) (m:LA) (l:Nat) (f e o d:Int) (i p:LA):St:=⟨[(4,(.own 300000 0 l)),(6,(iv f)),(7,(iv g)),(8,(.own 300001 0 b)),(9,(.own 300002 0 c)),(10,(iv e)),(35,(iv o)),(36,(iv d))],(hq [(bQ 1 i),(bQ 1 m),(bQ 1 p)])⟩
def yC (F:KF R):=yA N F [1,1,1,1,1,1,1,0,1,0] []
theorem DM (F:KF R) (g:Int) (b c:Nat) (m:LA):∀ (n l:Nat) (f e o d:Int) (i p:LA),Ap (yC N F) n (yB g b c m l f e o d i p)=(Ez N (Lb F) g b c m n l f e o d i p)
 | 0,_,_,_,_,_,_,_=>by kernel_rfl
 | n+1,l,f,e,o,d,i,p=>Eq.trans (by kernel_rfl) (Bm (O1 N (Lb F) g b c m · l f e o d i p) (funext fun l=>funext fun f=>funext fun e=>funext fun o=>funext fun d=>funext fun i=>funext fun p=>(DM F g b c m n l f e o d i p)):_)
theorem TF (r:LA) (s:Nat) (v t:Bool) (q:LA) (b:Nat) (w u:Bool) (F:KF R):Cd (bR N) TE N 198 [(.imm r s 1 v t),(.imm q b 1 w u)] [] F=(Kd N r s v t q b w u (Lb F)):=by
 rw[NJ]
 exact Eq.trans (by kernel_rfl) (Bm (V5 N (Lb F) · r s v t q b w u) (funext fun g=>funext fun c=>funext fun m=>funext fun l=>funext fun f=>funext fun e=>funext fun o=>funext fun d=>funext fun i=>funext fun p=>(Ai ..).trans (DM N F g b c m N l f e o d i p)):_)
def NK (a:LA) (h:Ak) (k:KF R):O R :=
 match a,h with
 | [(.imm r s 1 v t),(.imm q b 1 w u)],[]=>(Kd N r s v t q b w u (Lb k))
 | _,_=>none
theorem TG:An N 198 @NK:=by
 intro R Q a h k j;unfold NK;split;exact Ax (TF ..) (TF ..) ⟨O0 N,Asz N,Afu N,xz N,xd N,trivial⟩;exact Az
def yD:=Ay (TG N)
def yE:=Ca (TG N)
def qg (d:LA) (e:Nat) (f b:Bool) (g:LA) (i:Nat) (l c:Bool) (r0:Nat→Nat→Bool→LA→LA→O R):O R :=
 (Cv N d e f b (fun o m=>(Cv N g i l c (fun p n=>(cond (((n:Nat):Int)==0) (r0 0 0 false [] []) (Er N o m false b p n false c (fun s=>(cond (decide (s<0)) (FC N o m false b (fun t u=>(r0 0 t true [] u))) (cond (decide (((m:Nat):Int)≤2)) (Tj N o m false b (fun r=>(Tj N p n false c (fun q=>(cond (q==0) none (Ck N (wrap .u64 (Int.tdiv r q)) (fun v w=>(cond (q==0) none (Ck N (Int.tmod r q) (fun x y=>(r0 v x true w y))))))))))) (cond (((n:Nat):Int)==1) (cond (Ac 0 n) (Ao .u32 p fun z=>(G1 N o m false b z (fun aa ab ac ad=>(r0 aa ab true ac ad)))) none) (Kd N o m false b p n false c (fun ae af ag ah=>(r0 ae af true ag ah)))))))))))))
def F0:=(Ae (@qg R)).1
theorem na:@F0 R=@qg R:=(Ae _).2
def Az2:Hints:={ H:=hL,nils:=[(4,1),(5,1)],modes:=[(2,1),(2,1),(0,0)] }
def A5a:Dg:=[(171,Vt N),(132,K4 N),(173,XR N),(181,qM N),(149,Hq N),(197,qd N),(198,yD N)]
def tR (F:KF R):Nat→Nat→Bool→LA→LA→O R:=(fun ai aj ak al am=>F (.tup [(.own 300000 0 ai),(.own 300001 0 aj),(.bool ak)]) (hq [(bQ 1 al),(bQ 1 am)]))
theorem tS (d:LA) (e:Nat) (f b:Bool) (g:LA) (i:Nat) (l c:Bool) (F:KF R):Cd (A5a N) Az2 N 175 [(.imm d e 1 f b),(.imm g i 1 l c)] [] F=(F0 N d e f b g i l c (tR F)):=by
 rw[na]
 kernel_rfl
def nc (a:LA) (h:Ak) (k:KF R):O R :=
 match a,h with
 | [(.imm d e 1 f b),(.imm g i 1 l c)],[]=>(F0 N d e f b g i l c (tR k))
 | _,_=>none
theorem tT:An N 175 @nc:=by
 intro R Q a h k j;unfold nc;split;exact Ax (tS ..) (tS ..) ⟨Vu N,K5 N,XS N,qN N,Hr N,qe N,yE N,trivial⟩;exact Az
def tU:=Ay (tT N)
def tV:=Ca (tT N)
def IV (r0:Nat→Bool→LA→O R) (l:LA) (g:Nat) (d:Bool) (b:Nat) (m:LA) (e:Bool) (k0:Int→Int→Int→LA→O R) (i o c:Int) (f:LA):O R :=
 (cond (decide (c<o)) (cond (Ac c b) (Ao .u32 (m.drop ((c.toNat)*1)) fun v=>(cond (decide (c<((g:Nat):Int))) (cond (Ac c g) (Ao .u32 (l.drop ((c.toNat)*1)) fun w=>(cond (Ac c b) (cond ((Nat.beq 1 1)&&((Nat.ble ((0+((c.toNat)*1))+1) (f.length))&&(!false))) (k0 (Int.fdiv (wrap .u64 ((wrap .u64 ((wrap .u64 v) - i)) - (wrap .u64 w))) (2 ^ 63)) o (wrap .i64 (c+1)) (f.set (0+((c.toNat)*1)) (.int .u32 (wrap .u32 (wrap .u64 ((wrap .u64 ((wrap .u64 v) - i)) - (wrap .u64 w))))))) none) none)) none) (cond (Ac c b) (cond ((Nat.beq 1 1)&&((Nat.ble ((0+((c.toNat)*1))+1) (f.length))&&(!false))) (k0 (Int.fdiv (wrap .u64 ((wrap .u64 v) - i)) (2 ^ 63)) o (wrap .i64 (c+1)) (f.set (0+((c.toNat)*1)) (.int .u32 (wrap .u32 (wrap .u64 ((wrap .u64 v) - i)))))) none) none))) none) (X6 N b f (fun x=>(r0 x true f))))
def Ux (r0:Nat→Bool→LA→O R) (l:LA) (g:Nat) (d:Bool) (b:Nat) (m:LA) (e:Bool):Nat→Int→Int→Int→LA→O R
 | 0,_,_,_,_=>none
 | n+1,i,o,c,f=>(IV N r0 l g d b m e (Ux r0 l g d b m e n) i o c f)
def tW (r0:Nat→Bool→LA→O R) (q0:LA→Nat→Nat→LA→Int→Int→Int→LA→O R) (p:LA) (q:Nat) (r e:Bool) (s:LA) (t:Nat) (u d:Bool):O R :=
 (Cv N p q r e (fun m b=>(Cv N s t u d (fun l g=>(Er N m b false e l g false d (fun y=>(cond (decide (y<0)) (r0 0 false []) (cond ((decide (0≤((b:Nat):Int)))&&((decide (((b:Nat):Int)≤((b:Nat):Int)))&&((decide (((b:Nat):Int)≤140737488355328))&&(decide ((((b:Nat):Int)*((4:Nat):Int))≤140737488355328))))) (q0 l g b m 0 ((b:Nat):Int) 0 (List.replicate b (.int .u32 0))) none))))))))
def XT:=(Ae (fun (N:Nat) (p:LA) (q:Nat) (r e:Bool) (s:LA) (t:Nat) (u d:Bool) (r0:Nat→Bool→LA→O R)=>(tW N r0 (fun l g b m i o c f=>(Ux N r0 l g d b m e N i o c f)) p q r e s t u d))).1
theorem qk (p q r e s t u d r0):(@XT R N p q r e s t u d r0)=(tW N r0 (fun l g b m i o c f=>(Ux N r0 l g d b m e N i o c f)) p q r e s t u d):=by rw[XT,(Ae _).2]
def Av0:Hints:={ H:=(hS hL (hS hL (hS hL (hS hL (hS hL (hS (hS hL (hS (hP [1,6,7,22,23,24] hL) hL)) hL)))))),nils:=[(4,1)],modes:=[(2,1),(0,0)] }
def A5b:Dg:=[(171,Gr N),(132,K4 N)]
def Bef (F:KF R):=Hp Tryz.f177 Av0 (A5b N) [] N F
def TH (F:KF R):Nat→Bool→LA→O R:=(fun z aa ab=>F (.tup [(.own 300000 0 z),(.bool aa)]) (hq [(bQ 1 ab)]))
def Beg (l:LA) (g:Nat) (d:Bool) (b:Nat) (m:LA) (e:Bool) (i o c:Int) (f:LA):St:=⟨[(1,(.imm l g 1 false d)),(6,(.own 300000 0 b)),(7,(.int .u64 i)),(22,(.imm m b 1 false e)),(23,(iv o)),(24,(iv c))],(hq [(bQ 1 f)])⟩
def Beh (F:KF R):=Bef N F [1,1,1,1,1,0,1,0] []
theorem tX (F:KF R) (l:LA) (g:Nat) (d:Bool) (b:Nat) (m:LA) (e:Bool):∀ (n:Nat) (i o c:Int) (f:LA),Ap (Beh N F) n (Beg l g d b m e i o c f)=(Ux N (TH F) l g d b m e n i o c f)
 | 0,_,_,_,_=>by kernel_rfl
 | n+1,i,o,c,f=>Eq.trans (by kernel_rfl) (Bm (IV N (TH F) l g d b m e · i o c f) (funext fun i=>funext fun o=>funext fun c=>funext fun f=>(tX F l g d b m e n i o c f)):_)
theorem Av1 (p:LA) (q:Nat) (r e:Bool) (s:LA) (t:Nat) (u d:Bool) (F:KF R):Cd (A5b N) Av0 N 177 [(.imm p q 1 r e),(.imm s t 1 u d)] [] F=(XT N p q r e s t u d (TH F)):=by
 rw[qk]
 exact Eq.trans (by kernel_rfl) (Bm (tW N (TH F) · p q r e s t u d) (funext fun l=>funext fun g=>funext fun b=>funext fun m=>funext fun i=>funext fun o=>funext fun c=>funext fun f=>(Ai ..).trans (tX N F l g d b m e N i o c f)):_)
def Alo (a:LA) (h:Ak) (k:KF R):O R :=
 match a,h with
 | [(.imm p q 1 r e),(.imm s t 1 u d)],[]=>(XT N p q r e s t u d (TH k))
 | _,_=>none
theorem Av2:An N 177 @Alo:=by
 intro R Q a h k j;unfold Alo;split;exact Ax (Av1 ..) (Av1 ..) ⟨Gs N,K5 N,trivial⟩;exact Az
def Av3:=Ay (Av2 N)
def Av4:=Ca (Av2 N)
def gV (b:LA) (c:Nat) (m d:Bool) (e:Int) (f:LA) (g:Nat) (n i:Bool) (l:Int) (r0:Nat→LA→O R):O R :=
 (Ck N e (fun o s=>(QG N b c false d (s.take (o*1)) o false true (fun p t=>(Ck N l (fun q u=>(QG N f g false i (u.take (q*1)) q false true (fun r v=>(XT N (t.take (p*1)) p false true (v.take (r*1)) r false true (fun w aa x=>(r0 w x)))))))))))
def G3:=(Ae (@gV R)).1
theorem gW:@G3 R=@gV R:=(Ae _).2
def As0:Hints:={ H:=hL,nils:=[(8,1)],modes:=[(2,1)] }
def Az3:Dg:=[(149,Hq N),(135,ki N),(177,Av3 N)]
def nf (F:KF R):Nat→LA→O R:=(fun y z=>F (.own 300000 0 y) (hq [(bQ 1 z)]))
theorem ng (b:LA) (c:Nat) (m d:Bool) (e:Int) (f:LA) (g:Nat) (n i:Bool) (l:Int) (F:KF R):Cd (Az3 N) As0 N 196 [(.imm b c 1 m d),(.int .u64 e),(.imm f g 1 n i),(.int .u64 l)] [] F=(G3 N b c m d e f g n i l (nf F)):=by
 rw[gW]
 kernel_rfl
def gX (a:LA) (h:Ak) (k:KF R):O R :=
 match a,h with
 | [(.imm b c 1 m d),(.int .u64 e),(.imm f g 1 n i),(.int .u64 l)],[]=>(G3 N b c m d e f g n i l (nf k))
 | _,_=>none
theorem nh:An N 196 @gX:=by
 intro R Q a h k j;unfold gX;split;exact Ax (ng ..) (ng ..) ⟨Hr N,kj N,Av4 N,trivial⟩;exact Az
def As1:=Ay (nh N)
def As2:=Ca (nh N)
end
end Gx
